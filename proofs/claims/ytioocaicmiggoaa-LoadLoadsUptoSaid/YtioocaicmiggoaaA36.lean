/- Lld, Ssc: texts merged for a claim by a program of mine. -/
import Derived.Test.YtioocaicmiggoaaA24
import Derived.Test.YtioocaicmiggoaaA31
import Derived.Test.YtioocaicmiggoaaA35
import Derived.BigQuiet
import Derived.Test.YtioocaicmiggoaaA05
import Derived.Deep.DeepCutAuto
namespace Go.Proofs.Ytioocaicmiggoaa
set_option linter.unusedVariables false
set_option linter.unusedSimpArgs false
open Go.RowKit Go.Deep Go.Maps
set_option maxRecDepth 100000 in
set_option maxHeartbeats 8000000 in
theorem load_any (A : Option Addr) (n c : Nat) (l : List UInt8) (w : World) (hn : l.length = n) (hc : n ≤ c) (hm : c ≤ 9223372036854775807) (hR : Reads w w.heap.size 1 A n (bv l)) :
  Calls Try.prog 16 #[.slice A n c] w (LoadP l w) := by
 obtain ⟨W1, hW1⟩ : ∃ W, W = w.alloc (.cells #[.int .i64 0, .slice none 0 0, .slice none 0 0, .int .i64 0, .int .i64 0, .int .i64 0, .slice none 0 0, .slice none 0 0] 27) := ⟨_, rfl⟩
 have ha1 : Below w.heap.size w W1 := by rw [hW1]; exact (Below.refl _ _).alloc (Nat.le_refl _) _
 have hbz : Blk W1 w.heap.size 27 #[.int .i64 0, .slice none 0 0, .slice none 0 0, .int .i64 0, .int .i64 0, .int .i64 0, .slice none 0 0, .slice none 0 0] := by rw [hW1]; exact Blk.new _ _ _
 have hs1 : W1.heap.size = w.heap.size + 1 := by rw [hW1]; simp
 have HA1 := Lib.hid ha1
 have HBZ := Lib.hid hbz
 have CD := Lib.hid (decode_any A n c l W1 hn hc hm ((hR.below ha1).more ha1.size))
 have nn : (0 : Int) ≤ (n : Int) := by omega
 clear ha1 hbz hR hn
 go_enter Try.func16, Try.ntmps16
 go_upto_region 1 with fail
 rw [← hW1]
 clear hW1
 go_wp2_with fail
 refine CD.out.mono ?_
 intro e w2 hp
 obtain ⟨T, vk, vkk, vs, vc, ec, rfl, htf, hb2, hor⟩ := decp_tab hp
 have htx := htf.tab
 obtain ⟨A1, x1, rfl, _, _⟩ := htx.keys.slice
 obtain ⟨A2, x2, rfl, _, _⟩ := htx.kinds.slice
 obtain ⟨A3, x3, rfl, _, _⟩ := htx.states.slice
 obtain ⟨A4, x4, rfl, _, _⟩ := htx.codes.slice
 have HOR := Lib.hid hor
 obtain ⟨W3, hW3⟩ : ∃ W, W = w2.alloc (.cells #[.int .i64 T.strategy, .slice A1 T.keys.length x1, .slice A2 T.kinds.length x2, .int .i64 T.syms, .int .i64 T.runs, .int .i64 T.cells, .slice A3 T.states.length x3, .slice A4 T.codes.length x4] 27) := ⟨_, rfl⟩
 have ha3 : Below w2.heap.size w2 W3 := by rw [hW3]; exact (Below.refl _ _).alloc (Nat.le_refl _) _
 have HBT : Hid (Blk W3 w2.heap.size 27 #[.int .i64 T.strategy, .slice A1 T.keys.length x1, .slice A2 T.kinds.length x2, .int .i64 T.syms, .int .i64 T.runs, .int .i64 T.cells, .slice A3 T.states.length x3, .slice A4 T.codes.length x4]) := Lib.hid (by rw [hW3]; exact Blk.new _ _ _)
 have HTX := Lib.hid (htf.below ha3)
 have HS1 : Hid (W1.heap.size = w.heap.size + 1) := Lib.hid hs1
 have h13 := hb2.trans (ha3.mono hb2.size)
 have HA3 := Lib.hid (HA1.out.trans (h13.mono HA1.out.size))
 have HBZ3 := Lib.hid (HBZ.out.below h13 HBZ.out.lt)
 have RET := Lib.hid (fun W ec (hb : Below w.heap.size w W) (h : LoadR l zTab ec) => show LoadP l w (.returned (.tuple #[.agg #[.int .i64 0, .slice none 0 0, .slice none 0 0, .int .i64 0, .int .i64 0, .int .i64 0, .slice none 0 0, .slice none 0 0], .int .i64 ec])) W from ⟨zTab, _, _, _, _, ec, rfl, tabf_zero _ W, hb, h⟩)
 clear hp htx htf hs1 hb2 hor ha3 h13 CD
 go_upto_region 2 with fail
 rw [← hW3]
 clear hW3
 obtain ⟨k0, k1, k2, k3, k4, k5, k6, k7⟩ := blk8 HBT.out
 have z0 := HBZ3.out.frozen 0
 have z1 := HBZ3.out.frozen 1
 have z2 := HBZ3.out.frozen 2
 have z3 := HBZ3.out.frozen 3
 have z4 := HBZ3.out.frozen 4
 have z5 := HBZ3.out.frozen 5
 have z6 := HBZ3.out.frozen 6
 have z7 := HBZ3.out.frozen 7
 obtain ⟨y0, y1, y2, y3, y4, y5, y6, y7⟩ := blk8 HBZ3.out
 by_cases he : ec = 0
 ·subst he
  obtain ⟨him⟩ : Nonempty (IsImg T l) := by
   rcases HOR.out with ⟨h, _⟩ | ⟨_, _, h⟩
   ·exact ⟨h⟩
   ·exact absurd h.symm (decErr_ne l)
  have HIM := Lib.hid him
  have CV := Lib.hid (verify_any T _ _ _ _ W3 HTX.out.tab)
  obtain ⟨vt, hvt⟩ : ∃ vt, verT T = vt := ⟨_, rfl⟩
  rw [hvt] at CV
  have HVT := Lib.hid hvt
  clear hvt him
  go_wp2_with fail
  refine CV.out.mono ?_
  rintro e w4 ⟨rfl, hb4⟩
  have HA4 := Lib.hid (HA3.out.trans (hb4.mono HA3.out.size))
  have HBZ4 := Lib.hid (HBZ3.out.below hb4 HBZ3.out.lt)
  have HB4 := Lib.hid hb4
  have HBT4 := Lib.hid (HBT.out.below hb4 HBT.out.lt)
  clear hb4 CV z0 z1 z2 z3 z4 z5 z6 z7 y0 y1 y2 y3 y4 y5 y6 y7 k0 k1 k2 k3 k4 k5 k6 k7
  have z0 := HBZ4.out.frozen 0
  have z1 := HBZ4.out.frozen 1
  have z2 := HBZ4.out.frozen 2
  have z3 := HBZ4.out.frozen 3
  have z4 := HBZ4.out.frozen 4
  have z5 := HBZ4.out.frozen 5
  have z6 := HBZ4.out.frozen 6
  have z7 := HBZ4.out.frozen 7
  obtain ⟨y0, y1, y2, y3, y4, y5, y6, y7⟩ := blk8 HBZ4.out
  obtain ⟨k0, k1, k2, k3, k4, k5, k6, k7⟩ := blk8 HBT4.out
  cases vt with
  | true =>
   go_wp2_with fail
   obtain ⟨X, hX⟩ : ∃ X, X = dSet8 w4 w.heap.size (.int .i64 T.strategy) (.slice A1 T.keys.length x1) (.slice A2 T.kinds.length x2) (.int .i64 T.syms) (.int .i64 T.runs) (.int .i64 T.cells) (.slice A3 T.states.length x3) (.slice A4 T.codes.length x4) := ⟨_, rfl⟩
   have HBX := Lib.hid (dSet8_blk HBZ4.out (.int .i64 T.strategy) (.slice A1 T.keys.length x1) (.slice A2 T.kinds.length x2) (.int .i64 T.syms) (.int .i64 T.runs) (.int .i64 T.cells) (.slice A3 T.states.length x3) (.slice A4 T.codes.length x4))
   have HAX := Lib.hid (dSet8_below HA4.out (Nat.le_refl _) (.int .i64 T.strategy) (.slice A1 T.keys.length x1) (.slice A2 T.kinds.length x2) (.int .i64 T.syms) (.int .i64 T.runs) (.int .i64 T.cells) (.slice A3 T.states.length x3) (.slice A4 T.codes.length x4))
   have HKX : Hid (KeepQ (fun b => W1.heap.size ≤ b) w4 X) := Lib.hid (by rw [hX]; exact keepQ_dSet8 (fun b hb => by have := HS1.out; omega) _ _ _ _ _ _ _ _)
   rw [← hX] at HBX HAX
   unfold dSet8 at hX
   rw [← hX]
   clear hX
   obtain ⟨q0, q1, q2, q3, q4, q5, q6, q7⟩ := blk8 HBX.out
   exact bodyPost_ret (v := .tuple #[.agg #[.int .i64 T.strategy, .slice A1 T.keys.length x1, .slice A2 T.kinds.length x2, .int .i64 T.syms, .int .i64 T.runs, .int .i64 T.cells, .slice A3 T.states.length x3, .slice A4 T.codes.length x4], .int .i64 0]) (by simp [results, Try.results16, go_sem, q0, q1, q2, q3, q4, q5, q6, q7]) rfl (⟨T, _, _, _, _, 0, rfl, TabF.keep (HTX.out.below HB4.out) HKX.out (by have := HS1.out; omega), HAX.out, .inl ⟨HIM.out, HVT.out, rfl⟩⟩)
  | false =>
   go_wp2_with fail
   obtain ⟨X, hX⟩ : ∃ X, X = dSet8 w4 w.heap.size (.int .i64 0) (.slice none 0 0) (.slice none 0 0) (.int .i64 0) (.int .i64 0) (.int .i64 0) (.slice none 0 0) (.slice none 0 0) := ⟨_, rfl⟩
   have HBX := Lib.hid (dSet8_blk HBZ4.out (.int .i64 0) (.slice none 0 0) (.slice none 0 0) (.int .i64 0) (.int .i64 0) (.int .i64 0) (.slice none 0 0) (.slice none 0 0))
   have HAX := Lib.hid (dSet8_below HA4.out (Nat.le_refl _) (.int .i64 0) (.slice none 0 0) (.slice none 0 0) (.int .i64 0) (.int .i64 0) (.int .i64 0) (.slice none 0 0) (.slice none 0 0))
   have HKX : Hid (KeepQ (fun b => W1.heap.size ≤ b) w4 X) := Lib.hid (by rw [hX]; exact keepQ_dSet8 (fun b hb => by have := HS1.out; omega) _ _ _ _ _ _ _ _)
   rw [← hX] at HBX HAX
   unfold dSet8 at hX
   rw [← hX]
   clear hX
   obtain ⟨q0, q1, q2, q3, q4, q5, q6, q7⟩ := blk8 HBX.out
   exact bodyPost_ret (v := .tuple #[.agg #[.int .i64 0, .slice none 0 0, .slice none 0 0, .int .i64 0, .int .i64 0, .int .i64 0, .slice none 0 0, .slice none 0 0], .int .i64 32]) (by simp [results, Try.results16, go_sem, q0, q1, q2, q3, q4, q5, q6, q7]) rfl (RET.out X 32 HAX.out (.inr ⟨rfl, .inl ⟨T, HIM.out, HVT.out, rfl⟩⟩))
 ·have hec : LoadR l zTab ec := by
   rcases HOR.out with ⟨_, h⟩ | ⟨h1, _, h2⟩
   ·exact absurd h he
   ·exact .inr ⟨rfl, .inr ⟨h1, h2⟩⟩
  have HEC := Lib.hid hec
  have e1 : (ec == 0) = false := by simpa using he
  have e2 : (ec != 0) = true := by simpa using he
  clear he hec
  go_wp2_with fail
  obtain ⟨X, hX⟩ : ∃ X, X = dSet8 W3 w.heap.size (.int .i64 0) (.slice none 0 0) (.slice none 0 0) (.int .i64 0) (.int .i64 0) (.int .i64 0) (.slice none 0 0) (.slice none 0 0) := ⟨_, rfl⟩
  have HBX := Lib.hid (dSet8_blk HBZ3.out (.int .i64 0) (.slice none 0 0) (.slice none 0 0) (.int .i64 0) (.int .i64 0) (.int .i64 0) (.slice none 0 0) (.slice none 0 0))
  have HAX := Lib.hid (dSet8_below HA3.out (Nat.le_refl _) (.int .i64 0) (.slice none 0 0) (.slice none 0 0) (.int .i64 0) (.int .i64 0) (.int .i64 0) (.slice none 0 0) (.slice none 0 0))
  have HKX : Hid (KeepQ (fun b => W1.heap.size ≤ b) W3 X) := Lib.hid (by rw [hX]; exact keepQ_dSet8 (fun b hb => by have := HS1.out; omega) _ _ _ _ _ _ _ _)
  rw [← hX] at HBX HAX
  unfold dSet8 at hX
  rw [← hX]
  clear hX
  obtain ⟨q0, q1, q2, q3, q4, q5, q6, q7⟩ := blk8 HBX.out
  exact bodyPost_ret (v := .tuple #[.agg #[.int .i64 0, .slice none 0 0, .slice none 0 0, .int .i64 0, .int .i64 0, .int .i64 0, .slice none 0 0, .slice none 0 0], .int .i64 ec]) (by simp [results, Try.results16, go_sem, q0, q1, q2, q3, q4, q5, q6, q7]) rfl (RET.out X ec HAX.out HEC.out)
set_option maxRecDepth 100000 in
set_option maxHeartbeats 8000000 in
theorem rload_any (A : Option Addr) (n c : Nat) (l : List UInt8) (w : World) (hn : l.length = n) (hc : n ≤ c) (hm : c ≤ 9223372036854775807) (hR : Reads w w.heap.size 1 A n (bv l)) :
  Calls Try.prog 17 #[.slice A n c] w (LoadP l w) := by
 obtain ⟨W1, hW1⟩ : ∃ W, W = w.alloc (.cells #[.int .i64 0, .slice none 0 0, .slice none 0 0, .int .i64 0, .int .i64 0, .int .i64 0, .slice none 0 0, .slice none 0 0] 27) := ⟨_, rfl⟩
 have ha1 : Below w.heap.size w W1 := by rw [hW1]; exact (Below.refl _ _).alloc (Nat.le_refl _) _
 have hbz : Blk W1 w.heap.size 27 #[.int .i64 0, .slice none 0 0, .slice none 0 0, .int .i64 0, .int .i64 0, .int .i64 0, .slice none 0 0, .slice none 0 0] := by rw [hW1]; exact Blk.new _ _ _
 have hs1 : W1.heap.size = w.heap.size + 1 := by rw [hW1]; simp
 have HA1 := Lib.hid ha1
 have HBZ := Lib.hid hbz
 have CD := Lib.hid (rdecode_any A n c l W1 hn hc hm ((hR.below ha1).more ha1.size))
 have nn : (0 : Int) ≤ (n : Int) := by omega
 clear ha1 hbz hR hn
 go_enter Try.func17, Try.ntmps17
 go_upto_region 1 with fail
 rw [← hW1]
 clear hW1
 go_wp2_with fail
 refine CD.out.mono ?_
 intro e w2 hp
 obtain ⟨T, vk, vkk, vs, vc, ec, rfl, htf, hb2, hor⟩ := decp_tab hp
 have htx := htf.tab
 obtain ⟨A1, x1, rfl, _, _⟩ := htx.keys.slice
 obtain ⟨A2, x2, rfl, _, _⟩ := htx.kinds.slice
 obtain ⟨A3, x3, rfl, _, _⟩ := htx.states.slice
 obtain ⟨A4, x4, rfl, _, _⟩ := htx.codes.slice
 have HOR := Lib.hid hor
 obtain ⟨W3, hW3⟩ : ∃ W, W = w2.alloc (.cells #[.int .i64 T.strategy, .slice A1 T.keys.length x1, .slice A2 T.kinds.length x2, .int .i64 T.syms, .int .i64 T.runs, .int .i64 T.cells, .slice A3 T.states.length x3, .slice A4 T.codes.length x4] 27) := ⟨_, rfl⟩
 have ha3 : Below w2.heap.size w2 W3 := by rw [hW3]; exact (Below.refl _ _).alloc (Nat.le_refl _) _
 have HBT : Hid (Blk W3 w2.heap.size 27 #[.int .i64 T.strategy, .slice A1 T.keys.length x1, .slice A2 T.kinds.length x2, .int .i64 T.syms, .int .i64 T.runs, .int .i64 T.cells, .slice A3 T.states.length x3, .slice A4 T.codes.length x4]) := Lib.hid (by rw [hW3]; exact Blk.new _ _ _)
 have HTX := Lib.hid (htf.below ha3)
 have HS1 : Hid (W1.heap.size = w.heap.size + 1) := Lib.hid hs1
 have h13 := hb2.trans (ha3.mono hb2.size)
 have HA3 := Lib.hid (HA1.out.trans (h13.mono HA1.out.size))
 have HBZ3 := Lib.hid (HBZ.out.below h13 HBZ.out.lt)
 have RET := Lib.hid (fun W ec (hb : Below w.heap.size w W) (h : LoadR l zTab ec) => show LoadP l w (.returned (.tuple #[.agg #[.int .i64 0, .slice none 0 0, .slice none 0 0, .int .i64 0, .int .i64 0, .int .i64 0, .slice none 0 0, .slice none 0 0], .int .i64 ec])) W from ⟨zTab, _, _, _, _, ec, rfl, tabf_zero _ W, hb, h⟩)
 clear hp htx htf hs1 hb2 hor ha3 h13 CD
 go_upto_region 2 with fail
 rw [← hW3]
 clear hW3
 obtain ⟨k0, k1, k2, k3, k4, k5, k6, k7⟩ := blk8 HBT.out
 have z0 := HBZ3.out.frozen 0
 have z1 := HBZ3.out.frozen 1
 have z2 := HBZ3.out.frozen 2
 have z3 := HBZ3.out.frozen 3
 have z4 := HBZ3.out.frozen 4
 have z5 := HBZ3.out.frozen 5
 have z6 := HBZ3.out.frozen 6
 have z7 := HBZ3.out.frozen 7
 obtain ⟨y0, y1, y2, y3, y4, y5, y6, y7⟩ := blk8 HBZ3.out
 by_cases he : ec = 0
 ·subst he
  obtain ⟨him⟩ : Nonempty (IsImg T l) := by
   rcases HOR.out with ⟨h, _⟩ | ⟨_, _, h⟩
   ·exact ⟨h⟩
   ·exact absurd h.symm (decErr_ne l)
  have HIM := Lib.hid him
  have CV := Lib.hid (may_any T _ _ _ _ W3 HTX.out.tab him.small)
  rw [may_same] at CV
  obtain ⟨vt, hvt⟩ : ∃ vt, verT T = vt := ⟨_, rfl⟩
  rw [hvt] at CV
  have HVT := Lib.hid hvt
  clear hvt him
  go_wp2_with fail
  refine CV.out.mono ?_
  rintro e w4 ⟨rfl, hb4⟩
  have HA4 := Lib.hid (HA3.out.trans (hb4.mono HA3.out.size))
  have HBZ4 := Lib.hid (HBZ3.out.below hb4 HBZ3.out.lt)
  have HB4 := Lib.hid hb4
  have HBT4 := Lib.hid (HBT.out.below hb4 HBT.out.lt)
  clear hb4 CV z0 z1 z2 z3 z4 z5 z6 z7 y0 y1 y2 y3 y4 y5 y6 y7 k0 k1 k2 k3 k4 k5 k6 k7
  have z0 := HBZ4.out.frozen 0
  have z1 := HBZ4.out.frozen 1
  have z2 := HBZ4.out.frozen 2
  have z3 := HBZ4.out.frozen 3
  have z4 := HBZ4.out.frozen 4
  have z5 := HBZ4.out.frozen 5
  have z6 := HBZ4.out.frozen 6
  have z7 := HBZ4.out.frozen 7
  obtain ⟨y0, y1, y2, y3, y4, y5, y6, y7⟩ := blk8 HBZ4.out
  obtain ⟨k0, k1, k2, k3, k4, k5, k6, k7⟩ := blk8 HBT4.out
  cases vt with
  | true =>
   go_wp2_with fail
   obtain ⟨X, hX⟩ : ∃ X, X = dSet8 w4 w.heap.size (.int .i64 T.strategy) (.slice A1 T.keys.length x1) (.slice A2 T.kinds.length x2) (.int .i64 T.syms) (.int .i64 T.runs) (.int .i64 T.cells) (.slice A3 T.states.length x3) (.slice A4 T.codes.length x4) := ⟨_, rfl⟩
   have HBX := Lib.hid (dSet8_blk HBZ4.out (.int .i64 T.strategy) (.slice A1 T.keys.length x1) (.slice A2 T.kinds.length x2) (.int .i64 T.syms) (.int .i64 T.runs) (.int .i64 T.cells) (.slice A3 T.states.length x3) (.slice A4 T.codes.length x4))
   have HAX := Lib.hid (dSet8_below HA4.out (Nat.le_refl _) (.int .i64 T.strategy) (.slice A1 T.keys.length x1) (.slice A2 T.kinds.length x2) (.int .i64 T.syms) (.int .i64 T.runs) (.int .i64 T.cells) (.slice A3 T.states.length x3) (.slice A4 T.codes.length x4))
   have HKX : Hid (KeepQ (fun b => W1.heap.size ≤ b) w4 X) := Lib.hid (by rw [hX]; exact keepQ_dSet8 (fun b hb => by have := HS1.out; omega) _ _ _ _ _ _ _ _)
   rw [← hX] at HBX HAX
   unfold dSet8 at hX
   rw [← hX]
   clear hX
   obtain ⟨q0, q1, q2, q3, q4, q5, q6, q7⟩ := blk8 HBX.out
   exact bodyPost_ret (v := .tuple #[.agg #[.int .i64 T.strategy, .slice A1 T.keys.length x1, .slice A2 T.kinds.length x2, .int .i64 T.syms, .int .i64 T.runs, .int .i64 T.cells, .slice A3 T.states.length x3, .slice A4 T.codes.length x4], .int .i64 0]) (by simp [results, Try.results17, go_sem, q0, q1, q2, q3, q4, q5, q6, q7]) rfl (⟨T, _, _, _, _, 0, rfl, TabF.keep (HTX.out.below HB4.out) HKX.out (by have := HS1.out; omega), HAX.out, .inl ⟨HIM.out, HVT.out, rfl⟩⟩)
  | false =>
   go_wp2_with fail
   obtain ⟨X, hX⟩ : ∃ X, X = dSet8 w4 w.heap.size (.int .i64 0) (.slice none 0 0) (.slice none 0 0) (.int .i64 0) (.int .i64 0) (.int .i64 0) (.slice none 0 0) (.slice none 0 0) := ⟨_, rfl⟩
   have HBX := Lib.hid (dSet8_blk HBZ4.out (.int .i64 0) (.slice none 0 0) (.slice none 0 0) (.int .i64 0) (.int .i64 0) (.int .i64 0) (.slice none 0 0) (.slice none 0 0))
   have HAX := Lib.hid (dSet8_below HA4.out (Nat.le_refl _) (.int .i64 0) (.slice none 0 0) (.slice none 0 0) (.int .i64 0) (.int .i64 0) (.int .i64 0) (.slice none 0 0) (.slice none 0 0))
   have HKX : Hid (KeepQ (fun b => W1.heap.size ≤ b) w4 X) := Lib.hid (by rw [hX]; exact keepQ_dSet8 (fun b hb => by have := HS1.out; omega) _ _ _ _ _ _ _ _)
   rw [← hX] at HBX HAX
   unfold dSet8 at hX
   rw [← hX]
   clear hX
   obtain ⟨q0, q1, q2, q3, q4, q5, q6, q7⟩ := blk8 HBX.out
   exact bodyPost_ret (v := .tuple #[.agg #[.int .i64 0, .slice none 0 0, .slice none 0 0, .int .i64 0, .int .i64 0, .int .i64 0, .slice none 0 0, .slice none 0 0], .int .i64 32]) (by simp [results, Try.results17, go_sem, q0, q1, q2, q3, q4, q5, q6, q7]) rfl (RET.out X 32 HAX.out (.inr ⟨rfl, .inl ⟨T, HIM.out, HVT.out, rfl⟩⟩))
 ·have hec : LoadR l zTab ec := by
   rcases HOR.out with ⟨_, h⟩ | ⟨h1, _, h2⟩
   ·exact absurd h he
   ·exact .inr ⟨rfl, .inr ⟨h1, h2⟩⟩
  have HEC := Lib.hid hec
  have e1 : (ec == 0) = false := by simpa using he
  have e2 : (ec != 0) = true := by simpa using he
  clear he hec
  go_wp2_with fail
  obtain ⟨X, hX⟩ : ∃ X, X = dSet8 W3 w.heap.size (.int .i64 0) (.slice none 0 0) (.slice none 0 0) (.int .i64 0) (.int .i64 0) (.int .i64 0) (.slice none 0 0) (.slice none 0 0) := ⟨_, rfl⟩
  have HBX := Lib.hid (dSet8_blk HBZ3.out (.int .i64 0) (.slice none 0 0) (.slice none 0 0) (.int .i64 0) (.int .i64 0) (.int .i64 0) (.slice none 0 0) (.slice none 0 0))
  have HAX := Lib.hid (dSet8_below HA3.out (Nat.le_refl _) (.int .i64 0) (.slice none 0 0) (.slice none 0 0) (.int .i64 0) (.int .i64 0) (.int .i64 0) (.slice none 0 0) (.slice none 0 0))
  have HKX : Hid (KeepQ (fun b => W1.heap.size ≤ b) W3 X) := Lib.hid (by rw [hX]; exact keepQ_dSet8 (fun b hb => by have := HS1.out; omega) _ _ _ _ _ _ _ _)
  rw [← hX] at HBX HAX
  unfold dSet8 at hX
  rw [← hX]
  clear hX
  obtain ⟨q0, q1, q2, q3, q4, q5, q6, q7⟩ := blk8 HBX.out
  exact bodyPost_ret (v := .tuple #[.agg #[.int .i64 0, .slice none 0 0, .slice none 0 0, .int .i64 0, .int .i64 0, .int .i64 0, .slice none 0 0, .slice none 0 0], .int .i64 ec]) (by simp [results, Try.results17, go_sem, q0, q1, q2, q3, q4, q5, q6, q7]) rfl (RET.out X ec HAX.out HEC.out)
end Go.Proofs.Ytioocaicmiggoaa
namespace Go.Proofs.Ytioocaicmiggoaa
set_option linter.unusedVariables false
set_option linter.unusedSimpArgs false
open Go.RowKit Go.Deep
theorem inps_gets {w : World} {v : Value} {l : List TInp} (h : SlR 4 InpC w v l) {i : Nat} {x : TInp} (hx : l[i]? = some x) :
  ∃ b off c, v = .slice (some ⟨b, off, none⟩) l.length c ∧ w.cell? ⟨b, off + i * 4, none⟩ = some (.int .i64 x.op) ∧ w.cell? ⟨b, off + i * 4 + 1, none⟩ = some (.int .i64 x.kind) ∧ w.cell? ⟨b, off + i * 4 + 2, none⟩ = some (.int .i64 x.pos) ∧ w.cell? ⟨b, off + i * 4 + 3, none⟩ = some (.int .i64 x.attr) := by
 obtain ⟨b, off, c, hv, h1, h2, hi, cs, hl, ⟨rfl, hw⟩, hc⟩ := h.get hx
 exact ⟨b, off, c, hv, hc 0 _ rfl, hc 1 _ rfl, hc 2 _ rfl, hc 3 _ rfl⟩
theorem vals_gets {w : World} {v : Value} {l : List TVal} (h : SlR 2 ValC w v l) {i : Nat} {x : TVal} (hx : l[i]? = some x) :
  ∃ b off c, v = .slice (some ⟨b, off, none⟩) l.length c ∧ w.cell? ⟨b, off + i * 2, none⟩ = some (.int .i64 x.kind) ∧ w.cell? ⟨b, off + i * 2 + 1, none⟩ = some (.int .u64 x.bits) := by
 obtain ⟨b, off, c, hv, h1, h2, hi, cs, hl, ⟨rfl, hw⟩, hc⟩ := h.get hx
 exact ⟨b, off, c, hv, hc 0 _ rfl, hc 1 _ rfl⟩
theorem inss_gets {w : World} {v : Value} {l : List TIns} (h : SlR 4 InsC w v l) {i : Nat} {x : TIns} (hx : l[i]? = some x) :
  ∃ b off c, v = .slice (some ⟨b, off, none⟩) l.length c ∧ w.cell? ⟨b, off + i * 4, none⟩ = some (.int .i64 x.op) ∧ w.cell? ⟨b, off + i * 4 + 1, none⟩ = some (.int .i64 x.dst) ∧ w.cell? ⟨b, off + i * 4 + 2, none⟩ = some (.int .i64 x.a) ∧ w.cell? ⟨b, off + i * 4 + 3, none⟩ = some (.int .i64 x.b) := by
 obtain ⟨b, off, c, hv, h1, h2, hi, cs, hl, ⟨rfl, hw⟩, hc⟩ := h.get hx
 exact ⟨b, off, c, hv, hc 0 _ rfl, hc 1 _ rfl, hc 2 _ rfl, hc 3 _ rfl⟩
theorem blk5s {w : World} {g : Nat} {t : TypeId} {a0 a1 a2 a3 a4 : Value} (h : Blk w g t #[a0, a1, a2, a3, a4]) :
  w.cell? ⟨g, 0, none⟩ = some a0 ∧ w.cell? ⟨g, 1, none⟩ = some a1 ∧ w.cell? ⟨g, 2, none⟩ = some a2 ∧ w.cell? ⟨g, 3, none⟩ = some a3 ∧ w.cell? ⟨g, 4, none⟩ = some a4 := ⟨h.cell 0, h.cell 1, h.cell 2, h.cell 3, h.cell 4⟩
set_option maxRecDepth 100000 in
set_option maxHeartbeats 4000000 in
theorem same_code (x : TCode) (vi vc vl ui uc ul : Value) (w : World) (hi : SlR 4 InpC w vi x.inputs) (hc : SlR 2 ValC w vc x.consts) (hl : SlR 4 InsC w vl x.list) (ki : SlR 4 InpC w ui x.inputs) (kc : SlR 2 ValC w uc x.consts) (kl : SlR 4 InsC w ul x.list) :
  Calls Try.prog 30 #[.agg #[.int .i64 x.regs, .int .i64 x.slots, vi, vc, vl], .agg #[.int .i64 x.regs, .int .i64 x.slots, ui, uc, ul]] w fun e w' => e = .returned (.bool true) ∧ Below w.heap.size w w' := by
 obtain ⟨A1, c1, rfl, h1, h2⟩ := hi.slice
 obtain ⟨A2, c2, rfl, h3, h4⟩ := hc.slice
 obtain ⟨A3, c3, rfl, h5, h6⟩ := hl.slice
 obtain ⟨A4, c4, rfl, h7, h8⟩ := ki.slice
 obtain ⟨A5, c5, rfl, h9, h10⟩ := kc.slice
 obtain ⟨A6, c6, rfl, h11, h12⟩ := kl.slice
 unfold maxLen at h2 h4 h6
 clear h7 h8 h9 h10 h11 h12
 obtain ⟨W, hW⟩ : ∃ W, W = (w.alloc (.cells #[.int .i64 x.regs, .int .i64 x.slots, .slice A1 x.inputs.length c1, .slice A2 x.consts.length c2, .slice A3 x.list.length c3] 40)).alloc (.cells #[.int .i64 x.regs, .int .i64 x.slots, .slice A4 x.inputs.length c4, .slice A5 x.consts.length c5, .slice A6 x.list.length c6] 40) := ⟨_, rfl⟩
 have hb : Below w.heap.size w W := by rw [hW]; exact ((Below.refl _ _).alloc (Nat.le_refl _) _).alloc (by simp) _
 have b1 : Blk W w.heap.size 40 #[.int .i64 x.regs, .int .i64 x.slots, .slice A1 x.inputs.length c1, .slice A2 x.consts.length c2, .slice A3 x.list.length c3] := by rw [hW]; exact (Blk.new _ _ _).alloc _
 have b2 : Blk W (w.heap.size + 1) 40 #[.int .i64 x.regs, .int .i64 x.slots, .slice A4 x.inputs.length c4, .slice A5 x.consts.length c5, .slice A6 x.list.length c6] := by
  have h := Blk.new (w.alloc (.cells #[.int .i64 x.regs, .int .i64 x.slots, .slice A1 x.inputs.length c1, .slice A2 x.consts.length c2, .slice A3 x.list.length c3] 40)) 40 #[.int .i64 x.regs, .int .i64 x.slots, .slice A4 x.inputs.length c4, .slice A5 x.consts.length c5, .slice A6 x.list.length c6]
  rw [World.size_alloc] at h
  rw [hW]; exact h
 have kp := KeepC.of_below hb
 have HI := Lib.hid (keep_inps kp hi)
 have HC := Lib.hid (keep_vals kp hc)
 have HL := Lib.hid (keep_inss kp hl)
 have KI := Lib.hid (keep_inps kp ki)
 have KC := Lib.hid (keep_vals kp kc)
 have KL := Lib.hid (keep_inss kp kl)
 have HB := Lib.hid hb
 have z1 : (0 : Int) ≤ (x.inputs.length : Int) := by omega
 have z2 : (0 : Int) ≤ (x.consts.length : Int) := by omega
 have z3 : (0 : Int) ≤ (x.list.length : Int) := by omega
 obtain ⟨p0, p1, p2, p3, p4⟩ := blk5s b1
 obtain ⟨q0, q1, q2, q3, q4⟩ := blk5s b2
 clear hi hc hl ki kc kl kp hb b1 b2
 go_enter Try.func30, Try.ntmps30
 go_upto_region 1 with fail
 try simp only [World.size_alloc]
 rw [← hW]
 clear hW
 go_wp2_with fail
 go_loopw [50] (fun s wr => ∃ r : Nat, r ≤ x.inputs.length ∧ s = .int .i64 r ∧ Hid (∃ q, wr = W.drewN q)) (fun s _ => x.inputs.length - (intOf s).toNat)
 case atStart => exact ⟨0, Nat.zero_le _, rfl, Lib.hid ⟨0, rfl⟩⟩
 case round =>
  obtain ⟨r, hr, rfl, hq⟩ := hrel
  obtain ⟨q, rfl⟩ := hq.out
  clear hq
  by_cases hlt : r < x.inputs.length
  ·obtain ⟨y, hy⟩ : ∃ y, x.inputs[r]? = some y := ⟨_, List.getElem?_eq_getElem hlt⟩
   obtain ⟨ba, oa, ca, ea, m0, m1, m2, m3⟩ := inps_gets HI.out hy
   obtain ⟨bb, ob, cb, eb, n0, n1, n2, n3⟩ := inps_gets KI.out hy
   injection ea with ea _ ea2
   injection eb with eb _ eb2
   subst ea ea2 eb eb2
   have b1 : (0 : Int) ≤ (r : Int) := by omega
   have b2 : (r : Int) < (x.inputs.length : Int) := by omega
   clear hy
   go_upto_region 6 with fail
   refine wp_region_quiet_lit (by kernel_rfl) (by kernel_rfl) ?_
   repeat (any_goals (first | go_big_quiet_step (fail) | quiet_step (fail) | (refine wpQuiet_step (fun K hK => ?_); go_simp; split <;> (refine hK _ ?_; clear hK K))))
   all_goals (refine wpQuiet_nil ?_; intro _ hw'; obtain ⟨nq, hw''⟩ := hw'; subst hw'')
   go_wp2_with fail
   go_roundw
   case rel => first | exact ⟨r + 1, by omega, by go_num, Lib.hid ⟨q + nq, by first | rfl | rw [World.drewN_drewN]⟩⟩ | ((repeat apply Exists.intro); exact ⟨⟨r + 1, by omega, by go_num, Lib.hid ⟨q + nq, by first | rfl | rw [World.drewN_drewN]⟩⟩, rfl⟩)
   case measure => simp [intOf]; omega
  ·have hge : (x.inputs.length : Int) ≤ (r : Int) := by omega
   go_wp2_with fail
   obtain ⟨d1, hd1⟩ : ∃ d1, d1 = q := ⟨_, rfl⟩
   rw [← hd1]
   clear hd1 hge hr hlt
   go_loopw [68] (fun s wr => ∃ r : Nat, r ≤ x.consts.length ∧ s = .int .i64 r ∧ Hid (∃ q, wr = W.drewN q)) (fun s _ => x.consts.length - (intOf s).toNat)
   case atStart => exact ⟨0, Nat.zero_le _, rfl, Lib.hid ⟨d1, rfl⟩⟩
   case round =>
    obtain ⟨r, hr, rfl, hq⟩ := hrel
    obtain ⟨q, rfl⟩ := hq.out
    clear hq
    by_cases hlt : r < x.consts.length
    ·obtain ⟨y, hy⟩ : ∃ y, x.consts[r]? = some y := ⟨_, List.getElem?_eq_getElem hlt⟩
     obtain ⟨ba, oa, ca, ea, m0, m1⟩ := vals_gets HC.out hy
     obtain ⟨bb, ob, cb, eb, n0, n1⟩ := vals_gets KC.out hy
     injection ea with ea _ ea2
     injection eb with eb _ eb2
     subst ea ea2 eb eb2
     have b1 : (0 : Int) ≤ (r : Int) := by omega
     have b2 : (r : Int) < (x.consts.length : Int) := by omega
     clear hy
     go_upto_region 12 with fail
     refine wp_region_quiet_lit (by kernel_rfl) (by kernel_rfl) ?_
     repeat (any_goals (first | go_big_quiet_step (fail) | quiet_step (fail) | (refine wpQuiet_step (fun K hK => ?_); go_simp; split <;> (refine hK _ ?_; clear hK K))))
     all_goals (refine wpQuiet_nil ?_; intro _ hw'; obtain ⟨nq, hw''⟩ := hw'; subst hw'')
     go_wp2_with fail
     go_roundw
     case rel => first | exact ⟨r + 1, by omega, by go_num, Lib.hid ⟨q + nq, by first | rfl | rw [World.drewN_drewN]⟩⟩ | ((repeat apply Exists.intro); exact ⟨⟨r + 1, by omega, by go_num, Lib.hid ⟨q + nq, by first | rfl | rw [World.drewN_drewN]⟩⟩, rfl⟩)
     case measure => simp [intOf]; omega
    ·have hge : (x.consts.length : Int) ≤ (r : Int) := by omega
     go_wp2_with fail
     obtain ⟨d2, hd2⟩ : ∃ d2, d2 = q := ⟨_, rfl⟩
     rw [← hd2]
     clear hd2 hge hr hlt
     go_loopw [86] (fun s wr => ∃ r : Nat, r ≤ x.list.length ∧ s = .int .i64 r ∧ Hid (∃ q, wr = W.drewN q)) (fun s _ => x.list.length - (intOf s).toNat)
     case atStart => exact ⟨0, Nat.zero_le _, rfl, Lib.hid ⟨d2, rfl⟩⟩
     case round =>
      obtain ⟨r, hr, rfl, hq⟩ := hrel
      obtain ⟨q, rfl⟩ := hq.out
      clear hq
      by_cases hlt : r < x.list.length
      ·obtain ⟨y, hy⟩ : ∃ y, x.list[r]? = some y := ⟨_, List.getElem?_eq_getElem hlt⟩
       obtain ⟨ba, oa, ca, ea, m0, m1, m2, m3⟩ := inss_gets HL.out hy
       obtain ⟨bb, ob, cb, eb, n0, n1, n2, n3⟩ := inss_gets KL.out hy
       injection ea with ea _ ea2
       injection eb with eb _ eb2
       subst ea ea2 eb eb2
       have b1 : (0 : Int) ≤ (r : Int) := by omega
       have b2 : (r : Int) < (x.list.length : Int) := by omega
       clear hy
       go_upto_region 18 with fail
       refine wp_region_quiet_lit (by kernel_rfl) (by kernel_rfl) ?_
       repeat (any_goals (first | go_big_quiet_step (fail) | quiet_step (fail) | (refine wpQuiet_step (fun K hK => ?_); go_simp; split <;> (refine hK _ ?_; clear hK K))))
       all_goals (refine wpQuiet_nil ?_; intro _ hw'; obtain ⟨nq, hw''⟩ := hw'; subst hw'')
       go_wp2_with fail
       go_roundw
       case rel => first | exact ⟨r + 1, by omega, by go_num, Lib.hid ⟨q + nq, by first | rfl | rw [World.drewN_drewN]⟩⟩ | ((repeat apply Exists.intro); exact ⟨⟨r + 1, by omega, by go_num, Lib.hid ⟨q + nq, by first | rfl | rw [World.drewN_drewN]⟩⟩, rfl⟩)
       case measure => simp [intOf]; omega
      ·have hge : (x.list.length : Int) ≤ (r : Int) := by omega
       go_wp2_with fail
       go_ret
       exact ⟨rfl, below_drewN HB.out _⟩
end Go.Proofs.Ytioocaicmiggoaa

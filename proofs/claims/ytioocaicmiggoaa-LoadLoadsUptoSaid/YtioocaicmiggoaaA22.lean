/- Lcc: texts merged for a claim by a program of mine. -/
import Derived.Test.YtioocaicmiggoaaA21
import Derived.Deep.RegionHeld3
namespace Go.Proofs.Ytioocaicmiggoaa
set_option linter.unusedVariables false
set_option linter.unusedSimpArgs false
open Go.RowKit Go.Deep Go.Maps
theorem blk9 {w : World} {g : Nat} {t : TypeId} {a0 a1 a2 a3 a4 a5 a6 a7 a8 : Value} (h : Blk w g t #[a0, a1, a2, a3, a4, a5, a6, a7, a8]) :
  w.cell? ⟨g, 0, none⟩ = some a0 ∧ w.cell? ⟨g, 1, none⟩ = some a1 ∧ w.cell? ⟨g, 2, none⟩ = some a2 ∧ w.cell? ⟨g, 3, none⟩ = some a3 ∧ w.cell? ⟨g, 4, none⟩ = some a4 ∧ w.cell? ⟨g, 5, none⟩ = some a5 ∧ w.cell? ⟨g, 6, none⟩ = some a6 ∧ w.cell? ⟨g, 7, none⟩ = some a7 ∧ w.cell? ⟨g, 8, none⟩ = some a8 :=
 ⟨h.cell 0, h.cell 1, h.cell 2, h.cell 3, h.cell 4, h.cell 5, h.cell 6, h.cell 7, h.cell 8⟩
def attrT (T : TTab) (k a : Int) : Int :=
 if 0 ≤ k then match T.kinds[k.toNat]? with
  | none => 0
  | some l => if a < -1 ∨ (l.length : Int) ≤ a then 0 else if a = -1 then 1 else l.getD a.toNat 0
 else 0
theorem attr_not {T : TTab} {k a : Int} (h : typedT T k = false) : attrT T k a = 0 := by
 unfold attrT
 by_cases hk : 0 ≤ k
 ·rw [if_pos hk]
  unfold typedT at h
  rw [decide_eq_true hk, Bool.true_and, decide_eq_false_iff_not] at h
  rw [List.getElem?_eq_none (by omega)]
 ·rw [if_neg hk]
theorem typed_yes {T : TTab} {k : Int} (h : typedT T k = true) : ∃ (q : Nat) (l : List Int), k = q ∧ q < T.kinds.length ∧ T.kinds[q]? = some l := by
 unfold typedT at h
 rw [Bool.and_eq_true, decide_eq_true_eq, decide_eq_true_eq] at h
 exact ⟨k.toNat, _, by omega, by omega, List.getElem?_eq_getElem (by omega)⟩
theorem attr_yes {T : TTab} {q : Nat} {l : List Int} (h : T.kinds[q]? = some l) (a : Int) : attrT T q a = if a < -1 ∨ (l.length : Int) ≤ a then 0 else if a = -1 then 1 else l.getD a.toNat 0 := by
 unfold attrT
 rw [if_pos (by omega), Int.toNat_natCast, h]
def IntP (w : World) (n : Int) (e : Ending) (w' : World) : Prop := e = .returned (.int .i64 n) ∧ Below w.heap.size w w'
set_option maxRecDepth 100000 in
set_option maxHeartbeats 4000000 in
theorem attr_any (T : TTab) (vk vkk vs vc : Value) (w : World) (h : TabX w T vk vkk vs vc) (g bM : Nat)
  (hB : Blk w g 62 #[.int .i64 T.strategy, vk, vkk, .int .i64 T.syms, .int .i64 T.runs, .int .i64 T.cells, vs, vc, .map (some bM)]) (k a : Int) :
  Calls Try.prog 72 #[.pointer (some ⟨g, 0, none⟩), .int .i64 k, .int .i64 a] w (IntP w (attrT T k a)) := by
 obtain ⟨A3, c3, rfl, hc5, hc6⟩ := h.kinds.slice
 unfold maxLen at hc6
 have CT := Lib.hid (typed_any T vk _ vs vc w h k)
 have HX := Lib.hid (fun W (hb : Below w.heap.size w W) => h.below hb)
 have HB := Lib.hid hB
 obtain ⟨k0, k1, k2, k3, k4, k5, k6, k7, k8⟩ := blk9 hB
 obtain ⟨r, hr⟩ : ∃ r, attrT T k a = r := ⟨_, rfl⟩
 have HR := Lib.hid hr
 rw [hr]
 obtain ⟨tb, htb⟩ : ∃ tb, typedT T k = tb := ⟨_, rfl⟩
 rw [htb] at CT
 have HTB := Lib.hid htb
 clear h hB hr htb
 go_enter Try.func72, Try.ntmps72
 go_wp2_with fail
 refine CT.out.mono ?_
 rintro e w2 ⟨rfl, hb2⟩
 have HB2 := Lib.hid hb2
 have BT2 := Lib.hid (HB.out.below hb2 HB.out.lt)
 clear hb2 k0 k1 k2 k3 k4 k5 k6 k7 k8 CT
 cases tb with
 | false =>
  have e : r = 0 := HR.out.symm.trans (attr_not HTB.out)
  have e := Lib.hid e
  go_wp2_with fail
  go_ret
  exact ⟨ret_int e.out.symm, HB2.out⟩
 | true =>
  obtain ⟨q, l, rfl, hq, hl⟩ := typed_yes HTB.out
  obtain ⟨b5, off5, c5, v5, hvv, _, _, q0, hls⟩ := intss_get (HX.out w2 HB2.out).kinds hl
  injection hvv with hv1 hv2 hv3
  subst hv1
  obtain ⟨A6, c6, rfl, hc9, hc10⟩ := hls.slice
  unfold maxLen at hc10
  have b1 : (0 : Int) ≤ (q : Int) := by omega
  have b2 : (q : Int) < (T.kinds.length : Int) := by omega
  have HA := Lib.hid ((attr_yes hl a).symm.trans HR.out)
  have HLS := Lib.hid hls
  obtain ⟨k0, k1, k2, k3, k4, k5, k6, k7, k8⟩ := blk9 BT2.out
  clear hls hl hv2 hv3
  by_cases h1 : a < -1
  ·have e : Hid (r = 0) := Lib.hid (by rw [← HA.out, if_pos (.inl h1)])
   go_wp2_with fail
   go_ret
   exact ⟨ret_int e.out.symm, HB2.out⟩
  ·by_cases h2 : (l.length : Int) ≤ a
   ·have e : Hid (r = 0) := Lib.hid (by rw [← HA.out, if_pos (.inr h2)])
    go_wp2_with fail
    go_ret
    exact ⟨ret_int e.out.symm, HB2.out⟩
   ·by_cases h3 : a = -1
    ·have e : Hid (r = 1) := Lib.hid (by rw [← HA.out, if_neg (by omega), if_pos h3])
     have e1 : (a == -1) = true := by simpa using h3
     clear h3
     go_wp2_with fail
     go_ret
     exact ⟨ret_int e.out.symm, HB2.out⟩
    ·have e1 : (a == -1) = false := by simpa using h3
     obtain ⟨n, rfl⟩ : ∃ n : Nat, a = n := ⟨a.toNat, by omega⟩
     obtain ⟨kv, hkv⟩ : ∃ kv, l[n]? = some kv := ⟨_, List.getElem?_eq_getElem (by omega)⟩
     obtain ⟨b8, off8, c8, hvv, _, _, p0, _⟩ := ints_get HLS.out hkv
     injection hvv with hv1 hv2 hv3
     subst hv1
     have e : Hid (r = kv) := Lib.hid (by rw [← HA.out, if_neg (by omega), if_neg h3, Int.toNat_natCast, List.getD_eq_getElem?_getD, hkv]; rfl)
     have b3 : (0 : Int) ≤ (n : Int) := by omega
     have b4 : (n : Int) < (l.length : Int) := by omega
     clear hkv hv2 hv3 h3
     go_wp2_with fail
     go_ret
     exact ⟨ret_int e.out.symm, HB2.out⟩
end Go.Proofs.Ytioocaicmiggoaa
namespace Go.Proofs.Ytioocaicmiggoaa
set_option linter.unusedVariables false
set_option linter.unusedSimpArgs false
open Go.RowKit Go.Deep Go.Maps
def PathV (w : World) (B : Nat) (v : Value) (l : List Int) : Prop := ∃ A c, v = .slice A l.length c ∧ Reads w w.heap.size 1 A l.length (iv l) ∧ l.length ≤ c ∧ c ≤ maxLen ∧ ∀ ad, A = some ad → B ≤ ad.block
theorem PathV.below {w w' : World} {B : Nat} {v : Value} {l : List Int} (h : PathV w B v l) (hb : Below w.heap.size w w') : PathV w' B v l := by
 obtain ⟨A, c, h1, h2, h3⟩ := h
 exact ⟨A, c, h1, reads_up h2 hb, h3⟩
theorem PathV.of {w : World} {B : Nat} {v : Value} {l : List Int} (h : w.ownsRow B 3 1 v l.length (iv l)) : PathV w B v l := by
 obtain ⟨A, c, rfl⟩ := own_slice h
 refine ⟨A, c, rfl, Reads.of_own h, (own_caps h).1, (own_caps h).2, fun ad hA => ?_⟩
 rcases h.2 with ⟨hv, _⟩ | ⟨g, cap, cur, hv, hb, _⟩
 ·injection hv with h1; rw [hA] at h1; cases h1
 ·injection hv with h1
  rw [hA] at h1
  injection h1 with h1
  subst h1
  exact hb
def rowK (T : TTab) (s : TRow) (x : TInp) : Bool :=
 if s.many = decide (x.op = 42) then false
 else if x.op = 25 then decide (x.kind = 1)
 else if attrT T s.ty x.attr = 0 ∨ attrT T s.ty x.attr ≠ x.kind then false
 else if x.op = 31 then decide (attrT T s.ty x.attr = 4)
 else if 28 ≤ x.op ∧ x.op ≤ 30 then decide (attrT T s.ty x.attr = 1) || decide (attrT T s.ty x.attr = 4)
 else true
def inputT (T : TTab) (path : List Int) (one many asked : Int) (x : TInp) : Bool :=
 if x.op = 41 then !decide (attrT T asked x.attr = 0) && decide (attrT T asked x.attr = x.kind)
 else if (if x.op = 42 then one else many) ≤ x.pos then false
 else match rowAt T.states (path.getD x.pos.toNat 0) with
  | none => false
  | some s => rowK T s x
set_option maxRecDepth 100000 in
set_option maxHeartbeats 4000000 in
theorem ainput_any (T : TTab) (vk vkk vs vc : Value) (w : World) (h : TabX w T vk vkk vs vc) (g bM : Nat)
  (hB : Blk w g 62 #[.int .i64 T.strategy, vk, vkk, .int .i64 T.syms, .int .i64 T.runs, .int .i64 T.cells, vs, vc, .map (some bM)]) (x : TInp) (B : Nat) (vp : Value) (path : List Int) (hp : PathV w B vp path)
  (one many asked : Int) (hpos : 0 ≤ x.pos) (h1 : one ≤ path.length) (h2 : many ≤ path.length) (hin : ∀ j ∈ path, 0 ≤ j ∧ j < (T.states.length : Int)) :
  Calls Try.prog 63 #[.pointer (some ⟨g, 0, none⟩), .agg #[.int .i64 x.op, .int .i64 x.kind, .int .i64 x.pos, .int .i64 x.attr], .agg #[vp, .int .i64 one, .int .i64 many, .int .i64 asked]] w (BoolP w (inputT T path one many asked x)) := by
 obtain ⟨w1, hw1⟩ : ∃ w1, w1 = (w.alloc (.cells #[.int .i64 x.op, .int .i64 x.kind, .int .i64 x.pos, .int .i64 x.attr] 70)).alloc (.cells #[vp, .int .i64 one, .int .i64 many, .int .i64 asked] 96) := ⟨_, rfl⟩
 have B0 : Below w.heap.size w w1 := by rw [hw1]; exact ((Below.refl w.heap.size w).alloc (Nat.le_refl _) _).alloc (by simp) _
 have BX : Blk w1 w.heap.size 70 #[.int .i64 x.op, .int .i64 x.kind, .int .i64 x.pos, .int .i64 x.attr] := by rw [hw1]; exact (Blk.new w _ _).alloc _
 have BP : Blk w1 (w.heap.size + 1) 96 #[vp, .int .i64 one, .int .i64 many, .int .i64 asked] := by
  rw [hw1]
  have := Blk.new (w.alloc (.cells #[.int .i64 x.op, .int .i64 x.kind, .int .i64 x.pos, .int .i64 x.attr] 70)) 96 #[vp, .int .i64 one, .int .i64 many, .int .i64 asked]
  rw [World.size_alloc] at this
  exact this
 have hs1 : w1.heap.size = w.heap.size + 2 := by rw [hw1]; simp
 have hgl := hB.lt
 have BT := hB.below B0 hgl
 have X1 := h.below B0
 have P1 := hp.below B0
 obtain ⟨x0, x1, x2, x3⟩ := blk4 BX
 obtain ⟨p0, p1, p2, p3⟩ := blk4 BP
 obtain ⟨rv, hrv⟩ : ∃ rv, inputT T path one many asked x = rv := ⟨_, rfl⟩
 have HRV := Lib.hid hrv
 rw [hrv]
 have HS1 := Lib.hid hs1
 have HBX := Lib.hid BX
 have HBP := Lib.hid BP
 have HBT := Lib.hid BT
 have HX := Lib.hid X1
 have HP := Lib.hid P1
 have HB0 := Lib.hid B0
 have HIN := Lib.hid hin
 clear BX BP BT hB h hp X1 P1 B0 hrv hs1 hin
 by_cases c1 : x.op = 41
 ·have e1 : (x.op == 41) = true := by simpa using c1
  have HR : Hid ((!decide (attrT T asked x.attr = 0) && decide (attrT T asked x.attr = x.kind)) = rv) := Lib.hid (by have := HRV.out; unfold inputT at this; rw [if_pos c1] at this; exact this)
  obtain ⟨k, hk⟩ : ∃ k, attrT T asked x.attr = k := ⟨_, rfl⟩
  have CA := Lib.hid (attr_any T vk vkk vs vc w1 HX.out g bM HBT.out asked x.attr)
  rw [hk] at CA HR
  clear hk c1
  go_enter Try.func63, Try.ntmps63
  go_upto_region 1 with fail
  rw [← hw1]
  clear hw1
  go_wp2_with fail
  refine CA.out.mono ?_
  rintro e w2 ⟨rfl, hb2⟩
  have x1 := (HBX.out.below hb2 (by have := HS1.out; omega)).cell 1
  have HB2 := Lib.hid (HB0.out.trans (hb2.mono HB0.out.size))
  clear hb2 x0 x2 x3 p0 p1 p2 p3
  go_wp2_with fail
  all_goals (go_ret; refine ⟨ret_bool ?_, HB2.out⟩; rw [← HR.out]; (try simp only [beq_iff_eq, beq_eq_false_iff_ne, bne_iff_ne, bne_eq_false_iff_eq, ne_eq] at *); rw [Bool.eq_iff_iff]; simp; try omega)
 ·have e1 : (x.op == 41) = false := by simpa using c1
  obtain ⟨n, hn⟩ : ∃ n, (if x.op = 42 then one else many) = n := ⟨_, rfl⟩
  have hnl : n ≤ path.length := by rw [← hn]; split <;> assumption
  have HR : Hid ((if n ≤ x.pos then false else match rowAt T.states (path.getD x.pos.toNat 0) with | none => false | some s => rowK T s x) = rv) := Lib.hid (by
   have := HRV.out; unfold inputT at this; rw [if_neg c1, hn] at this; exact this)
  have HN := Lib.hid hn
  clear hn c1
  go_enter Try.func63, Try.ntmps63
  go_upto_region 1 with fail
  rw [← hw1]
  clear hw1
  go_upto_if 32 with fail
  go_cut [8] from 32 to 34 (fun v wx => v = .int .i64 n ∧ wx = w1)
  case first =>
   rcases e2 : (x.op != 42) with _ | _
   ·have c2 : x.op = 42 := by simpa using e2
    have e : Hid (one = n) := Lib.hid (by rw [← HN.out, if_pos c2])
    clear c2
    go_wp2_with fail
    go_meet
    exact ⟨by rw [e.out], rfl⟩
   ·have c2 : ¬ x.op = 42 := by simpa using e2
    have e : Hid (many = n) := Lib.hid (by rw [← HN.out, if_neg c2])
    clear c2
    go_wp2_with fail
    go_meet
    exact ⟨by rw [e.out], rfl⟩
  case rest =>
   obtain ⟨rfl, hwc⟩ := hcut
   subst hwc
   by_cases c3 : n ≤ x.pos
   ·have e : rv = false := by have h9 := HR.out; rw [if_pos c3] at h9; exact h9.symm
    have e := Lib.hid e
    go_wp2_with fail
    go_ret
    exact ⟨ret_bool e.out.symm, HB0.out⟩
   ·obtain ⟨q, hq⟩ : ∃ q : Nat, x.pos = q := ⟨x.pos.toNat, by omega⟩
    obtain ⟨j, hj⟩ : ∃ j, path[q]? = some j := ⟨_, List.getElem?_eq_getElem (by omega)⟩
    have hjr := HIN.out j (List.mem_of_getElem? hj)
    obtain ⟨m, rfl⟩ : ∃ m : Nat, j = m := ⟨j.toNat, by omega⟩
    obtain ⟨s, hs⟩ : ∃ s, T.states[m]? = some s := ⟨_, List.getElem?_eq_getElem (by omega)⟩
    have HR2 : Hid (rowK T s x = rv) := Lib.hid (by
     have h9 := HR.out
     rw [if_neg c3, hq, Int.toNat_natCast, List.getD_eq_getElem?_getD, hj] at h9
     simp only [Option.getD_some, rowAt_nat, hs] at h9
     exact h9)
    obtain ⟨A9, c9, rfl, hrd, hc1, hc2, _⟩ := HP.out
    obtain ⟨b9, off9, rfl, had, hcell⟩ := hrd.shape (by omega)
    have y0 := hcell q (.int .i64 (m : Int)) (by unfold iv; rw [List.getElem?_map, hj]; rfl)
    obtain ⟨b5, off5, c5, vb, ve, hvv, hc3, hc4, q0, q1, q2, q3, q4, q5, q6, q7, hbs, hes, _⟩ := rows_get HX.out.states hs
    subst hvv
    obtain ⟨A6, c6, rfl, hc5, hc6⟩ := hbs.slice
    obtain ⟨A7, c7, rfl, hc7, hc8⟩ := hes.slice
    have k6 := (blk9 HBT.out).2.2.2.2.2.2.1
    unfold maxLen at hc2 hc4 hc6 hc8
    rw [hq] at x2
    have g1 : (0 : Int) ≤ (q : Int) := by omega
    have g2 : (q : Int) < (path.length : Int) := by omega
    have g3 : (0 : Int) ≤ (m : Int) := by omega
    have g4 : (m : Int) < (T.states.length : Int) := by omega
    have HQ := Lib.hid hq
    have g5 : (q : Int) < n := by omega
    clear hq hj hjr hs hrd hcell c3 hbs hes
    have j1 := World.new_ne wc _ k6
    have j2 := World.new_ne wc _ p0
    have j3 := World.new_ne wc _ x2
    have j4 := World.new_ne wc _ y0
    have j5 := World.new_ne wc _ q0
    go_upto_region 9 with fail
    go_region_held3 (fun w' => w'.cell? ⟨g, 6, none⟩ = some (.slice (some ⟨b5, off5, none⟩) T.states.length c5) ∧ w'.cell? ⟨w.heap.size + 1, 0, none⟩ = some (.slice (some ⟨b9, off9, none⟩) path.length c9) ∧ w'.cell? ⟨w.heap.size, 2, none⟩ = some (.int .i64 (q : Int)) ∧ w'.cell? ⟨b9, off9 + q, none⟩ = some (.int .i64 (m : Int)) ∧
     w'.cell? ⟨b5, off5 + m * 8, none⟩ = some (.int .i64 s.par) ∧ w'.cell? ⟨b5, off5 + m * 8 + 1, none⟩ = some (.int .i64 s.ty) ∧ w'.cell? ⟨b5, off5 + m * 8 + 2, none⟩ = some (.bool s.many) ∧ w'.cell? ⟨b5, off5 + m * 8 + 3, none⟩ = some (.int .i64 s.win) ∧ w'.cell? ⟨b5, off5 + m * 8 + 4, none⟩ = some (.slice A6 s.bars.length c6) ∧
     w'.cell? ⟨b5, off5 + m * 8 + 5, none⟩ = some (.int .i64 s.leave) ∧ w'.cell? ⟨b5, off5 + m * 8 + 6, none⟩ = some (.int .i64 s.guard) ∧ w'.cell? ⟨b5, off5 + m * 8 + 7, none⟩ = some (.slice A7 s.ends.length c7)) (go_keep) (fail)
    rename_i hHeld
    clear hHeld j1 j2 j3 j4 j5 q0 q1 q2 q3 q4 q5 q6 q7 y0 p0 p1 p2 p3 k6
    obtain ⟨w3, hw3⟩ : ∃ w3, w3 = (wc.alloc (.cells #[.int .i64 s.par, .int .i64 s.ty, .bool s.many, .int .i64 s.win, .slice A6 s.bars.length c6, .int .i64 s.leave, .int .i64 s.guard, .slice A7 s.ends.length c7] 46)).drew := ⟨_, rfl⟩
    rw [← hw3]
    have B3 : Below wc.heap.size wc w3 := by rw [hw3]; have := (Below.refl wc.heap.size wc).alloc (Nat.le_refl _) (.cells #[.int .i64 s.par, .int .i64 s.ty, .bool s.many, .int .i64 s.win, .slice A6 s.bars.length c6, .int .i64 s.leave, .int .i64 s.guard, .slice A7 s.ends.length c7] 46); exact ⟨this.os, this.tape, this.output, this.size, this.block⟩
    have BR : Blk w3 wc.heap.size 46 #[.int .i64 s.par, .int .i64 s.ty, .bool s.many, .int .i64 s.win, .slice A6 s.bars.length c6, .int .i64 s.leave, .int .i64 s.guard, .slice A7 s.ends.length c7] := by rw [hw3]; exact (Blk.new wc _ _).drew
    have BX3 := HBX.out.below B3 HBX.out.lt
    have HBT3 := Lib.hid (HBT.out.below B3 HBT.out.lt)
    have HX3 := Lib.hid (HX.out.below B3)
    have HB3 := Lib.hid (HB0.out.trans (B3.mono HB0.out.size))
    obtain ⟨sm, hsm⟩ : ∃ sm, s.many = sm := ⟨_, rfl⟩
    rw [hsm] at BR
    obtain ⟨r0, r1, r2, r3, r4, r5, r6, r7⟩ := blk8 BR
    have HR3 : Hid ((if sm = decide (x.op = 42) then false else if x.op = 25 then decide (x.kind = 1) else if attrT T s.ty x.attr = 0 ∨ attrT T s.ty x.attr ≠ x.kind then false else if x.op = 31 then decide (attrT T s.ty x.attr = 4) else if 28 ≤ x.op ∧ x.op ≤ 30 then decide (attrT T s.ty x.attr = 1) || decide (attrT T s.ty x.attr = 4) else true) = rv) := Lib.hid (by
     have h9 := HR2.out; unfold rowK at h9; rw [hsm] at h9; exact h9)
    have HLT := Lib.hid BR.lt
    clear x0 x1 x2 x3
    obtain ⟨x0, x1, x2, x3⟩ := blk4 BX3
    have HBX3 := Lib.hid BX3
    clear hw3 BR BX3 hsm B3 HR2 HR
    rcases e2 : (x.op != 42) with _ | _
    ·have c2 : x.op = 42 := by simpa using e2
     have e3 : (x.op == 25) = false := by rw [c2]; decide
     have d1 : Hid (x.op = 42) := Lib.hid c2
     clear c2
     cases sm with
     | true =>
      have e : Hid (rv = false) := Lib.hid (by have h9 := HR3.out; rw [if_pos (by rw [decide_eq_true d1.out])] at h9; exact h9.symm)
      clear HR3
      go_wp2_with fail
      go_ret
      exact ⟨ret_bool e.out.symm, HB3.out⟩
     | false =>
      have HR4 : Hid ((if attrT T s.ty x.attr = 0 ∨ attrT T s.ty x.attr ≠ x.kind then false else true) = rv) := Lib.hid (by
       have h9 := HR3.out
       rw [if_neg (by rw [decide_eq_true d1.out]; simp), if_neg (by rw [d1.out]; decide), if_neg (show ¬ x.op = 31 by rw [d1.out]; decide), if_neg (show ¬ (28 ≤ x.op ∧ x.op ≤ 30) by rw [d1.out]; decide)] at h9
       exact h9)
      obtain ⟨k, hk⟩ : ∃ k, attrT T s.ty x.attr = k := ⟨_, rfl⟩
      have CA := Lib.hid (attr_any T vk vkk _ vc w3 HX3.out g bM HBT3.out s.ty x.attr)
      rw [hk] at CA HR4
      clear hk HR3
      go_wp2_with fail
      refine CA.out.mono ?_
      rintro e w4 ⟨rfl, hb4⟩
      have BX4 := HBX3.out.below hb4 HBX3.out.lt
      obtain ⟨x0, x1, x2, x3⟩ := blk4 BX4
      have HB4 := Lib.hid (HB3.out.trans (hb4.mono HB3.out.size))
      clear hb4 BX4 CA
      have d2 : 28 ≤ x.op := by have := d1.out; omega
      have d3 : 30 < x.op := by have := d1.out; omega
      have e4 : (x.op == 31) = false := by rw [d1.out]; decide
      go_wp2_with fail
      all_goals (go_ret; refine ⟨ret_bool ?_, HB4.out⟩; rw [← HR4.out]; (try simp only [beq_iff_eq, beq_eq_false_iff_ne, bne_iff_ne, bne_eq_false_iff_eq, ne_eq] at *); (repeat' split) <;> (first | rfl | (exfalso; omega) | (rw [Bool.eq_iff_iff]; simp; omega) | (simp; omega)))
    ·have c2 : ¬ x.op = 42 := by simpa using e2
     cases sm with
     | false =>
      have e : Hid (rv = false) := Lib.hid (by have h9 := HR3.out; rw [if_pos (by rw [decide_eq_false c2])] at h9; exact h9.symm)
      clear HR3 c2
      go_wp2_with fail
      go_ret
      exact ⟨ret_bool e.out.symm, HB3.out⟩
     | true =>
      rcases e3 : (x.op == 25) with _ | _
      ·have c3 : ¬ x.op = 25 := by simpa using e3
       have HR4 : Hid ((if attrT T s.ty x.attr = 0 ∨ attrT T s.ty x.attr ≠ x.kind then false else if x.op = 31 then decide (attrT T s.ty x.attr = 4) else if 28 ≤ x.op ∧ x.op ≤ 30 then decide (attrT T s.ty x.attr = 1) || decide (attrT T s.ty x.attr = 4) else true) = rv) := Lib.hid (by
        have h9 := HR3.out
        rw [if_neg (by rw [decide_eq_false c2]; simp), if_neg c3] at h9
        exact h9)
       obtain ⟨k, hk⟩ : ∃ k, attrT T s.ty x.attr = k := ⟨_, rfl⟩
       have CA := Lib.hid (attr_any T vk vkk _ vc w3 HX3.out g bM HBT3.out s.ty x.attr)
       rw [hk] at CA HR4
       clear hk HR3 c2 c3
       go_wp2_with fail
       refine CA.out.mono ?_
       rintro e w4 ⟨rfl, hb4⟩
       have BX4 := HBX3.out.below hb4 HBX3.out.lt
       obtain ⟨x0, x1, x2, x3⟩ := blk4 BX4
       have HB4 := Lib.hid (HB3.out.trans (hb4.mono HB3.out.size))
       clear hb4 BX4 CA
       rcases e4 : (x.op == 31) with _ | _
       all_goals (
        go_wp2_with fail
        all_goals (go_ret; refine ⟨ret_bool ?_, HB4.out⟩; rw [← HR4.out]; (try simp only [beq_iff_eq, beq_eq_false_iff_ne, bne_iff_ne, bne_eq_false_iff_eq, ne_eq] at *); (repeat' split) <;> (first | rfl | (exfalso; omega) | (rw [Bool.eq_iff_iff]; simp; omega) | (simp; omega))))
      ·have c3 : x.op = 25 := by simpa using e3
       have HR4 : Hid (decide (x.kind = 1) = rv) := Lib.hid (by
        have h9 := HR3.out
        rw [if_neg (by rw [decide_eq_false c2]; simp), if_pos c3] at h9
        exact h9)
       clear c2 c3 HR3
       go_wp2_with fail
       go_ret
       exact ⟨ret_bool (by rw [← HR4.out, Bool.eq_iff_iff]; simp), HB3.out⟩
end Go.Proofs.Ytioocaicmiggoaa
namespace Go.Proofs.Ytioocaicmiggoaa
set_option linter.unusedVariables false
set_option linter.unusedSimpArgs false
open Go.RowKit Go.Deep Go.Maps
theorem SetX.noCell {w : World} {b n : Nat} {S : List Int} (h : SetX w b n S) {p : Addr} {u : Value} (hc : w.cell? p = some u) : p.block ≠ b := by
 rintro rfl
 obtain ⟨D, ⟨es, clock, hh, _⟩, _⟩ := h
 obtain ⟨blk, off, spot⟩ := p
 have hs := World.cell?_spot hc
 have hs : spot = none := hs
 subst hs
 unfold World.cell? at hc
 simp only at hh
 rw [hh] at hc
 simp at hc
theorem keepC_of_set {w w' : World} {b n : Nat} {S : List Int} (h : SetX w b n S) (hg : w.grownBy w' (some b)) : KeepC w w' := fun p u hp => by
 have hne := h.noCell hp
 exact (World.cell?_of_block (hg.block p.block (cell_in hp) (fun e => by injection e with e; exact hne e))).trans hp
theorem PathV.keep {w w' : World} {B : Nat} {v : Value} {l : List Int} (h : PathV w B v l) (hk : KeepC w w') (hs : w.heap.size ≤ w'.heap.size) : PathV w' B v l := by
 obtain ⟨A, c, h1, h2, h3⟩ := h
 refine ⟨A, c, h1, ⟨h2.1, fun hn => ?_⟩, h3⟩
 obtain ⟨ad, hA, hb, hc⟩ := h2.2 hn
 exact ⟨ad, hA, by omega, fun j u hu => hk _ _ (hc j u hu)⟩
def AskM (w : World) (T : TTab) (vk vkk vs vc : Value) (g bM n : Nat) (S : List Int) : Prop :=
 Blk w g 62 #[.int .i64 T.strategy, vk, vkk, .int .i64 T.syms, .int .i64 T.runs, .int .i64 T.cells, vs, vc, .map (some bM)] ∧ SetX w bM n S ∧ TabX w T vk vkk vs vc
theorem AskM.ne {w : World} {T : TTab} {vk vkk vs vc : Value} {g bM n : Nat} {S : List Int} (h : AskM w T vk vkk vs vc g bM n S) : g ≠ bM := h.2.1.noCell (p := ⟨g, 0, none⟩) (h.1.cell 0)
theorem AskM.below {w w' : World} {T : TTab} {vk vkk vs vc : Value} {g bM n : Nat} {S : List Int} (h : AskM w T vk vkk vs vc g bM n S) (hb : Below w.heap.size w w') : AskM w' T vk vkk vs vc g bM n S :=
 ⟨h.1.below hb h.1.lt, h.2.1.below hb h.2.1.lt, h.2.2.below hb⟩
theorem AskM.told {w : World} {T : TTab} {vk vkk vs vc : Value} {g bM n : Nat} {S : List Int} (h : AskM w T vk vkk vs vc g bM n S) {k : Int} (hk : wfi k) (hn : n < maxLen) :
  ∃ w', (Instr.mapUpdate 60 (.map (some bM)) (.int .i64 k) (.bool true)).run Try.prog w = .ok () w' ∧ AskM w' T vk vkk vs vc g bM (n + 1) (addS k S) ∧ w.grownBy w' (some bM) := by
 obtain ⟨w', hr, hs, hg⟩ := h.2.1.store hk hn
 exact ⟨w', hr, ⟨h.1.grown hg (fun e => by injection e with e; exact h.ne e), hs, h.2.2.keep (keepC_of_set h.2.1 hg)⟩, hg⟩
def codeT (T : TTab) (path : List Int) (one many asked n : Int) : Bool :=
 decide (n = -1) || (decide (0 ≤ n) && match T.codes[n.toNat]? with
  | none => false
  | some c => c.inputs.all (inputT T path one many asked))
def toldS (n : Int) (S : List Int) : List Int := if n = -1 then S else addS n S
def CodeP (w : World) (T : TTab) (vk vkk vs vc : Value) (g bM k : Nat) (b : Bool) (S : List Int) (e : Ending) (w' : World) : Prop :=
 e = .returned (.bool b) ∧ w.grownBy w' (some bM) ∧ ∃ S', AskM w' T vk vkk vs vc g bM (k + 1) S' ∧ (b = true → S' = S)
theorem AskM.next {w : World} {T : TTab} {vk vkk vs vc : Value} {g bM n : Nat} {S : List Int} (h : AskM w T vk vkk vs vc g bM n S) : AskM w T vk vkk vs vc g bM (n + 1) S := ⟨h.1, h.2.1.mono (Nat.le_succ n), h.2.2⟩
set_option maxRecDepth 100000 in
set_option maxHeartbeats 4000000 in
theorem code_any (T : TTab) (vk vkk vs vc : Value) (w : World) (g bM k : Nat) (S : List Int) (h : AskM w T vk vkk vs vc g bM k S) (hk : k < maxLen) (n : Int) (hw : wfi n) (B : Nat) (vp : Value) (path : List Int) (hp : PathV w B vp path)
  (one many asked : Int) (hpos : ∀ c ∈ T.codes, ∀ x ∈ c.inputs, 0 ≤ x.pos) (h1 : one ≤ path.length) (h2 : many ≤ path.length) (hin : ∀ j ∈ path, 0 ≤ j ∧ j < (T.states.length : Int)) :
  Calls Try.prog 44 #[.pointer (some ⟨g, 0, none⟩), .int .i64 n, .agg #[vp, .int .i64 one, .int .i64 many, .int .i64 asked]] w (CodeP w T vk vkk vs vc g bM k (codeT T path one many asked n) (toldS n S)) := by
 obtain ⟨A2, c2, rfl, hc1, hc2⟩ := h.2.2.codes.slice
 unfold maxLen at hc2
 obtain ⟨w1, hw1⟩ : ∃ w1, w1 = w.alloc (.cells #[vp, .int .i64 one, .int .i64 many, .int .i64 asked] 96) := ⟨_, rfl⟩
 have B0 : Below w.heap.size w w1 := by rw [hw1]; exact (Below.refl w.heap.size w).alloc (Nat.le_refl _) _
 have BP : Blk w1 w.heap.size 96 #[vp, .int .i64 one, .int .i64 many, .int .i64 asked] := by rw [hw1]; exact Blk.new w _ _
 have M1 := h.below B0
 have P1 := hp.below B0
 have hs1 : w1.heap.size = w.heap.size + 1 := by rw [hw1]; simp
 have HB0 := Lib.hid B0
 have HM1 := Lib.hid M1
 have HP1 := Lib.hid P1
 have HBP := Lib.hid BP
 have HS1 := Lib.hid hs1
 obtain ⟨rv, hrv⟩ : ∃ rv, codeT T path one many asked n = rv := ⟨_, rfl⟩
 have HRV := Lib.hid hrv
 rw [hrv]
 have HPOS := Lib.hid hpos
 have HIN := Lib.hid hin
 obtain ⟨k0, k1, k2, k3, k4, k5, k6, k7, k8⟩ := blk9 M1.1
 clear h B0 M1 P1 hs1 hrv hpos hin hp BP
 by_cases hn1 : n = -1
 ·have e1 : (n == -1) = true := by simpa using hn1
  have e : Hid (rv = true ∧ toldS n S = S) := Lib.hid ⟨by rw [← HRV.out]; unfold codeT; rw [decide_eq_true hn1, Bool.true_or], by unfold toldS; rw [if_pos hn1]⟩
  clear hn1
  go_enter Try.func44, Try.ntmps44
  go_upto_region 1 with fail
  rw [← hw1]
  clear hw1
  go_wp2_with fail
  go_ret
  exact ⟨ret_bool e.out.1.symm, only_of_below HB0.out _, S, HM1.out.next, fun _ => e.out.2.symm⟩
 ·have e1 : (n == -1) = false := by simpa using hn1
  by_cases hn2 : n < 0
  ·have e : Hid (rv = false) := Lib.hid (by rw [← HRV.out]; unfold codeT; rw [decide_eq_false hn1, decide_eq_false (by omega)]; rfl)
   clear hn1
   go_enter Try.func44, Try.ntmps44
   go_upto_region 1 with fail
   rw [← hw1]
   clear hw1
   go_wp2_with fail
   go_ret
   exact ⟨ret_bool e.out.symm, only_of_below HB0.out _, S, HM1.out.next, fun h => by rw [e.out] at h; cases h⟩
  ·by_cases hn3 : (T.codes.length : Int) ≤ n
   ·have e : Hid (rv = false) := Lib.hid (by rw [← HRV.out]; unfold codeT; rw [decide_eq_false hn1, List.getElem?_eq_none (by omega)]; simp)
    clear hn1
    go_enter Try.func44, Try.ntmps44
    go_upto_region 1 with fail
    rw [← hw1]
    clear hw1
    go_wp2_with fail
    go_ret
    exact ⟨ret_bool e.out.symm, only_of_below HB0.out _, S, HM1.out.next, fun h => by rw [e.out] at h; cases h⟩
   ·obtain ⟨q, rfl⟩ : ∃ q : Nat, n = q := ⟨n.toNat, by omega⟩
    obtain ⟨c, hc⟩ : ∃ c, T.codes[q]? = some c := ⟨_, List.getElem?_eq_getElem (by omega)⟩
    have HR : Hid (c.inputs.all (inputT T path one many asked) = rv) := Lib.hid (by
     have h9 := HRV.out; unfold codeT at h9; rw [decide_eq_false hn1, Int.toNat_natCast, hc, decide_eq_true (by omega)] at h9; simpa using h9)
    have HTS : Hid (toldS (q : Int) S = addS (q : Int) S) := Lib.hid (by unfold toldS; rw [if_neg hn1])
    obtain ⟨w2, hrun, M2, hg2⟩ := HM1.out.told hw hk
    have HPO := Lib.hid (HPOS.out c (List.mem_of_getElem? hc))
    have HK2 := keepC_of_set HM1.out.2.1 hg2
    have P2 := HP1.out.keep HK2 hg2.size
    have BP2 := HBP.out.grown hg2 (fun e => by injection e with e; exact HM1.out.2.1.noCell (p := ⟨w.heap.size, 0, none⟩) (HBP.out.cell 0) e)
    have HG2 := Lib.hid (show w.grownBy w2 (some bM) from World.grownBy.trans (only_of_below HB0.out _) hg2)
    obtain ⟨b5, off5, c5, vi, vcc, vl, hvv, _, _, q0, q1, q2, q3, q4, hinp, _⟩ := codes_get M2.2.2.codes hc
    injection hvv with hv1 hv2 hv3
    subst hv1
    obtain ⟨A6, c6, rfl, hc5, hc6⟩ := hinp.slice
    unfold maxLen at hc6
    have HINP := Lib.hid hinp
    have HM2 := Lib.hid M2
    have HP2 := Lib.hid P2
    have HBP2 := Lib.hid BP2
    have b1 : (0 : Int) ≤ (q : Int) := by omega
    have b2 : (q : Int) < (T.codes.length : Int) := by omega
    have nl : (0 : Int) ≤ (c.inputs.length : Int) := by omega
    have hs2 : w.heap.size < w2.heap.size := by have := HBP2.out.lt; exact this
    clear hn1 hc M2 P2 BP2 hinp hg2 HK2 hv2 hv3
    go_enter Try.func44, Try.ntmps44
    go_upto_region 1 with fail
    rw [← hw1]
    clear hw1
    go_upto_region 6 with fail
    clear k0 k1 k2 k3 k4 k5 k6 k7 k8 hrun
    obtain ⟨k0, k1, k2, k3, k4, k5, k6, k7, k8⟩ := blk9 HM2.out.1
    go_wp2_with fail
    clear k0 k1 k2 k3 k4 k5 k6 k7 k8 q0 q1 q2 q3 q4
    go_loopw [38] (fun s wr => ∃ r : Nat, r ≤ c.inputs.length ∧ s = .int .i64 r ∧ Hid (Below w2.heap.size w2 wr) ∧ Hid ((c.inputs.take r).all (inputT T path one many asked) = true)) (fun s _ => c.inputs.length - (intOf s).toNat)
    case atStart => exact ⟨0, Nat.zero_le _, rfl, Lib.hid (Below.refl _ _), Lib.hid (by simp)⟩
    case round =>
     obtain ⟨r, hr, rfl, hb, hal⟩ := hrel
     have hwr := hb.out.size
     by_cases hlt : r < c.inputs.length
     ·obtain ⟨x, hx⟩ : ∃ x, c.inputs[r]? = some x := ⟨_, List.getElem?_eq_getElem hlt⟩
      obtain ⟨b6, off6, c7, hvv, _, _, q0, q1, q2, q3, _⟩ := inps_get (keep_inps (KeepC.of_below hb.out) HINP.out) hx
      injection hvv with hv1 hv2 hv3
      subst hv1
      have b3 : (0 : Int) ≤ (r : Int) := by omega
      have b4 : (r : Int) < (c.inputs.length : Int) := by omega
      obtain ⟨w5, hw5⟩ : ∃ w5, w5 = wr.alloc (.cells #[.int .i64 x.op, .int .i64 x.kind, .int .i64 x.pos, .int .i64 x.attr] 70) := ⟨_, rfl⟩
      have hb5 : Below w2.heap.size w2 w5 := by rw [hw5]; exact hb.out.alloc hwr _
      have M5 := HM2.out.below hb5
      have CT := Lib.hid (ainput_any T vk vkk vs _ w5 M5.2.2 g bM M5.1 x B vp path (HP2.out.below hb5) one many asked (HPO.out x (List.mem_of_getElem? hx)) h1 h2 HIN.out)
      have HST := Lib.hid (all_step (f := inputT T path one many asked) hx hal.out)
      have HBD : Hid (inputT T path one many asked x = false → rv = false) := Lib.hid (fun h => by rw [← HR.out]; exact all_bad hx h)
      have BX := Lib.hid (show Blk w5 wr.heap.size 70 #[.int .i64 x.op, .int .i64 x.kind, .int .i64 x.pos, .int .i64 x.attr] by rw [hw5]; exact Blk.new wr _ _)
      have BP5 := Lib.hid (HBP2.out.below hb5 hs2)
      have HB5 := Lib.hid hb5
      obtain ⟨tb, htb⟩ : ∃ tb, inputT T path one many asked x = tb := ⟨_, rfl⟩
      rw [htb] at CT HST HBD
      clear hx hv2 hv3 htb hal hb M5 hb5
      go_upto_region 9 with fail
      rw [← hw5]
      clear hw5 q0 q1 q2 q3
      obtain ⟨x0, x1, x2, x3⟩ := blk4 BX.out
      obtain ⟨p0, p1, p2, p3⟩ := blk4 BP5.out
      go_wp2_with fail
      refine CT.out.mono ?_
      rintro e w6 ⟨rfl, hb6⟩
      have HB6 := Lib.hid (HB5.out.trans (hb6.mono HB5.out.size))
      clear hb6 CT x0 x1 x2 x3 p0 p1 p2 p3
      cases tb with
      | true =>
       have e := Lib.hid (HST.out rfl)
       clear HST HBD
       go_wp2_with fail
       go_roundw
       case rel => first | exact ⟨r + 1, by omega, by go_num, HB6, e⟩ | ((repeat apply Exists.intro); exact ⟨⟨r + 1, by omega, by go_num, HB6, e⟩, rfl⟩)
       case measure => simp [intOf]; omega
      | false =>
       have e := Lib.hid (HBD.out rfl)
       clear HST HBD
       go_wp2_with fail
       go_ret
       exact ⟨ret_bool e.out.symm, HG2.out.trans (only_of_below HB6.out _), _, HM2.out.below HB6.out, fun h => by rw [e.out] at h; cases h⟩
     ·have hge : (c.inputs.length : Int) ≤ (r : Int) := by omega
      have e : Hid (rv = true) := Lib.hid (by have h9 := hal.out; rw [List.take_of_length_le (by omega), HR.out] at h9; exact h9)
      have HB := Lib.hid hb.out
      clear hal hb
      go_wp2_with fail
      go_ret
      exact ⟨ret_bool e.out.symm, HG2.out.trans (only_of_below HB.out _), _, HM2.out.below HB.out, fun _ => HTS.out.symm⟩
end Go.Proofs.Ytioocaicmiggoaa
namespace Go.Proofs.Ytioocaicmiggoaa
set_option linter.unusedVariables false
set_option linter.unusedSimpArgs false
open Go.RowKit Go.Deep Go.Maps
structure TUse where
 code : Int
 path : List Int
 one : Int
 many : Int
 asked : Int
def useOk (T : TTab) (u : TUse) : Bool := codeT T u.path u.one u.many u.asked u.code
def useBar (p : List Int) (b : TStop) : TUse := ⟨b.gd, p, p.length, p.length, b.ty⟩
def useEnd (p : List Int) (e : TTail) : List TUse := ⟨e.cl, p, p.length, p.length, -1⟩ :: e.bars.map (useBar p)
def useTwo (T : TTab) (i : Nat) (x : TRow) : List TUse := [⟨x.guard, pathT T.states i, (pathT T.states i).length - 1, (pathT T.states i).length, x.ty⟩, ⟨x.leave, pathT T.states x.par, (pathT T.states x.par).length, (pathT T.states x.par).length, -1⟩]
def usesRow (T : TTab) (i : Nat) (x : TRow) : List TUse := useTwo T i x ++ x.bars.map (useBar (pathT T.states x.par)) ++ x.ends.flatMap (useEnd (pathT T.states i))
def toldU (us : List TUse) (S : List Int) : List Int := us.foldl (fun S u => toldS u.code S) S
theorem toldS_len (n : Int) (S : List Int) : (toldS n S).length ≤ S.length + 1 := by
 unfold toldS addS
 split
 ·omega
 ·split
  ·omega
  ·simp
theorem toldU_len (us : List TUse) : ∀ S, (toldU us S).length ≤ S.length + us.length := by
 induction us with
 | nil => intro S; exact Nat.le_refl _
 | cons u us ih =>
  intro S
  have h1 := ih (toldS u.code S)
  have h2 := toldS_len u.code S
  simp only [toldU, List.foldl_cons, List.length_cons] at h1 ⊢
  omega
theorem toldU_snoc (us : List TUse) (u : TUse) (S : List Int) : toldU (us ++ [u]) S = toldS u.code (toldU us S) := by unfold toldU; rw [List.foldl_append]; rfl
theorem toldU_app (us vs : List TUse) (S : List Int) : toldU (us ++ vs) S = toldU vs (toldU us S) := by unfold toldU; rw [List.foldl_append]
theorem split_at {α : Type} {l : List α} {r : Nat} {y : α} (h : l[r]? = some y) : l = l.take r ++ y :: l.drop (r + 1) := by
 have hr := (List.getElem?_eq_some_iff.1 h).1
 rw [List.getElem?_eq_getElem hr] at h
 injection h with h
 rw [← h, ← List.drop_eq_getElem_cons hr, List.take_append_drop]
theorem take_one {α : Type} {l : List α} {r : Nat} {y : α} (h : l[r]? = some y) : l.take (r + 1) = l.take r ++ [y] := by rw [List.take_add_one, h]; rfl
theorem pathL_in (rs : List TRow) : ∀ (k : Nat) (i : Int), ∀ j ∈ pathL rs k i, 0 ≤ j ∧ j < (rs.length : Int) := by
 intro k
 induction k with
 | zero => intro i j hj; simp [pathL] at hj
 | succ k ih =>
  intro i j hj
  cases hr : rowAt rs i with
  | none => simp only [pathL, hr] at hj; cases hj
  | some x =>
   obtain ⟨n, rfl, hn, _⟩ := rowAt_some hr
   simp only [pathL, hr] at hj
   split at hj
   ·rcases List.mem_append.1 hj with h | h
    ·exact ih _ j h
    ·have : j = (n : Int) := by simpa using h
     omega
   ·have : j = (n : Int) := by simpa using hj
    omega
theorem pathT_in (rs : List TRow) (i : Int) : ∀ j ∈ pathT rs i, 0 ≤ j ∧ j < (rs.length : Int) := pathL_in rs _ i
theorem SetX.low {w : World} {b n : Nat} {S : List Int} (h : SetX w b n S) : SetX w b S.length S := by
 obtain ⟨D, ⟨es, clock, hh, F, hs, hD⟩, h2, h3⟩ := h
 refine ⟨D, ⟨es, clock, hh, F, ?_, hD⟩, h2, h3⟩
 have e1 : Maps.size D = es.size := by rw [hD]; simp [Maps.size, length_sorted]
 omega
theorem AskM.low {w : World} {T : TTab} {vk vkk vs vc : Value} {g bM n : Nat} {S : List Int} (h : AskM w T vk vkk vs vc g bM n S) : AskM w T vk vkk vs vc g bM S.length S := ⟨h.1, h.2.1.low, h.2.2⟩
structure StW (w0 : World) (T : TTab) (vk vkk vs vc : Value) (g bM : Nat) (vo vu : Value) (own up : List Int) (hr : Nat) (cs : Array Value) (w : World) (S : List Int) : Prop where
 ask : AskM w T vk vkk vs vc g bM S.length S
 po : PathV w 0 vo own
 pu : PathV w 0 vu up
 row : Blk w hr 46 cs
 grown : w0.grownBy w (some bM)
section
variable {w0 : World} {T : TTab} {vk vkk vs vc : Value} {g bM : Nat} {vo vu : Value} {own up : List Int} {hr : Nat} {cs : Array Value} {w w' : World} {S : List Int}
theorem StW.below (h : StW w0 T vk vkk vs vc g bM vo vu own up hr cs w S) (hb : Below w.heap.size w w') : StW w0 T vk vkk vs vc g bM vo vu own up hr cs w' S :=
 ⟨h.ask.below hb, h.po.below hb, h.pu.below hb, h.row.below hb h.row.lt, h.grown.trans (only_of_below hb _)⟩
def UseP (w0 : World) (T : TTab) (vk vkk vs vc : Value) (g bM : Nat) (vo vu : Value) (own up : List Int) (hr : Nat) (cs : Array Value) (w : World) (b : Bool) (S : List Int) (e : Ending) (w' : World) : Prop :=
 e = .returned (.bool b) ∧ w0.grownBy w' (some bM) ∧ KeepC w w' ∧ w.heap.size ≤ w'.heap.size ∧ (b = true → StW w0 T vk vkk vs vc g bM vo vu own up hr cs w' S)
theorem st_code (h : StW w0 T vk vkk vs vc g bM vo vu own up hr cs w S) (hS : S.length < 1000000000) (hpos : ∀ c ∈ T.codes, ∀ x ∈ c.inputs, 0 ≤ x.pos) (hcs : cs.size = 8) (u : TUse) (hw : wfi u.code) (vp : Value) (hp : PathV w 0 vp u.path) (h1 : u.one ≤ u.path.length) (h2 : u.many ≤ u.path.length) (hin : ∀ j ∈ u.path, 0 ≤ j ∧ j < (T.states.length : Int)) :
  Calls Try.prog 44 #[.pointer (some ⟨g, 0, none⟩), .int .i64 u.code, .agg #[vp, .int .i64 u.one, .int .i64 u.many, .int .i64 u.asked]] w (UseP w0 T vk vkk vs vc g bM vo vu own up hr cs w (useOk T u) (toldS u.code S)) :=
 (code_any T vk vkk vs vc w g bM S.length S h.ask (by unfold maxLen; omega) u.code hw 0 vp u.path hp u.one u.many u.asked hpos h1 h2 hin).mono fun e w' ⟨he, hg, S', hA, hb⟩ => by
  have hk := keepC_of_set h.ask.2.1 hg
  refine ⟨he, h.grown.trans hg, hk, hg.size, fun hbt => ?_⟩
  have e := hb hbt
  subst e
  obtain ⟨a0, rest, hcs0⟩ : ∃ a0 rest, cs.toList = a0 :: rest := by
   cases hl : cs.toList with
   | nil => (exfalso; have : cs.toList.length = 8 := by simpa using hcs); rw [hl] at this; cases this
   | cons a r => exact ⟨a, r, rfl⟩
  have hc0 : w.cell? ⟨hr, 0, none⟩ = some a0 := by
   rw [h.row.cell 0, ← Array.getElem?_toList, hcs0]; rfl
  exact ⟨hA.low, h.po.keep hk hg.size, h.pu.keep hk hg.size, h.row.grown hg (fun e => by injection e with e; exact h.ask.2.1.noCell hc0 e), h.grown.trans hg⟩
end
def StInv (w0 : World) (T : TTab) (vk vkk vs vc : Value) (g bM : Nat) (vo vu : Value) (own up : List Int) (hr : Nat) (cs : Array Value) (S : List Int) (P : List TUse) (w : World) : Prop :=
 StW w0 T vk vkk vs vc g bM vo vu own up hr cs w (toldU P S) ∧ P.all (useOk T) = true
def stateT (T : TTab) (i : Nat) (x : TRow) : Bool := (usesRow T i x).all (useOk T)
theorem st_bad {T : TTab} {us P R : List TUse} {u : TUse} (he : us = P ++ u :: R) (h : useOk T u = false) : us.all (useOk T) = false := by
 subst he
 rw [List.all_eq_false]
 exact ⟨u, by simp, by rw [h]; simp⟩
def CapS (T : TTab) (S : List Int) : Prop := S.Nodup ∧ ∀ j ∈ S, 0 ≤ j ∧ j < (T.codes.length : Int)
theorem nodup_len : ∀ (n : Nat) (l : List Int), l.Nodup → (∀ j ∈ l, 0 ≤ j ∧ j < (n : Int)) → l.length ≤ n := by
 intro n
 induction n with
 | zero =>
  intro l _ h
  cases l with
  | nil => exact Nat.le_refl _
  | cons a l => have := h a (by simp); omega
 | succ n ih =>
  intro l hn h
  have h1 := ih (l.erase (n : Int)) (hn.erase _) (fun j hj => by
   have h2 := h j (List.mem_of_mem_erase hj)
   have h3 : j ≠ (n : Int) := fun e => by subst e; exact (hn.not_mem_erase) hj
   omega)
  have h4 := List.le_length_erase (a := (n : Int)) (l := l)
  omega
theorem capS_len {T : TTab} {S : List Int} (h : CapS T S) : S.length ≤ T.codes.length := nodup_len _ _ h.1 h.2
theorem capS_told {T : TTab} {S : List Int} (h : CapS T S) {u : TUse} (hu : useOk T u = true) : CapS T (toldS u.code S) := by
 unfold toldS addS
 split
 ·exact h
 ·next hn =>
  split
  ·exact h
  ·next hm =>
   refine ⟨List.nodup_cons.2 ⟨hm, h.1⟩, fun j hj => ?_⟩
   rcases List.mem_cons.1 hj with rfl | hj
   ·unfold useOk codeT at hu
    rw [decide_eq_false hn, Bool.false_or, Bool.and_eq_true, decide_eq_true_eq] at hu
    refine ⟨hu.1, ?_⟩
    rcases Nat.lt_or_ge u.code.toNat T.codes.length with h1 | h1
    ·omega
    ·have := hu.2
     rw [List.getElem?_eq_none h1] at this
     cases this
   ·exact h.2 j hj
theorem capU {T : TTab} {S : List Int} (h : CapS T S) : ∀ P : List TUse, P.all (useOk T) = true → CapS T (toldU P S) := by
 intro P
 induction P generalizing S with
 | nil => intro _; exact h
 | cons u P ih =>
  intro hp
  rw [List.all_cons, Bool.and_eq_true] at hp
  exact ih (capS_told h hp.1) hp.2
end Go.Proofs.Ytioocaicmiggoaa
namespace Go.Proofs.Ytioocaicmiggoaa
set_option linter.unusedVariables false
set_option linter.unusedSimpArgs false
open Go.RowKit Go.Deep Go.Maps
def rowI (T : TTab) (i : Nat) : Bool := match T.states[i]? with | some x => rowT T i x | none => true
def rowsB (T : TTab) (n : Nat) : Bool := (List.range n).all (rowI T)
def codeB (c : TCode) : Bool := decide (c.regs ≤ 16) && goodB c
def usesI (T : TTab) (i : Nat) : List TUse := match T.states[i]? with | some x => usesRow T i x | none => []
def usesUp (T : TTab) (n : Nat) : List TUse := (List.range n).flatMap (usesI T)
def usesT (T : TTab) : List TUse := usesUp T T.states.length
def verT (T : TTab) : Bool := headT T && rowsB T T.states.length && T.codes.all codeB && (usesT T).all (useOk T) && decide ((toldU (usesT T) []).length = T.codes.length)
theorem rows_step {T : TTab} {r : Nat} {x : TRow} (hx : T.states[r]? = some x) (h : rowsB T r = true) : rowsB T (r + 1) = rowT T r x := by
 unfold rowsB at h ⊢
 rw [List.range_succ, List.all_append, h]
 simp [rowI, hx]
theorem rows_bad {T : TTab} {r : Nat} {x : TRow} (hx : T.states[r]? = some x) (h : rowT T r x = false) : rowsB T T.states.length = false := by
 unfold rowsB
 rw [List.all_eq_false]
 exact ⟨r, List.mem_range.2 (List.getElem?_eq_some_iff.1 hx).1, by simp [rowI, hx, h]⟩
theorem uses_step {T : TTab} {r : Nat} {x : TRow} (hx : T.states[r]? = some x) : usesUp T (r + 1) = usesUp T r ++ usesRow T r x := by
 unfold usesUp
 rw [List.range_succ, List.flatMap_append]
 simp [usesI, hx]
theorem uses_bad {T : TTab} {r : Nat} {x : TRow} (hx : T.states[r]? = some x) (h : (usesRow T r x).all (useOk T) = false) : (usesT T).all (useOk T) = false := by
 rw [List.all_eq_false] at h ⊢
 obtain ⟨u, hu, hu2⟩ := h
 refine ⟨u, ?_, hu2⟩
 unfold usesT usesUp
 rw [List.mem_flatMap]
 exact ⟨r, List.mem_range.2 (List.getElem?_eq_some_iff.1 hx).1, by simp [usesI, hx, hu]⟩
theorem szL_app {α : Type} (f : α → Nat) (a b : List α) : szL f (a ++ b) = szL f a + szL f b := by simp [szL]
theorem usesRow_len (T : TTab) (i : Nat) (x : TRow) : (usesRow T i x).length ≤ 2 * (szRow x + 1) := by
 have h : ∀ (p : List Int) (l : List TTail), (l.flatMap (useEnd p)).length ≤ szL szTail l := by
  intro p l
  induction l with
  | nil => simp [szL]
  | cons e l ih =>
   have h2 := szL_len (fun _ : TStop => 0) e.bars
   simp only [List.flatMap_cons, List.length_append, useEnd, List.length_cons, List.length_map, szL, List.map_cons, List.sum_cons] at ih ⊢
   have h3 : szTail e = (e.bars.map fun x => 0 + 1).sum := rfl
   simp only [szL] at h2
   omega
 have h1 := h (pathT T.states i) x.ends
 have h2 := szL_len (fun _ : TStop => 0) x.bars
 simp only [usesRow, useTwo, List.length_append, List.length_cons, List.length_nil, List.length_map, szRow] at h1 h2 ⊢
 omega
theorem uses_len (T : TTab) : ∀ n, (usesUp T n).length ≤ 2 * szL szRow (T.states.take n) := by
 intro n
 induction n with
 | zero => simp [usesUp]
 | succ n ih =>
  cases hx : T.states[n]? with
  | none =>
   have e : usesUp T (n + 1) = usesUp T n := by unfold usesUp; rw [List.range_succ, List.flatMap_append]; simp [usesI, hx]
   have e2 : T.states.take (n + 1) = T.states.take n := by rw [List.take_add_one, hx]; simp
   rw [e, e2]; exact ih
  | some x =>
   rw [uses_step hx, take_one hx, szL_app, List.length_append]
   have h1 := usesRow_len T n x
   have h2 : szL szRow [x] = szRow x + 1 := by simp [szL]
   omega
theorem szL_take {α : Type} (f : α → Nat) (l : List α) (n : Nat) : szL f (l.take n) ≤ szL f l := by
 conv => rhs; rw [← List.take_append_drop n l, szL_app]
 omega
theorem uses_cap {T : TTab} (h : szTab T ≤ 1048576) (n : Nat) : (usesUp T n).length ≤ 2097152 := by
 have h1 := uses_len T n
 have h2 := szL_take szRow T.states n
 unfold szTab at h
 omega
theorem pos_of_good {T : TTab} (h : T.codes.all codeB = true) : ∀ c ∈ T.codes, ∀ x ∈ c.inputs, 0 ≤ x.pos := by
 intro c hc x hx
 rw [List.all_eq_true] at h
 have h1 := h c hc
 unfold codeB goodB at h1
 simp only [Bool.and_eq_true] at h1
 have h2 := List.all_eq_true.1 h1.2.1.1.2 x hx
 unfold inputB at h2
 simp only [Bool.and_eq_true, decide_eq_true_eq] at h2
 exact h2.1.1.1.1.1.2
theorem states_cap {T : TTab} (h : headT T = true) : T.states.length ≤ 32 := by
 unfold headT headN at h
 simp only [Bool.and_eq_true, decide_eq_true_eq] at h
 omega
theorem codes_cap {T : TTab} (h : headT T = true) : T.codes.length ≤ 1024 := by
 unfold headT headN at h
 simp only [Bool.and_eq_true, decide_eq_true_eq] at h
 omega
end Go.Proofs.Ytioocaicmiggoaa

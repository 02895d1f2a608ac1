/-
  The walk of asker.input.
-/
import Derived.Deep.RegionHeld3
import Derived.Test.YtioocaicmiggoaaLat
namespace Go.Proofs.Ytioocaicmiggoaa
set_option linter.unusedVariables false
set_option linter.unusedSimpArgs false
open Go.RowKit Go.Deep Go.Maps

/-- a path in memory: no block of it ahead of B -/
def PathV (w : World) (B : Nat) (v : Value) (l : List Int) : Prop := ∃ A c, v = .slice A l.length c ∧ Reads w w.heap.size 1 A l.length (iv l) ∧ l.length ≤ c ∧ c ≤ maxLen ∧ ∀ ad, A = some ad → B ≤ ad.block
theorem PathV.below {w w' : World} {B : Nat} {v : Value} {l : List Int} (h : PathV w B v l) (hb : Below w.heap.size w w') : PathV w' B v l := by
  obtain ⟨A, c, h1, h2, h3⟩ := h
  exact ⟨A, c, h1, reads_up h2 hb, h3⟩
theorem PathV.of {w : World} {B : Nat} {v : Value} {l : List Int} (h : w.ownsRow B 3 1 v l.length (iv l)) : PathV w B v l := by
  obtain ⟨A, c, rfl⟩ := own_slice h
  refine ⟨A, c, rfl, Reads.of_own h, (own_caps h).1, (own_caps h).2, fun ad hA => ?_⟩
  rcases h.2 with ⟨hv, _⟩ | ⟨g, cap, cur, hv, hb, _⟩
  · injection hv with h1; rw [hA] at h1; cases h1
  · injection hv with h1
    rw [hA] at h1
    injection h1 with h1
    subst h1
    exact hb
def rowK (T : TTab) (s : TRow) (x : TInp) : Bool :=
  if s.many = decide (x.op = 42) then false
  else if x.op = 25 then decide (x.kind = 1)
  else if attrT T s.ty x.attr = 0 ∨ attrT T s.ty x.attr ≠ x.kind then false
  else if x.op = 31 then decide (attrT T s.ty x.attr = 4)
  else if 28 ≤ x.op ∧ x.op ≤ 30 then decide (attrT T s.ty x.attr = 1) || decide (attrT T s.ty x.attr = 4)
  else true
/-- does an input fit? -/
def inputT (T : TTab) (path : List Int) (one many asked : Int) (x : TInp) : Bool :=
  if x.op = 41 then !decide (attrT T asked x.attr = 0) && decide (attrT T asked x.attr = x.kind)
  else if (if x.op = 42 then one else many) ≤ x.pos then false
  else match rowAt T.states (path.getD x.pos.toNat 0) with
    | none => false
    | some s => rowK T s x
set_option maxRecDepth 100000 in
set_option maxHeartbeats 4000000 in
theorem ainput_any (T : TTab) (vk vkk vs vc : Value) (w : World) (h : TabX w T vk vkk vs vc) (g bM : Nat)
    (hB : Blk w g 62 #[.int .i64 T.strategy, vk, vkk, .int .i64 T.syms, .int .i64 T.runs, .int .i64 T.cells, vs, vc, .map (some bM)]) (x : TInp) (B : Nat) (vp : Value) (path : List Int) (hp : PathV w B vp path)
    (one many asked : Int) (hpos : 0 ≤ x.pos) (h1 : one ≤ path.length) (h2 : many ≤ path.length) (hin : ∀ j ∈ path, 0 ≤ j ∧ j < (T.states.length : Int)) :
    Calls Try.prog 63 #[.pointer (some ⟨g, 0, none⟩), .agg #[.int .i64 x.op, .int .i64 x.kind, .int .i64 x.pos, .int .i64 x.attr], .agg #[vp, .int .i64 one, .int .i64 many, .int .i64 asked]] w (BoolP w (inputT T path one many asked x)) := by
  obtain ⟨w1, hw1⟩ : ∃ w1, w1 = (w.alloc (.cells #[.int .i64 x.op, .int .i64 x.kind, .int .i64 x.pos, .int .i64 x.attr] 70)).alloc (.cells #[vp, .int .i64 one, .int .i64 many, .int .i64 asked] 96) := ⟨_, rfl⟩
  have B0 : Below w.heap.size w w1 := by rw [hw1]; exact ((Below.refl w.heap.size w).alloc (Nat.le_refl _) _).alloc (by simp) _
  have BX : Blk w1 w.heap.size 70 #[.int .i64 x.op, .int .i64 x.kind, .int .i64 x.pos, .int .i64 x.attr] := by rw [hw1]; exact (Blk.new w _ _).alloc _
  have BP : Blk w1 (w.heap.size + 1) 96 #[vp, .int .i64 one, .int .i64 many, .int .i64 asked] := by
    rw [hw1]
    have := Blk.new (w.alloc (.cells #[.int .i64 x.op, .int .i64 x.kind, .int .i64 x.pos, .int .i64 x.attr] 70)) 96 #[vp, .int .i64 one, .int .i64 many, .int .i64 asked]
    rw [World.size_alloc] at this
    exact this
  have hs1 : w1.heap.size = w.heap.size + 2 := by rw [hw1]; simp
  have hgl := hB.lt
  have BT := hB.below B0 hgl
  have X1 := h.below B0
  have P1 := hp.below B0
  obtain ⟨x0, x1, x2, x3⟩ := blk4 BX
  obtain ⟨p0, p1, p2, p3⟩ := blk4 BP
  obtain ⟨rv, hrv⟩ : ∃ rv, inputT T path one many asked x = rv := ⟨_, rfl⟩
  have HRV := Lib.hid hrv
  rw [hrv]
  have HS1 := Lib.hid hs1
  have HBX := Lib.hid BX
  have HBP := Lib.hid BP
  have HBT := Lib.hid BT
  have HX := Lib.hid X1
  have HP := Lib.hid P1
  have HB0 := Lib.hid B0
  have HIN := Lib.hid hin
  clear BX BP BT hB h hp X1 P1 B0 hrv hs1 hin
  by_cases c1 : x.op = 41
  · have e1 : (x.op == 41) = true := by simpa using c1
    have HR : Hid ((!decide (attrT T asked x.attr = 0) && decide (attrT T asked x.attr = x.kind)) = rv) := Lib.hid (by have := HRV.out; unfold inputT at this; rw [if_pos c1] at this; exact this)
    obtain ⟨k, hk⟩ : ∃ k, attrT T asked x.attr = k := ⟨_, rfl⟩
    have CA := Lib.hid (attr_any T vk vkk vs vc w1 HX.out g bM HBT.out asked x.attr)
    rw [hk] at CA HR
    clear hk c1
    go_enter Try.func63, Try.ntmps63
    go_upto_region 1 with fail
    rw [← hw1]
    clear hw1
    go_wp2_with fail
    refine CA.out.mono ?_
    rintro e w2 ⟨rfl, hb2⟩
    have x1 := (HBX.out.below hb2 (by have := HS1.out; omega)).cell 1
    have HB2 := Lib.hid (HB0.out.trans (hb2.mono HB0.out.size))
    clear hb2 x0 x2 x3 p0 p1 p2 p3
    go_wp2_with fail
    all_goals (go_ret; refine ⟨ret_bool ?_, HB2.out⟩; rw [← HR.out]; (try simp only [beq_iff_eq, beq_eq_false_iff_ne, bne_iff_ne, bne_eq_false_iff_eq, ne_eq] at *); rw [Bool.eq_iff_iff]; simp; try omega)
  · have e1 : (x.op == 41) = false := by simpa using c1
    obtain ⟨n, hn⟩ : ∃ n, (if x.op = 42 then one else many) = n := ⟨_, rfl⟩
    have hnl : n ≤ path.length := by rw [← hn]; split <;> assumption
    have HR : Hid ((if n ≤ x.pos then false else match rowAt T.states (path.getD x.pos.toNat 0) with | none => false | some s => rowK T s x) = rv) := Lib.hid (by
      have := HRV.out; unfold inputT at this; rw [if_neg c1, hn] at this; exact this)
    have HN := Lib.hid hn
    clear hn c1
    go_enter Try.func63, Try.ntmps63
    go_upto_region 1 with fail
    rw [← hw1]
    clear hw1
    go_upto_if 32 with fail
    go_cut [8] from 32 to 34 (fun v wx => v = .int .i64 n ∧ wx = w1)
    case first =>
      rcases e2 : (x.op != 42) with _ | _
      · have c2 : x.op = 42 := by simpa using e2
        have e : Hid (one = n) := Lib.hid (by rw [← HN.out, if_pos c2])
        clear c2
        go_wp2_with fail
        go_meet
        exact ⟨by rw [e.out], rfl⟩
      · have c2 : ¬ x.op = 42 := by simpa using e2
        have e : Hid (many = n) := Lib.hid (by rw [← HN.out, if_neg c2])
        clear c2
        go_wp2_with fail
        go_meet
        exact ⟨by rw [e.out], rfl⟩
    case rest =>
      obtain ⟨rfl, hwc⟩ := hcut
      subst hwc
      by_cases c3 : n ≤ x.pos
      · have e : rv = false := by have h9 := HR.out; rw [if_pos c3] at h9; exact h9.symm
        have e := Lib.hid e
        go_wp2_with fail
        go_ret
        exact ⟨ret_bool e.out.symm, HB0.out⟩
      · obtain ⟨q, hq⟩ : ∃ q : Nat, x.pos = q := ⟨x.pos.toNat, by omega⟩
        obtain ⟨j, hj⟩ : ∃ j, path[q]? = some j := ⟨_, List.getElem?_eq_getElem (by omega)⟩
        have hjr := HIN.out j (List.mem_of_getElem? hj)
        obtain ⟨m, rfl⟩ : ∃ m : Nat, j = m := ⟨j.toNat, by omega⟩
        obtain ⟨s, hs⟩ : ∃ s, T.states[m]? = some s := ⟨_, List.getElem?_eq_getElem (by omega)⟩
        have HR2 : Hid (rowK T s x = rv) := Lib.hid (by
          have h9 := HR.out
          rw [if_neg c3, hq, Int.toNat_natCast, List.getD_eq_getElem?_getD, hj] at h9
          simp only [Option.getD_some, rowAt_nat, hs] at h9
          exact h9)
        obtain ⟨A9, c9, rfl, hrd, hc1, hc2, _⟩ := HP.out
        obtain ⟨b9, off9, rfl, had, hcell⟩ := hrd.shape (by omega)
        have y0 := hcell q (.int .i64 (m : Int)) (by unfold iv; rw [List.getElem?_map, hj]; rfl)
        obtain ⟨b5, off5, c5, vb, ve, hvv, hc3, hc4, q0, q1, q2, q3, q4, q5, q6, q7, hbs, hes, _⟩ := rows_get HX.out.states hs
        subst hvv
        obtain ⟨A6, c6, rfl, hc5, hc6⟩ := hbs.slice
        obtain ⟨A7, c7, rfl, hc7, hc8⟩ := hes.slice
        have k6 := (blk9 HBT.out).2.2.2.2.2.2.1
        unfold maxLen at hc2 hc4 hc6 hc8
        rw [hq] at x2
        have g1 : (0 : Int) ≤ (q : Int) := by omega
        have g2 : (q : Int) < (path.length : Int) := by omega
        have g3 : (0 : Int) ≤ (m : Int) := by omega
        have g4 : (m : Int) < (T.states.length : Int) := by omega
        have HQ := Lib.hid hq
        have g5 : (q : Int) < n := by omega
        clear hq hj hjr hs hrd hcell c3 hbs hes
        have j1 := World.new_ne wc _ k6
        have j2 := World.new_ne wc _ p0
        have j3 := World.new_ne wc _ x2
        have j4 := World.new_ne wc _ y0
        have j5 := World.new_ne wc _ q0
        go_upto_region 9 with fail
        go_region_held3 (fun w' => w'.cell? ⟨g, 6, none⟩ = some (.slice (some ⟨b5, off5, none⟩) T.states.length c5) ∧ w'.cell? ⟨w.heap.size + 1, 0, none⟩ = some (.slice (some ⟨b9, off9, none⟩) path.length c9) ∧ w'.cell? ⟨w.heap.size, 2, none⟩ = some (.int .i64 (q : Int)) ∧ w'.cell? ⟨b9, off9 + q, none⟩ = some (.int .i64 (m : Int)) ∧
          w'.cell? ⟨b5, off5 + m * 8, none⟩ = some (.int .i64 s.par) ∧ w'.cell? ⟨b5, off5 + m * 8 + 1, none⟩ = some (.int .i64 s.ty) ∧ w'.cell? ⟨b5, off5 + m * 8 + 2, none⟩ = some (.bool s.many) ∧ w'.cell? ⟨b5, off5 + m * 8 + 3, none⟩ = some (.int .i64 s.win) ∧ w'.cell? ⟨b5, off5 + m * 8 + 4, none⟩ = some (.slice A6 s.bars.length c6) ∧
          w'.cell? ⟨b5, off5 + m * 8 + 5, none⟩ = some (.int .i64 s.leave) ∧ w'.cell? ⟨b5, off5 + m * 8 + 6, none⟩ = some (.int .i64 s.guard) ∧ w'.cell? ⟨b5, off5 + m * 8 + 7, none⟩ = some (.slice A7 s.ends.length c7)) (go_keep) (fail)
        rename_i hHeld
        clear hHeld j1 j2 j3 j4 j5 q0 q1 q2 q3 q4 q5 q6 q7 y0 p0 p1 p2 p3 k6
        obtain ⟨w3, hw3⟩ : ∃ w3, w3 = (wc.alloc (.cells #[.int .i64 s.par, .int .i64 s.ty, .bool s.many, .int .i64 s.win, .slice A6 s.bars.length c6, .int .i64 s.leave, .int .i64 s.guard, .slice A7 s.ends.length c7] 46)).drew := ⟨_, rfl⟩
        rw [← hw3]
        have B3 : Below wc.heap.size wc w3 := by rw [hw3]; have := (Below.refl wc.heap.size wc).alloc (Nat.le_refl _) (.cells #[.int .i64 s.par, .int .i64 s.ty, .bool s.many, .int .i64 s.win, .slice A6 s.bars.length c6, .int .i64 s.leave, .int .i64 s.guard, .slice A7 s.ends.length c7] 46); exact ⟨this.os, this.tape, this.output, this.size, this.block⟩
        have BR : Blk w3 wc.heap.size 46 #[.int .i64 s.par, .int .i64 s.ty, .bool s.many, .int .i64 s.win, .slice A6 s.bars.length c6, .int .i64 s.leave, .int .i64 s.guard, .slice A7 s.ends.length c7] := by rw [hw3]; exact (Blk.new wc _ _).drew
        have BX3 := HBX.out.below B3 HBX.out.lt
        have HBT3 := Lib.hid (HBT.out.below B3 HBT.out.lt)
        have HX3 := Lib.hid (HX.out.below B3)
        have HB3 := Lib.hid (HB0.out.trans (B3.mono HB0.out.size))
        obtain ⟨sm, hsm⟩ : ∃ sm, s.many = sm := ⟨_, rfl⟩
        rw [hsm] at BR
        obtain ⟨r0, r1, r2, r3, r4, r5, r6, r7⟩ := blk8 BR
        have HR3 : Hid ((if sm = decide (x.op = 42) then false else if x.op = 25 then decide (x.kind = 1) else if attrT T s.ty x.attr = 0 ∨ attrT T s.ty x.attr ≠ x.kind then false else if x.op = 31 then decide (attrT T s.ty x.attr = 4) else if 28 ≤ x.op ∧ x.op ≤ 30 then decide (attrT T s.ty x.attr = 1) || decide (attrT T s.ty x.attr = 4) else true) = rv) := Lib.hid (by
          have h9 := HR2.out; unfold rowK at h9; rw [hsm] at h9; exact h9)
        have HLT := Lib.hid BR.lt
        clear x0 x1 x2 x3
        obtain ⟨x0, x1, x2, x3⟩ := blk4 BX3
        have HBX3 := Lib.hid BX3
        clear hw3 BR BX3 hsm B3 HR2 HR
        rcases e2 : (x.op != 42) with _ | _
        · have c2 : x.op = 42 := by simpa using e2
          have e3 : (x.op == 25) = false := by rw [c2]; decide
          have d1 : Hid (x.op = 42) := Lib.hid c2
          clear c2
          cases sm with
          | true =>
            have e : Hid (rv = false) := Lib.hid (by have h9 := HR3.out; rw [if_pos (by rw [decide_eq_true d1.out])] at h9; exact h9.symm)
            clear HR3
            go_wp2_with fail
            go_ret
            exact ⟨ret_bool e.out.symm, HB3.out⟩
          | false =>
            have HR4 : Hid ((if attrT T s.ty x.attr = 0 ∨ attrT T s.ty x.attr ≠ x.kind then false else true) = rv) := Lib.hid (by
              have h9 := HR3.out
              rw [if_neg (by rw [decide_eq_true d1.out]; simp), if_neg (by rw [d1.out]; decide), if_neg (show ¬ x.op = 31 by rw [d1.out]; decide), if_neg (show ¬ (28 ≤ x.op ∧ x.op ≤ 30) by rw [d1.out]; decide)] at h9
              exact h9)
            obtain ⟨k, hk⟩ : ∃ k, attrT T s.ty x.attr = k := ⟨_, rfl⟩
            have CA := Lib.hid (attr_any T vk vkk _ vc w3 HX3.out g bM HBT3.out s.ty x.attr)
            rw [hk] at CA HR4
            clear hk HR3
            go_wp2_with fail
            refine CA.out.mono ?_
            rintro e w4 ⟨rfl, hb4⟩
            have BX4 := HBX3.out.below hb4 HBX3.out.lt
            obtain ⟨x0, x1, x2, x3⟩ := blk4 BX4
            have HB4 := Lib.hid (HB3.out.trans (hb4.mono HB3.out.size))
            clear hb4 BX4 CA
            have d2 : 28 ≤ x.op := by have := d1.out; omega
            have d3 : 30 < x.op := by have := d1.out; omega
            have e4 : (x.op == 31) = false := by rw [d1.out]; decide
            go_wp2_with fail
            all_goals (go_ret; refine ⟨ret_bool ?_, HB4.out⟩; rw [← HR4.out]; (try simp only [beq_iff_eq, beq_eq_false_iff_ne, bne_iff_ne, bne_eq_false_iff_eq, ne_eq] at *); (repeat' split) <;> (first | rfl | (exfalso; omega) | (rw [Bool.eq_iff_iff]; simp; omega) | (simp; omega)))
        · have c2 : ¬ x.op = 42 := by simpa using e2
          cases sm with
          | false =>
            have e : Hid (rv = false) := Lib.hid (by have h9 := HR3.out; rw [if_pos (by rw [decide_eq_false c2])] at h9; exact h9.symm)
            clear HR3 c2
            go_wp2_with fail
            go_ret
            exact ⟨ret_bool e.out.symm, HB3.out⟩
          | true =>
            rcases e3 : (x.op == 25) with _ | _
            · have c3 : ¬ x.op = 25 := by simpa using e3
              have HR4 : Hid ((if attrT T s.ty x.attr = 0 ∨ attrT T s.ty x.attr ≠ x.kind then false else if x.op = 31 then decide (attrT T s.ty x.attr = 4) else if 28 ≤ x.op ∧ x.op ≤ 30 then decide (attrT T s.ty x.attr = 1) || decide (attrT T s.ty x.attr = 4) else true) = rv) := Lib.hid (by
                have h9 := HR3.out
                rw [if_neg (by rw [decide_eq_false c2]; simp), if_neg c3] at h9
                exact h9)
              obtain ⟨k, hk⟩ : ∃ k, attrT T s.ty x.attr = k := ⟨_, rfl⟩
              have CA := Lib.hid (attr_any T vk vkk _ vc w3 HX3.out g bM HBT3.out s.ty x.attr)
              rw [hk] at CA HR4
              clear hk HR3 c2 c3
              go_wp2_with fail
              refine CA.out.mono ?_
              rintro e w4 ⟨rfl, hb4⟩
              have BX4 := HBX3.out.below hb4 HBX3.out.lt
              obtain ⟨x0, x1, x2, x3⟩ := blk4 BX4
              have HB4 := Lib.hid (HB3.out.trans (hb4.mono HB3.out.size))
              clear hb4 BX4 CA
              rcases e4 : (x.op == 31) with _ | _
              all_goals (
                go_wp2_with fail
                all_goals (go_ret; refine ⟨ret_bool ?_, HB4.out⟩; rw [← HR4.out]; (try simp only [beq_iff_eq, beq_eq_false_iff_ne, bne_iff_ne, bne_eq_false_iff_eq, ne_eq] at *); (repeat' split) <;> (first | rfl | (exfalso; omega) | (rw [Bool.eq_iff_iff]; simp; omega) | (simp; omega))))
            · have c3 : x.op = 25 := by simpa using e3
              have HR4 : Hid (decide (x.kind = 1) = rv) := Lib.hid (by
                have h9 := HR3.out
                rw [if_neg (by rw [decide_eq_false c2]; simp), if_pos c3] at h9
                exact h9)
              clear c2 c3 HR3
              go_wp2_with fail
              go_ret
              exact ⟨ret_bool (by rw [← HR4.out, Bool.eq_iff_iff]; simp), HB3.out⟩
end Go.Proofs.Ytioocaicmiggoaa

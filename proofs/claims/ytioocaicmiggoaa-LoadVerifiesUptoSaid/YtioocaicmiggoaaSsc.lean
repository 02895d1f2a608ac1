/-
  The walk of the document's Same of two codes that read alike.
-/
import Derived.BigQuiet
import Derived.Test.YtioocaicmiggoaaLty
import Derived.Deep.DeepCutAuto
namespace Go.Proofs.Ytioocaicmiggoaa
set_option linter.unusedVariables false
set_option linter.unusedSimpArgs false
open Go.RowKit Go.Deep

theorem inps_gets {w : World} {v : Value} {l : List TInp} (h : SlR 4 InpC w v l) {i : Nat} {x : TInp} (hx : l[i]? = some x) :
    ∃ b off c, v = .slice (some ⟨b, off, none⟩) l.length c ∧ w.cell? ⟨b, off + i * 4, none⟩ = some (.int .i64 x.op) ∧ w.cell? ⟨b, off + i * 4 + 1, none⟩ = some (.int .i64 x.kind) ∧ w.cell? ⟨b, off + i * 4 + 2, none⟩ = some (.int .i64 x.pos) ∧ w.cell? ⟨b, off + i * 4 + 3, none⟩ = some (.int .i64 x.attr) := by
  obtain ⟨b, off, c, hv, h1, h2, hi, cs, hl, ⟨rfl, hw⟩, hc⟩ := h.get hx
  exact ⟨b, off, c, hv, hc 0 _ rfl, hc 1 _ rfl, hc 2 _ rfl, hc 3 _ rfl⟩
theorem vals_gets {w : World} {v : Value} {l : List TVal} (h : SlR 2 ValC w v l) {i : Nat} {x : TVal} (hx : l[i]? = some x) :
    ∃ b off c, v = .slice (some ⟨b, off, none⟩) l.length c ∧ w.cell? ⟨b, off + i * 2, none⟩ = some (.int .i64 x.kind) ∧ w.cell? ⟨b, off + i * 2 + 1, none⟩ = some (.int .u64 x.bits) := by
  obtain ⟨b, off, c, hv, h1, h2, hi, cs, hl, ⟨rfl, hw⟩, hc⟩ := h.get hx
  exact ⟨b, off, c, hv, hc 0 _ rfl, hc 1 _ rfl⟩
theorem inss_gets {w : World} {v : Value} {l : List TIns} (h : SlR 4 InsC w v l) {i : Nat} {x : TIns} (hx : l[i]? = some x) :
    ∃ b off c, v = .slice (some ⟨b, off, none⟩) l.length c ∧ w.cell? ⟨b, off + i * 4, none⟩ = some (.int .i64 x.op) ∧ w.cell? ⟨b, off + i * 4 + 1, none⟩ = some (.int .i64 x.dst) ∧ w.cell? ⟨b, off + i * 4 + 2, none⟩ = some (.int .i64 x.a) ∧ w.cell? ⟨b, off + i * 4 + 3, none⟩ = some (.int .i64 x.b) := by
  obtain ⟨b, off, c, hv, h1, h2, hi, cs, hl, ⟨rfl, hw⟩, hc⟩ := h.get hx
  exact ⟨b, off, c, hv, hc 0 _ rfl, hc 1 _ rfl, hc 2 _ rfl, hc 3 _ rfl⟩
theorem blk5s {w : World} {g : Nat} {t : TypeId} {a0 a1 a2 a3 a4 : Value} (h : Blk w g t #[a0, a1, a2, a3, a4]) :
    w.cell? ⟨g, 0, none⟩ = some a0 ∧ w.cell? ⟨g, 1, none⟩ = some a1 ∧ w.cell? ⟨g, 2, none⟩ = some a2 ∧ w.cell? ⟨g, 3, none⟩ = some a3 ∧ w.cell? ⟨g, 4, none⟩ = some a4 := ⟨h.cell 0, h.cell 1, h.cell 2, h.cell 3, h.cell 4⟩

set_option maxRecDepth 100000 in
set_option maxHeartbeats 4000000 in
theorem same_code (x : TCode) (vi vc vl ui uc ul : Value) (w : World) (hi : SlR 4 InpC w vi x.inputs) (hc : SlR 2 ValC w vc x.consts) (hl : SlR 4 InsC w vl x.list) (ki : SlR 4 InpC w ui x.inputs) (kc : SlR 2 ValC w uc x.consts) (kl : SlR 4 InsC w ul x.list) :
    Calls Try.prog 30 #[.agg #[.int .i64 x.regs, .int .i64 x.slots, vi, vc, vl], .agg #[.int .i64 x.regs, .int .i64 x.slots, ui, uc, ul]] w fun e w' => e = .returned (.bool true) ∧ Below w.heap.size w w' := by
  obtain ⟨A1, c1, rfl, h1, h2⟩ := hi.slice
  obtain ⟨A2, c2, rfl, h3, h4⟩ := hc.slice
  obtain ⟨A3, c3, rfl, h5, h6⟩ := hl.slice
  obtain ⟨A4, c4, rfl, h7, h8⟩ := ki.slice
  obtain ⟨A5, c5, rfl, h9, h10⟩ := kc.slice
  obtain ⟨A6, c6, rfl, h11, h12⟩ := kl.slice
  unfold maxLen at h2 h4 h6
  clear h7 h8 h9 h10 h11 h12
  obtain ⟨W, hW⟩ : ∃ W, W = (w.alloc (.cells #[.int .i64 x.regs, .int .i64 x.slots, .slice A1 x.inputs.length c1, .slice A2 x.consts.length c2, .slice A3 x.list.length c3] 40)).alloc (.cells #[.int .i64 x.regs, .int .i64 x.slots, .slice A4 x.inputs.length c4, .slice A5 x.consts.length c5, .slice A6 x.list.length c6] 40) := ⟨_, rfl⟩
  have hb : Below w.heap.size w W := by rw [hW]; exact ((Below.refl _ _).alloc (Nat.le_refl _) _).alloc (by simp) _
  have b1 : Blk W w.heap.size 40 #[.int .i64 x.regs, .int .i64 x.slots, .slice A1 x.inputs.length c1, .slice A2 x.consts.length c2, .slice A3 x.list.length c3] := by rw [hW]; exact (Blk.new _ _ _).alloc _
  have b2 : Blk W (w.heap.size + 1) 40 #[.int .i64 x.regs, .int .i64 x.slots, .slice A4 x.inputs.length c4, .slice A5 x.consts.length c5, .slice A6 x.list.length c6] := by
    have h := Blk.new (w.alloc (.cells #[.int .i64 x.regs, .int .i64 x.slots, .slice A1 x.inputs.length c1, .slice A2 x.consts.length c2, .slice A3 x.list.length c3] 40)) 40 #[.int .i64 x.regs, .int .i64 x.slots, .slice A4 x.inputs.length c4, .slice A5 x.consts.length c5, .slice A6 x.list.length c6]
    rw [World.size_alloc] at h
    rw [hW]; exact h
  have kp := KeepC.of_below hb
  have HI := Lib.hid (keep_inps kp hi)
  have HC := Lib.hid (keep_vals kp hc)
  have HL := Lib.hid (keep_inss kp hl)
  have KI := Lib.hid (keep_inps kp ki)
  have KC := Lib.hid (keep_vals kp kc)
  have KL := Lib.hid (keep_inss kp kl)
  have HB := Lib.hid hb
  have z1 : (0 : Int) ≤ (x.inputs.length : Int) := by omega
  have z2 : (0 : Int) ≤ (x.consts.length : Int) := by omega
  have z3 : (0 : Int) ≤ (x.list.length : Int) := by omega
  obtain ⟨p0, p1, p2, p3, p4⟩ := blk5s b1
  obtain ⟨q0, q1, q2, q3, q4⟩ := blk5s b2
  clear hi hc hl ki kc kl kp hb b1 b2
  go_enter Try.func30, Try.ntmps30
  go_upto_region 1 with fail
  try simp only [World.size_alloc]
  rw [← hW]
  clear hW
  go_wp2_with fail
  go_loopw [50] (fun s wr => ∃ r : Nat, r ≤ x.inputs.length ∧ s = .int .i64 r ∧ Hid (∃ q, wr = W.drewN q)) (fun s _ => x.inputs.length - (intOf s).toNat)
  case atStart => exact ⟨0, Nat.zero_le _, rfl, Lib.hid ⟨0, rfl⟩⟩
  case round =>
    obtain ⟨r, hr, rfl, hq⟩ := hrel
    obtain ⟨q, rfl⟩ := hq.out
    clear hq
    by_cases hlt : r < x.inputs.length
    · obtain ⟨y, hy⟩ : ∃ y, x.inputs[r]? = some y := ⟨_, List.getElem?_eq_getElem hlt⟩
      obtain ⟨ba, oa, ca, ea, m0, m1, m2, m3⟩ := inps_gets HI.out hy
      obtain ⟨bb, ob, cb, eb, n0, n1, n2, n3⟩ := inps_gets KI.out hy
      injection ea with ea _ ea2
      injection eb with eb _ eb2
      subst ea ea2 eb eb2
      have b1 : (0 : Int) ≤ (r : Int) := by omega
      have b2 : (r : Int) < (x.inputs.length : Int) := by omega
      clear hy
      go_upto_region 6 with fail
      refine wp_region_quiet_lit (by kernel_rfl) (by kernel_rfl) ?_
      repeat (any_goals (first | go_big_quiet_step (fail) | quiet_step (fail) | (refine wpQuiet_step (fun K hK => ?_); go_simp; split <;> (refine hK _ ?_; clear hK K))))
      all_goals (refine wpQuiet_nil ?_; intro _ hw'; obtain ⟨nq, hw''⟩ := hw'; subst hw'')
      go_wp2_with fail
      go_roundw
      case rel => first | exact ⟨r + 1, by omega, by go_num, Lib.hid ⟨q + nq, by first | rfl | rw [World.drewN_drewN]⟩⟩ | ((repeat apply Exists.intro); exact ⟨⟨r + 1, by omega, by go_num, Lib.hid ⟨q + nq, by first | rfl | rw [World.drewN_drewN]⟩⟩, rfl⟩)
      case measure => simp [intOf]; omega
    · have hge : (x.inputs.length : Int) ≤ (r : Int) := by omega
      go_wp2_with fail
      obtain ⟨d1, hd1⟩ : ∃ d1, d1 = q := ⟨_, rfl⟩
      rw [← hd1]
      clear hd1 hge hr hlt
      go_loopw [68] (fun s wr => ∃ r : Nat, r ≤ x.consts.length ∧ s = .int .i64 r ∧ Hid (∃ q, wr = W.drewN q)) (fun s _ => x.consts.length - (intOf s).toNat)
      case atStart => exact ⟨0, Nat.zero_le _, rfl, Lib.hid ⟨d1, rfl⟩⟩
      case round =>
        obtain ⟨r, hr, rfl, hq⟩ := hrel
        obtain ⟨q, rfl⟩ := hq.out
        clear hq
        by_cases hlt : r < x.consts.length
        · obtain ⟨y, hy⟩ : ∃ y, x.consts[r]? = some y := ⟨_, List.getElem?_eq_getElem hlt⟩
          obtain ⟨ba, oa, ca, ea, m0, m1⟩ := vals_gets HC.out hy
          obtain ⟨bb, ob, cb, eb, n0, n1⟩ := vals_gets KC.out hy
          injection ea with ea _ ea2
          injection eb with eb _ eb2
          subst ea ea2 eb eb2
          have b1 : (0 : Int) ≤ (r : Int) := by omega
          have b2 : (r : Int) < (x.consts.length : Int) := by omega
          clear hy
          go_upto_region 12 with fail
          refine wp_region_quiet_lit (by kernel_rfl) (by kernel_rfl) ?_
          repeat (any_goals (first | go_big_quiet_step (fail) | quiet_step (fail) | (refine wpQuiet_step (fun K hK => ?_); go_simp; split <;> (refine hK _ ?_; clear hK K))))
          all_goals (refine wpQuiet_nil ?_; intro _ hw'; obtain ⟨nq, hw''⟩ := hw'; subst hw'')
          go_wp2_with fail
          go_roundw
          case rel => first | exact ⟨r + 1, by omega, by go_num, Lib.hid ⟨q + nq, by first | rfl | rw [World.drewN_drewN]⟩⟩ | ((repeat apply Exists.intro); exact ⟨⟨r + 1, by omega, by go_num, Lib.hid ⟨q + nq, by first | rfl | rw [World.drewN_drewN]⟩⟩, rfl⟩)
          case measure => simp [intOf]; omega
        · have hge : (x.consts.length : Int) ≤ (r : Int) := by omega
          go_wp2_with fail
          obtain ⟨d2, hd2⟩ : ∃ d2, d2 = q := ⟨_, rfl⟩
          rw [← hd2]
          clear hd2 hge hr hlt
          go_loopw [86] (fun s wr => ∃ r : Nat, r ≤ x.list.length ∧ s = .int .i64 r ∧ Hid (∃ q, wr = W.drewN q)) (fun s _ => x.list.length - (intOf s).toNat)
          case atStart => exact ⟨0, Nat.zero_le _, rfl, Lib.hid ⟨d2, rfl⟩⟩
          case round =>
            obtain ⟨r, hr, rfl, hq⟩ := hrel
            obtain ⟨q, rfl⟩ := hq.out
            clear hq
            by_cases hlt : r < x.list.length
            · obtain ⟨y, hy⟩ : ∃ y, x.list[r]? = some y := ⟨_, List.getElem?_eq_getElem hlt⟩
              obtain ⟨ba, oa, ca, ea, m0, m1, m2, m3⟩ := inss_gets HL.out hy
              obtain ⟨bb, ob, cb, eb, n0, n1, n2, n3⟩ := inss_gets KL.out hy
              injection ea with ea _ ea2
              injection eb with eb _ eb2
              subst ea ea2 eb eb2
              have b1 : (0 : Int) ≤ (r : Int) := by omega
              have b2 : (r : Int) < (x.list.length : Int) := by omega
              clear hy
              go_upto_region 18 with fail
              refine wp_region_quiet_lit (by kernel_rfl) (by kernel_rfl) ?_
              repeat (any_goals (first | go_big_quiet_step (fail) | quiet_step (fail) | (refine wpQuiet_step (fun K hK => ?_); go_simp; split <;> (refine hK _ ?_; clear hK K))))
              all_goals (refine wpQuiet_nil ?_; intro _ hw'; obtain ⟨nq, hw''⟩ := hw'; subst hw'')
              go_wp2_with fail
              go_roundw
              case rel => first | exact ⟨r + 1, by omega, by go_num, Lib.hid ⟨q + nq, by first | rfl | rw [World.drewN_drewN]⟩⟩ | ((repeat apply Exists.intro); exact ⟨⟨r + 1, by omega, by go_num, Lib.hid ⟨q + nq, by first | rfl | rw [World.drewN_drewN]⟩⟩, rfl⟩)
              case measure => simp [intOf]; omega
            · have hge : (x.list.length : Int) ≤ (r : Int) := by omega
              go_wp2_with fail
              go_ret
              exact ⟨rfl, below_drewN HB.out _⟩
end Go.Proofs.Ytioocaicmiggoaa

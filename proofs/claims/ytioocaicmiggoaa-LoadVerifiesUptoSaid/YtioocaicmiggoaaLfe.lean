/-
  The walk of few: it answers, whatever.
-/
import Derived.Deep.DeepCutAuto
import Derived.Test.YtioocaicmiggoaaLpr
namespace Go.Proofs.Ytioocaicmiggoaa
set_option linter.unusedVariables false
set_option linter.unusedSimpArgs false
open Go.RowKit Go.Deep

theorem tails_get {w : World} {v : Value} {l : List TTail} (h : SlR 3 TailC w v l) {i : Nat} {x : TTail} (hx : l[i]? = some x) :
    ∃ b off c vb, v = .slice (some ⟨b, off, none⟩) l.length c ∧ l.length ≤ c ∧ c ≤ maxLen ∧ w.cell? ⟨b, off + i * 3, none⟩ = some (.int .i64 x.br) ∧ w.cell? ⟨b, off + i * 3 + 1, none⟩ = some (.int .i64 x.cl) ∧ w.cell? ⟨b, off + i * 3 + 2, none⟩ = some vb ∧ SlR 2 StopC w vb x.bars ∧ wfi x.br ∧ wfi x.cl := by
  obtain ⟨b, off, c, hv, h1, h2, hi, cs, hl, ⟨vb, rfl, hs, hw⟩, hc⟩ := h.get hx
  exact ⟨b, off, c, vb, hv, h1, h2, hc 0 _ rfl, hc 1 _ rfl, hc 2 _ rfl, hs, hw⟩
theorem codes_get {w : World} {v : Value} {l : List TCode} (h : SlR 5 CodeC w v l) {i : Nat} {x : TCode} (hx : l[i]? = some x) :
    ∃ b off c vi vc vl, v = .slice (some ⟨b, off, none⟩) l.length c ∧ l.length ≤ c ∧ c ≤ maxLen ∧ w.cell? ⟨b, off + i * 5, none⟩ = some (.int .i64 x.regs) ∧ w.cell? ⟨b, off + i * 5 + 1, none⟩ = some (.int .i64 x.slots) ∧ w.cell? ⟨b, off + i * 5 + 2, none⟩ = some vi ∧
      w.cell? ⟨b, off + i * 5 + 3, none⟩ = some vc ∧ w.cell? ⟨b, off + i * 5 + 4, none⟩ = some vl ∧ SlR 4 InpC w vi x.inputs ∧ SlR 2 ValC w vc x.consts ∧ SlR 4 InsC w vl x.list ∧ wfi x.regs ∧ wfi x.slots := by
  obtain ⟨b, off, c, hv, h1, h2, hi, cs, hl, ⟨vi, vc, vl, rfl, hs, ht, hu, hw⟩, hc⟩ := h.get hx
  exact ⟨b, off, c, vi, vc, vl, hv, h1, h2, hc 0 _ rfl, hc 1 _ rfl, hc 2 _ rfl, hc 3 _ rfl, hc 4 _ rfl, hs, ht, hu, hw⟩
set_option maxRecDepth 100000 in
set_option maxHeartbeats 4000000 in
theorem few_any (T : TTab) (vk vkk vs vc : Value) (w : World) (h : TabX w T vk vkk vs vc) :
    Calls Try.prog 7 #[.agg #[.int .i64 T.strategy, vk, vkk, .int .i64 T.syms, .int .i64 T.runs, .int .i64 T.cells, vs, vc]] w fun e w' => ∃ b, e = .returned (.bool b) ∧ Below w.heap.size w w' := by
  obtain ⟨A, c, rfl, hc1, hc2⟩ := h.states.slice
  obtain ⟨A2, c2, rfl, hc3, hc4⟩ := h.codes.slice
  obtain ⟨A3, c3, rfl, hc5, hc6⟩ := h.kinds.slice
  have HX := Lib.hid (fun W (hb : Below w.heap.size w W) => h.below hb)
  have B0 := Lib.hid (fun o => (Below.refl w.heap.size w).alloc (Nat.le_refl _) o)
  have BX := Lib.hid (Blk.new w 27 #[.int .i64 T.strategy, vk, .slice A3 T.kinds.length c3, .int .i64 T.syms, .int .i64 T.runs, .int .i64 T.cells, .slice A T.states.length c, .slice A2 T.codes.length c2])
  unfold maxLen at hc2 hc4 hc6
  have hnn : (0 : Int) ≤ (T.states.length : Int) := by omega
  clear h
  go_enter Try.func7, Try.ntmps7
  go_wp2_with fail
  go_loopw [3, 25] (fun s i wr => ∃ (r : Nat) (x : Int), r ≤ T.states.length ∧ i = .int .i64 r ∧ s = .int .i64 x ∧ Below (w.heap.size + 1) (w.alloc (.cells #[.int .i64 T.strategy, vk, .slice A3 T.kinds.length c3, .int .i64 T.syms, .int .i64 T.runs, .int .i64 T.cells, .slice A T.states.length c, .slice A2 T.codes.length c2] 27)) wr) (fun _ i _ => T.states.length - (intOf i).toNat)
  case atStart => exact ⟨0, _, Nat.zero_le _, rfl, rfl, Below.refl _ _⟩
  case round =>
    obtain ⟨r, x, hr, rfl, rfl, hb⟩ := hrel
    have hb0 := Lib.hid ((B0.out _).trans (hb.mono (by omega)))
    have X := Lib.hid (HX.out wr hb0.out)
    by_cases hlt : r < T.states.length
    · obtain ⟨y, hy⟩ : ∃ y, T.states[r]? = some y := ⟨_, List.getElem?_eq_getElem hlt⟩
      obtain ⟨b, off, c5, vb, ve, hv, _, _, q0, q1, q2, q3, q4, q5, q6, q7, hbars, hends, _⟩ := rows_get X.out.states hy
      injection hv with hv1 hv2 hv3
      subst hv1
      obtain ⟨A6, c6, rfl, hc7, hc8⟩ := hbars.slice
      obtain ⟨A7, c7, rfl, hc9, hc10⟩ := hends.slice
      unfold maxLen at hc8 hc10
      have b1 : (0 : Int) ≤ (r : Int) := by omega
      have b2 : (r : Int) < (T.states.length : Int) := by omega
      have hwr : w.heap.size + 1 ≤ wr.heap.size := by have := hb.size; simpa using this
      have HE := Lib.hid hends
      clear hy hv2 hv3 hbars hends
      go_upto_region 5 with fail
      go_cut [3] from 29 to 39 (fun s wx => (∃ x : Int, s = .int .i64 x) ∧ wx = wr.alloc (.cells #[.int .i64 y.par, .int .i64 y.ty, .bool y.many, .int .i64 y.win, .slice A6 y.bars.length c6, .int .i64 y.leave, .int .i64 y.guard, .slice A7 y.ends.length c7] 46))
      case first =>
        go_wp2_with fail
        all_goals (go_meet; exact ⟨⟨_, rfl⟩, rfl⟩)
      case rest =>
        obtain ⟨⟨x2, rfl⟩, rfl⟩ := hcut
        have B1 := Lib.hid (fun o => (Below.refl wr.heap.size wr).alloc (Nat.le_refl _) o)
        have HB := Lib.hid hb
        have n7 : (0 : Int) ≤ (y.ends.length : Int) := by omega
        clear hb q0 q1 q2 q3 q4 q5 q6 q7
        go_wp2_with fail
        go_loopw [3, 43] (fun s i wx => ∃ (r2 : Nat) (x : Int), r2 ≤ y.ends.length ∧ i = .int .i64 r2 ∧ s = .int .i64 x ∧ Below wr.heap.size wr wx) (fun _ i _ => y.ends.length - (intOf i).toNat)
        case atStart => exact ⟨0, _, Nat.zero_le _, rfl, rfl, B1.out _⟩
        case round =>
          obtain ⟨r2, x3, hr2, rfl, rfl, hbx⟩ := hrel
          by_cases hlt2 : r2 < y.ends.length
          · obtain ⟨z, hz⟩ : ∃ z, y.ends[r2]? = some z := ⟨_, List.getElem?_eq_getElem hlt2⟩
            obtain ⟨b7, off7, c8, vb8, hv, _, _, t0, t1, t2, hb8, _⟩ := tails_get (keep_tails (KeepC.of_below hbx) HE.out) hz
            injection hv with hv1 hv2 hv3
            subst hv1
            obtain ⟨A8, c9, rfl, hc11, hc12⟩ := hb8.slice
            unfold maxLen at hc12
            have d1 : (0 : Int) ≤ (r2 : Int) := by omega
            have d2 : (r2 : Int) < (y.ends.length : Int) := by omega
            have HBX := Lib.hid (fun o => hbx.alloc hbx.size o)
            clear hz hv2 hv3 hb8 hbx
            by_cases h99 : (z.bars.length : Int) < 9999
            · go_wp2_with fail
              go_roundw
              case rel => first | exact ⟨r2 + 1, _, by omega, by go_num, rfl, HBX.out _⟩ | ((repeat apply Exists.intro); exact ⟨⟨r2 + 1, _, by omega, by go_num, rfl, HBX.out _⟩, rfl⟩)
              case measure => simp [intOf]; omega
            · have h98 : (9999 : Int) ≤ (z.bars.length : Int) := by omega
              go_wp2_with fail
              go_roundw
              case rel => first | exact ⟨r2 + 1, _, by omega, by go_num, rfl, HBX.out _⟩ | ((repeat apply Exists.intro); exact ⟨⟨r2 + 1, _, by omega, by go_num, rfl, HBX.out _⟩, rfl⟩)
              case measure => simp [intOf]; omega
          · have hge : (y.ends.length : Int) ≤ (r2 : Int) := by omega
            have HO := Lib.hid (HB.out.trans (hbx.mono (by omega)))
            clear hbx
            go_wp2_with fail
            go_roundw
            case rel => first | exact ⟨r + 1, _, by omega, by go_num, rfl, HO.out⟩ | ((repeat apply Exists.intro); exact ⟨⟨r + 1, _, by omega, by go_num, rfl, HO.out⟩, rfl⟩)
            case measure => simp [intOf]; omega
    · have hge : (T.states.length : Int) ≤ (r : Int) := by omega
      have k7 := (BX.out.below hb (by omega)).cell 7
      have n9 : (0 : Int) ≤ (T.codes.length : Int) := by omega
      have HCO := Lib.hid X.out.codes
      have HB0 := Lib.hid hb0.out
      clear hb X
      go_wp2_with fail
      go_loopw [3, 58] (fun s i wx => ∃ (r2 : Nat) (x : Int), r2 ≤ T.codes.length ∧ i = .int .i64 r2 ∧ s = .int .i64 x ∧ Below wr.heap.size wr wx) (fun _ i _ => T.codes.length - (intOf i).toNat)
      case atStart => exact ⟨0, _, Nat.zero_le _, rfl, rfl, Below.refl _ _⟩
      case round =>
        obtain ⟨r2, x3, hr2, rfl, rfl, hbx⟩ := hrel
        by_cases hlt2 : r2 < T.codes.length
        · obtain ⟨z, hz⟩ : ∃ z, T.codes[r2]? = some z := ⟨_, List.getElem?_eq_getElem hlt2⟩
          obtain ⟨b7, off7, c8, vi, vc8, vl, hv, _, _, t0, t1, t2, t3, t4, hi8, hcc8, hl8, _⟩ := codes_get (keep_codes (KeepC.of_below hbx) HCO.out) hz
          injection hv with hv1 hv2 hv3
          subst hv1
          obtain ⟨A8, c9, rfl, hc11, hc12⟩ := hi8.slice
          obtain ⟨A9, c10, rfl, hc13, hc14⟩ := hl8.slice
          obtain ⟨A5, c11, rfl, hc15, hc16⟩ := hcc8.slice
          unfold maxLen at hc12 hc14
          have d1 : (0 : Int) ≤ (r2 : Int) := by omega
          have d2 : (r2 : Int) < (T.codes.length : Int) := by omega
          have HBX := Lib.hid (fun o => hbx.alloc hbx.size o)
          clear hz hv2 hv3 hi8 hcc8 hl8 hbx
          by_cases h99 : (z.inputs.length : Int) < 9999
          · by_cases h89 : (z.list.length : Int) < 9999
            · have h00 := h99
              go_wp2_with fail
              go_roundw
              case rel => first | exact ⟨r2 + 1, _, by omega, by go_num, rfl, HBX.out _⟩ | ((repeat apply Exists.intro); exact ⟨⟨r2 + 1, _, by omega, by go_num, rfl, HBX.out _⟩, rfl⟩)
              case measure => simp [intOf]; omega
            · have h88 : (9999 : Int) ≤ (z.list.length : Int) := by omega
              go_wp2_with fail
              go_roundw
              case rel => first | exact ⟨r2 + 1, _, by omega, by go_num, rfl, HBX.out _⟩ | ((repeat apply Exists.intro); exact ⟨⟨r2 + 1, _, by omega, by go_num, rfl, HBX.out _⟩, rfl⟩)
              case measure => simp [intOf]; omega
          · have h98 : (9999 : Int) ≤ (z.inputs.length : Int) := by omega
            by_cases h89 : (z.list.length : Int) < 9999
            · have h00 := h98
              go_wp2_with fail
              go_roundw
              case rel => first | exact ⟨r2 + 1, _, by omega, by go_num, rfl, HBX.out _⟩ | ((repeat apply Exists.intro); exact ⟨⟨r2 + 1, _, by omega, by go_num, rfl, HBX.out _⟩, rfl⟩)
              case measure => simp [intOf]; omega
            · have h88 : (9999 : Int) ≤ (z.list.length : Int) := by omega
              go_wp2_with fail
              go_roundw
              case rel => first | exact ⟨r2 + 1, _, by omega, by go_num, rfl, HBX.out _⟩ | ((repeat apply Exists.intro); exact ⟨⟨r2 + 1, _, by omega, by go_num, rfl, HBX.out _⟩, rfl⟩)
              case measure => simp [intOf]; omega
        · have hge2 : (T.codes.length : Int) ≤ (r2 : Int) := by omega
          have HO := Lib.hid (HB0.out.trans (hbx.mono HB0.out.size))
          clear hbx
          go_wp2_with fail
          go_ret
          exact ⟨_, rfl, HO.out⟩
end Go.Proofs.Ytioocaicmiggoaa

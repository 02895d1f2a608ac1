/- Mse: texts merged for a claim by a program of mine. -/
import Derived.Test.YtioocaicmiggoaaA25
import Derived.Test.YtioocaicmiggoaaA19
import Derived.Test.YtioocaicmiggoaaA02
import Derived.Test.YtioocaicmiggoaaA24
namespace Go.Proofs.Ytioocaicmiggoaa
set_option linter.unusedVariables false
set_option linter.unusedSimpArgs false
open Go.RowKit Go.Deep
def rowM (T : TTab) (i : Nat) (x : TRow) : Bool := inB x.ty 0 ((T.kinds.length : Int) - 1) && decide (0 ≤ x.win) && decide (x.win ≤ 1152921504606846976) && decide ((pathT T.states i).length ≤ 8) && (decide (0 ≤ x.par) || (decide (x.bars.length = 0) && decide (x.leave = -1)))
def barsAll (x : TRow) : List TStop := x.bars ++ x.ends.flatMap (fun e => e.bars)
def rowD (T : TTab) (i : Nat) (x : TRow) : Bool := inB x.par (-1) ((i : Int) - 1) && rowM T i x && (x.ends.all fun e => inB e.br 0 3) && ((barsAll x).all fun b => inB b.ty 0 ((T.kinds.length : Int) - 1))
def rowDI (T : TTab) (i : Nat) : Bool := match T.states[i]? with | some x => rowD T i x | none => true
def secondT (T : TTab) : Bool := decide (T.states.length ≤ 32) && (List.range T.states.length).all (rowDI T)
theorem rowD_more {T : TTab} {r : Nat} {x : TRow} (hx : T.states[r]? = some x) : (List.range (r + 1)).all (rowDI T) = ((List.range r).all (rowDI T) && rowD T r x) := by
 rw [List.range_succ, List.all_append]
 simp only [List.all_cons, List.all_nil, Bool.and_true]
 unfold rowDI
 rw [hx]
theorem FlatR.app {α : Type} {F : Nat} {R : World → List Value → α → Prop} {w : World} {us bs : List (List Value)} {xs ys : List α} (h : FlatR F R w us xs) (k : FlatR F R w bs ys) : FlatR F R w (us ++ bs) (xs ++ ys) := by
 refine ⟨by simp [h.1, k.1], fun i y hy => ?_⟩
 rcases Nat.lt_or_ge i xs.length with hi | hi
 ·rw [List.getElem?_append_left hi] at hy
  obtain ⟨c, h1, h2⟩ := h.2 i y hy
  exact ⟨c, by rw [List.getElem?_append_left (by rw [h.1]; exact hi)]; exact h1, h2⟩
 ·rw [List.getElem?_append_right hi] at hy
  obtain ⟨c, h1, h2⟩ := k.2 _ y hy
  exact ⟨c, by rw [List.getElem?_append_right (by rw [h.1]; exact hi), h.1]; exact h1, h2⟩
def OwnS (B : Nat) (w : World) (v : Value) (l : List TStop) : Prop := ∃ css, w.ownsRow B 98 2 v l.length css.flatten ∧ FlatR 2 StopC w css l
theorem stopC_any {w w' : World} {css : List (List Value)} {l : List TStop} (h : FlatR 2 StopC w css l) : FlatR 2 StopC w' css l := ⟨h.1, fun i x hx => by
 obtain ⟨c, h1, h2, h3⟩ := h.2 i x hx
 exact ⟨c, h1, h2, h3⟩⟩
theorem OwnS.below {B : Nat} {w w' : World} {v : Value} {l : List TStop} (h : OwnS B w v l) (hb : Below w.heap.size w w') : OwnS B w' v l := by
 obtain ⟨css, h1, h2⟩ := h
 exact ⟨css, own_below h1 hb, stopC_any h2⟩
theorem OwnS.slr {B : Nat} {w : World} {v : Value} {l : List TStop} (h : OwnS B w v l) : SlR 2 StopC w v l := by
 obtain ⟨css, h1, h2⟩ := h
 exact (slq_of_own (Q := fun _ => True) h2 h1 (fun _ _ _ _ => trivial) (.inr trivial)).out (fun _ _ h => h)
theorem blk3a {w : World} {g : Nat} {t : TypeId} {a b c : Value} (h : Blk w g t #[a, b, c]) : w.cell? ⟨g, 0, none⟩ = some a ∧ w.cell? ⟨g, 1, none⟩ = some b ∧ w.cell? ⟨g, 2, none⟩ = some c ∧ True := ⟨h.cell 0, h.cell 1, h.cell 2, trivial⟩
theorem flat_bars (l : List TTail) : ∀ n, ((l.take n).flatMap fun e => e.bars).length ≤ szL szTail l := by
 induction l with
 | nil => intro n; simp
 | cons e l ih =>
  intro n
  have h2 := szL_len (fun _ : TStop => 0) e.bars
  have h4 : szL szTail (e :: l) = szTail e + 1 + szL szTail l := by simp [szL]
  rw [h4]
  unfold szTail at ih ⊢
  cases n with
  | zero => simp
  | succ n =>
   rw [List.take_succ_cons, List.flatMap_cons, List.length_append]
   have h3 := ih n
   omega
set_option maxRecDepth 100000 in
set_option maxHeartbeats 16000000 in
theorem second_may (T : TTab) (vk vkk vs vc : Value) (w : World) (h : TabX w T vk vkk vs vc) (hsz : szTab T ≤ 1048576) :
  Calls Try.prog 25 #[.agg #[.int .i64 T.strategy, vk, vkk, .int .i64 T.syms, .int .i64 T.runs, .int .i64 T.cells, vs, vc]] w (BoolP w (secondT T)) := by
 have hn : T.states.length ≤ 1500000000000 := by
  have := szL_len szRow T.states
  unfold szTab at hsz
  omega
 obtain ⟨A, c, rfl, hc1, hc2⟩ := h.states.slice
 obtain ⟨A2, c2, rfl, hc3, hc4⟩ := h.codes.slice
 obtain ⟨A3, c3, rfl, hc5, hc6⟩ := h.kinds.slice
 obtain ⟨A1, c1, rfl, hc7, hc8⟩ := h.keys.slice
 unfold maxLen at hc2 hc4 hc6 hc8
 obtain ⟨i2, hi2, hz2, hsz2, hb2⟩ := info_parts info_stop
 obtain ⟨W0, hW0⟩ : ∃ W, W = w.alloc (.cells #[.int .i64 T.strategy, .slice A1 T.keys.length c1, .slice A3 T.kinds.length c3, .int .i64 T.syms, .int .i64 T.runs, .int .i64 T.cells, .slice A T.states.length c, .slice A2 T.codes.length c2] 27) := ⟨_, rfl⟩
 have B0 : Below w.heap.size w W0 := by rw [hW0]; exact (Below.refl _ _).alloc (Nat.le_refl _) _
 have HX := Lib.hid (h.below B0)
 have HB0 := Lib.hid B0
 have HSZ := Lib.hid hsz
 have BX : Hid (Blk W0 w.heap.size 27 #[.int .i64 T.strategy, .slice A1 T.keys.length c1, .slice A3 T.kinds.length c3, .int .i64 T.syms, .int .i64 T.runs, .int .i64 T.cells, .slice A T.states.length c, .slice A2 T.codes.length c2]) := Lib.hid (by rw [hW0]; exact Blk.new _ _ _)
 have CP := Lib.hid (fun (i : Int) W (hb : Below W0.heap.size W0 W) => rpath_any T _ _ _ _ hn i W (HX.out.below hb))
 obtain ⟨k0, k1, k2, k3, k4, k5, k6, k7⟩ := blk8 BX.out
 have hns : (0 : Int) ≤ (T.states.length : Int) := by omega
 have hnk : (0 : Int) ≤ (T.kinds.length : Int) := by omega
 clear h B0 hn hsz
 go_enter Try.func25, Try.ntmps25
 go_upto_region 1 with fail
 rw [← hW0]
 clear hW0
 go_wp2_with fail
 clear k0 k1 k2 k3 k4 k5 k6 k7
 obtain ⟨o0, ho0⟩ : ∃ o, decide ((T.states.length : Int) ≤ 32) = o := ⟨_, rfl⟩
 have HO0 := Lib.hid ho0
 rw [ho0]
 clear ho0
 go_loopw [3, 18] (fun s i wr => ∃ r : Nat, r ≤ T.states.length ∧ i = .int .i64 r ∧ s = .bool (o0 && (List.range r).all (rowDI T)) ∧ Hid (Below W0.heap.size W0 wr)) (fun _ i _ => T.states.length - (intOf i).toNat)
 case atStart => exact ⟨0, Nat.zero_le _, rfl, by simp, Lib.hid (Below.refl _ _)⟩
 case round =>
  obtain ⟨r, hr, rfl, rfl, hbr⟩ := hrel
  obtain ⟨ob, hob⟩ : ∃ o, (o0 && (List.range r).all (rowDI T)) = o := ⟨_, rfl⟩
  rw [hob]
  have HOB := Lib.hid hob
  clear hob
  by_cases hlt : r < T.states.length
  ·obtain ⟨x, hx⟩ : ∃ x, T.states[r]? = some x := ⟨_, List.getElem?_eq_getElem hlt⟩
   obtain ⟨b5, off5, c5, vb, ve, hvv, _, _, q0, q1, q2, q3, q4, q5, q6, q7, hbars, hends, wx0, wx1, wx2, wx3, wx4⟩ := rows_get HX.out.states hx
   injection hvv with hv1 hv2 hv3
   subst hv1
   have kc := KeepC.of_below hbr.out
   replace q0 := kc _ _ q0
   replace q1 := kc _ _ q1
   replace q2 := kc _ _ q2
   replace q3 := kc _ _ q3
   replace q4 := kc _ _ q4
   replace q5 := kc _ _ q5
   replace q6 := kc _ _ q6
   replace q7 := kc _ _ q7
   obtain ⟨A6, c6, rfl, hc9, hc10⟩ := hbars.slice
   obtain ⟨A7, c7, rfl, hc11, hc12⟩ := hends.slice
   unfold maxLen at hc10 hc12
   have b1 : (0 : Int) ≤ (r : Int) := by omega
   have b2 : (r : Int) < (T.states.length : Int) := by omega
   have HRX := Lib.hid hx
   have HBA := Lib.hid (keep_stops kc hbars)
   have HEN := Lib.hid (keep_tails kc hends)
   obtain ⟨W, hW⟩ : ∃ W, W = wr.alloc (.cells #[.int .i64 x.par, .int .i64 x.ty, .bool x.many, .int .i64 x.win, .slice A6 x.bars.length c6, .int .i64 x.leave, .int .i64 x.guard, .slice A7 x.ends.length c7] 46) := ⟨_, rfl⟩
   have haW : Below wr.heap.size wr W := by rw [hW]; exact (Below.refl _ _).alloc (Nat.le_refl _) _
   have HBX : Hid (Blk W wr.heap.size 46 #[.int .i64 x.par, .int .i64 x.ty, .bool x.many, .int .i64 x.win, .slice A6 x.bars.length c6, .int .i64 x.leave, .int .i64 x.guard, .slice A7 x.ends.length c7]) := Lib.hid (by rw [hW]; exact Blk.new _ _ _)
   have HBW := Lib.hid (hbr.out.trans (haW.mono hbr.out.size))
   have HBA2 := Lib.hid (keep_stops (KeepC.of_below haW) HBA.out)
   have HEN2 := Lib.hid (keep_tails (KeepC.of_below haW) HEN.out)
   have HTB := Lib.hid (BX.out.below HBW.out BX.out.lt)
   clear hv2 hv3 hbars hends hx kc HBA HEN haW
   go_upto_region 5 with fail
   rw [← hW]
   clear hW q0 q1 q2 q3 q4 q5 q6 q7
   obtain ⟨x0, x1, x2, x3, x4, x5, x6, x7⟩ := blk8 HBX.out
   obtain ⟨k0, k1, k2, k3, k4, k5, k6, k7⟩ := blk8 HTB.out
   go_cut [3] (fun q wx => q = .bool (ob && inB x.par (-1) ((r : Int) - 1)) ∧ wx = W)
   case first =>
    cases ob with
    | false =>
     go_wp2_with fail
     go_meet
     exact ⟨rfl, rfl⟩
    | true =>
     go_wp2_with (go_at_call 28; refine (within_any _ _ _ _).mono ?_; rintro e w' ⟨rfl, rfl⟩)
     go_meet
     exact ⟨rfl, rfl⟩
   case rest =>
    obtain ⟨rfl, hcw⟩ := hcut
    subst hcw
    obtain ⟨o1, ho1⟩ : ∃ o, (ob && inB x.par (-1) ((r : Int) - 1)) = o := ⟨_, rfl⟩
    rw [ho1]
    have HO1 := Lib.hid ho1
    clear ho1
    have HPC := Lib.hid (CP.out (r : Int) wc HBW.out)
    have hp8 := pathT_len T.states (r : Int)
    obtain ⟨E, hE⟩ : ∃ E, pathT T.states (r : Int) = E := ⟨_, rfl⟩
    rw [hE] at HPC hp8
    have HRM : Hid (rowM T r x = (inB x.ty 0 ((T.kinds.length : Int) - 1) && decide (0 ≤ x.win) && decide (x.win ≤ 1152921504606846976) && decide (E.length ≤ 8) && (decide (0 ≤ x.par) || (decide (x.bars.length = 0) && decide (x.leave = -1))))) := Lib.hid (by unfold rowM; rw [hE])
    obtain ⟨bm, hbm⟩ : ∃ b, rowM T r x = b := ⟨_, rfl⟩
    rw [hbm] at HRM
    have HBM := Lib.hid hbm
    have nE : (0 : Int) ≤ (E.length : Int) := by omega
    clear hE hbm
    go_upto_region 6 with fail
    go_cut [3] (fun q wx => q = .bool (o1 && bm) ∧ Below wc.heap.size wc wx)
    case first =>
     cases o1 with
     | false =>
      go_wp2_with fail
      go_meet
      exact ⟨rfl, Below.refl _ _⟩
     | true =>
      have HBF := Lib.hid (fun (h : (inB x.ty 0 ((T.kinds.length : Int) - 1) && decide (0 ≤ x.win) && decide (x.win ≤ 1152921504606846976) && decide (E.length ≤ 8) && (decide (0 ≤ x.par) || (decide (x.bars.length = 0) && decide (x.leave = -1)))) = false) => HRM.out.trans h)
      have HBT := Lib.hid (fun (h : (inB x.ty 0 ((T.kinds.length : Int) - 1) && decide (0 ≤ x.win) && decide (x.win ≤ 1152921504606846976) && decide (E.length ≤ 8) && (decide (0 ≤ x.par) || (decide (x.bars.length = 0) && decide (x.leave = -1)))) = true) => HRM.out.trans h)
      obtain ⟨t1, ht1⟩ : ∃ t, inB x.ty 0 ((T.kinds.length : Int) - 1) = t := ⟨_, rfl⟩
      have C1 : Calls Try.prog 28 #[.int .i64 x.ty, .int .i64 0, .int .i64 ((T.kinds.length : Int) - 1)] wc (fun e w' => e = .returned (.bool t1) ∧ wc = w') := by rw [← ht1]; exact within_any _ _ _ _
      have HC1 := Lib.hid C1
      rw [ht1] at HBF HBT
      clear C1 ht1 HRM
      cases t1 with
      | false =>
       have hz := HBF.out (by simp)
       go_wp2_with (go_at_call 28; refine HC1.out.mono ?_; rintro e w' ⟨rfl, rfl⟩)
       go_meet
       exact ⟨by rw [hz]; rfl, Below.refl _ _⟩
      | true =>
       by_cases h1 : 0 ≤ x.win
       ·by_cases h2 : x.win ≤ 1152921504606846976
        ·obtain ⟨t2, ht2⟩ : ∃ t, decide ((E.length : Int) ≤ 8) = t := ⟨_, rfl⟩
         have e2 : decide (E.length ≤ 8) = t2 := by rw [← ht2, Bool.eq_iff_iff]; simp; omega
         obtain ⟨t3, ht3⟩ : ∃ t, decide (0 ≤ x.par) = t := ⟨_, rfl⟩
         obtain ⟨t4, ht4⟩ : ∃ t, ((x.bars.length : Int) == 0) = t := ⟨_, rfl⟩
         have e4 : decide (x.bars.length = 0) = t4 := by rw [← ht4, Bool.eq_iff_iff]; simp
         obtain ⟨t5, ht5⟩ : ∃ t, (x.leave == -1) = t := ⟨_, rfl⟩
         have e5 : decide (x.leave = -1) = t5 := by rw [← ht5, Bool.eq_iff_iff]; simp
         rw [decide_eq_true h1, decide_eq_true h2, e2, ht3, e4, e5] at HBF HBT
         have HBM2 : Hid (bm = (t2 && (t3 || (t4 && t5)))) := Lib.hid (by
          cases hq : (t2 && (t3 || (t4 && t5))) with
          | false => exact HBF.out (by simpa using hq)
          | true => exact HBT.out (by simpa using hq))
         clear HBF HBT e2 e4 e5
         cases t2 <;> cases t3 <;> cases t4 <;> cases t5
         all_goals
          go_wp2_with (first
           | (go_at_call 28; refine HC1.out.mono ?_; rintro e w' ⟨rfl, rfl⟩)
           | (go_at_call 14; refine HPC.out.mono ?_; rintro e w9 ⟨A9, c9, rfl, _, hb9⟩; have HB9 := Lib.hid hb9; clear x0 x1 x2 x3 x4 x5 x6 x7; obtain ⟨x0, x1, x2, x3, x4, x5, x6, x7⟩ := blk8 (HBX.out.below hb9 HBX.out.lt); clear hb9))
          go_meet
          exact ⟨by rw [HBM2.out]; rfl, HB9.out⟩
        ·have hz := HBF.out (by simp [h2])
         have h3 : 1152921504606846976 < x.win := by omega
         go_wp2_with (go_at_call 28; refine HC1.out.mono ?_; rintro e w' ⟨rfl, rfl⟩)
         go_meet
         exact ⟨by rw [hz]; rfl, Below.refl _ _⟩
       ·have hz := HBF.out (by simp [h1])
        have h3 : x.win < 0 := by omega
        go_wp2_with (go_at_call 28; refine HC1.out.mono ?_; rintro e w' ⟨rfl, rfl⟩)
        go_meet
        exact ⟨by rw [hz]; rfl, Below.refl _ _⟩
    case rest =>
     obtain ⟨rfl, hb6⟩ := hcut
     obtain ⟨V, hV⟩ : ∃ V, V = wc := ⟨wc, rfl⟩
     subst hV
     obtain ⟨o2, ho2⟩ : ∃ o, (o1 && bm) = o := ⟨_, rfl⟩
     rw [ho2]
     have HO2 := Lib.hid ho2
     have HBV := Lib.hid (HBW.out.trans (hb6.mono HBW.out.size))
     have HBX7 := Lib.hid (HBX.out.below hb6 HBX.out.lt)
     have HTB7 := Lib.hid (HTB.out.below hb6 (Nat.lt_of_lt_of_le BX.out.lt HBW.out.size))
     have HBA7 := Lib.hid (keep_stops (KeepC.of_below hb6) HBA2.out)
     have HEN7 := Lib.hid (keep_tails (KeepC.of_below hb6) HEN2.out)
     clear ho2 hb6 x0 x1 x2 x3 x4 x5 x6 x7 k0 k1 k2 k3 k4 k5 k6 k7 HPC HRM HBX HTB HBA2 HEN2
     obtain ⟨x0, x1, x2, x3, x4, x5, x6, x7⟩ := blk8 HBX7.out
     obtain ⟨cbs, Ab, nb, hvb, hbl1, hbl2, hfb, hrb⟩ := flat_of_slr HBA7.out
     injection hvb with hvb1 _ hvb2
     subst hvb1 hvb2
     have RB := Lib.hid (hrb (by decide))
     have OB := Lib.hid (flat_one hfb fun _ _ h => one_stop h)
     have HFB := Lib.hid hfb
     obtain ⟨W7, hW7⟩ : ∃ W, W = V.alloc (.cells #[] 98) := ⟨_, rfl⟩
     have ha7 : Below V.heap.size V W7 := by rw [hW7]; exact (Below.refl _ _).alloc (Nat.le_refl _) _
     have HO7 : Hid (W7.ownsRow V.heap.size 98 2 (.slice (some ⟨V.heap.size, 0, none⟩) 0 0) 0 []) := Lib.hid (by rw [hW7]; exact World.ownsRow_lit V #[] 0 (Nat.le_refl _) (by decide) rfl)
     have RB7 := Lib.hid (RB.out.below ha7)
     have HA7 := Lib.hid ha7
     have HW7 := Lib.hid hW7
     obtain ⟨y0, y1, y2, y3, y4, y5, y6, y7⟩ := blk8 (HBX7.out.below ha7 HBX7.out.lt)
     have HBC : Hid (x.bars.length + szL szTail x.ends ≤ 1048576) := Lib.hid (by
      have h1 := szL_mem szRow (List.mem_of_getElem? HRX.out)
      have h2 := HSZ.out
      have h3 := szL_len (fun _ : TStop => 0) x.bars
      unfold szRow at h1
      unfold szTab szRow at h2
      omega)
     clear hrb hfb ha7 hW7 RB
     rw [HW7.out] at y0 y1 y2 y3 y4 y5 y6 y7
     go_upto_region 8 with (at_builtin; rw [← HW7.out]; refine wpList_append_any _ rfl (.tmp 74) (.tmp 76) 43 rfl V.heap.size 98 i2 _ 2 16 Try.underlying43 hi2 hz2 hsz2 hb2 rfl (by omega) (.slice (some ⟨V.heap.size, 0, none⟩) 0 0) 0 [] rfl HO7.out V.heap.size A6 x.bars.length c6 cbs.flatten rfl RB7.out OB.out (by unfold maxLen; have := HBC.out; omega) (by have := HBC.out; omega) HA7.out.size ?_; intro v8 w8 ho8 hg8 hat8; simp only [Nat.zero_add, List.nil_append] at ho8; obtain ⟨A8, c8, rfl⟩ := own_slice ho8; (try rw [Nat.zero_add]); have HO8 := Lib.hid ho8; have HA8 : Hid (Below V.heap.size V w8) := Lib.hid (HA7.out.grown hg8 HA7.out.size (fun q hq => (own_lt HO7.out hq).2)); clear ho8 hg8 hat8)
     clear y0 y1 y2 y3 y4 y5 y6 y7 x0 x1 x2 x3 x4 x5 x6 x7 RB7 OB HO7 HW7 HA7
     obtain ⟨x0, x1, x2, x3, x4, x5, x6, x7⟩ := blk8 (HBX7.out.below HA8.out HBX7.out.lt)
     have HS8 : Hid (OwnS V.heap.size w8 (.slice A8 x.bars.length c8) x.bars) := Lib.hid ⟨cbs, HO8.out, stopC_any HFB.out⟩
     have hne : (0 : Int) ≤ (x.ends.length : Int) := by omega
     clear HO8 HFB
     go_wp2_with fail
     clear x0 x1 x2 x3 x4 x5 x6 x7
     go_loopw [3, 6, 81] (fun s v i wq => ∃ q : Nat, q ≤ x.ends.length ∧ i = .int .i64 q ∧ s = .bool (o2 && (x.ends.take q).all fun e => inB e.br 0 3) ∧ Hid (OwnS V.heap.size wq v (x.bars ++ (x.ends.take q).flatMap fun e => e.bars)) ∧ Hid (Below V.heap.size V wq)) (fun _ _ i _ => x.ends.length - (intOf i).toNat)
     case atStart => exact ⟨0, Nat.zero_le _, rfl, by simp, Lib.hid (by simpa using HS8.out), HA8⟩
     case round =>
      obtain ⟨q, hq, rfl, rfl, hos, hbq⟩ := hrel
      obtain ⟨o3, ho3⟩ : ∃ o, (o2 && (x.ends.take q).all fun e => inB e.br 0 3) = o := ⟨_, rfl⟩
      rw [ho3]
      have HO3 := Lib.hid ho3
      clear ho3
      obtain ⟨L, hL⟩ : ∃ L, x.bars ++ (x.ends.take q).flatMap (fun e => e.bars) = L := ⟨_, rfl⟩
      rw [hL] at hos
      have HL := Lib.hid hL
      clear hL
      obtain ⟨csl, hol, hfl⟩ := hos.out
      obtain ⟨Al, cl, rfl⟩ := own_slice hol
      by_cases hlt2 : q < x.ends.length
      ·obtain ⟨e, he⟩ : ∃ e, x.ends[q]? = some e := ⟨_, List.getElem?_eq_getElem hlt2⟩
       obtain ⟨b7, off7, c7', vb7, hv, _, _, m0, m1, m2, hb7, _, _⟩ := tails_get HEN7.out he
       injection hv with hv4 hv5 hv6
       subst hv4
       have kc := KeepC.of_below hbq.out
       replace m0 := kc _ _ m0
       replace m1 := kc _ _ m1
       replace m2 := kc _ _ m2
       obtain ⟨Ae, ce, rfl, _, hce⟩ := hb7.slice
       unfold maxLen at hce
       obtain ⟨W, hW⟩ : ∃ W, W = wr.alloc (.cells #[.int .i64 e.br, .int .i64 e.cl, .slice Ae e.bars.length ce] 56) := ⟨_, rfl⟩
       have haW : Below wr.heap.size wr W := by rw [hW]; exact (Below.refl _ _).alloc (Nat.le_refl _) _
       have HBE : Hid (Blk W wr.heap.size 56 #[.int .i64 e.br, .int .i64 e.cl, .slice Ae e.bars.length ce]) := Lib.hid (by rw [hW]; exact Blk.new _ _ _)
       have HSE := Lib.hid (keep_stops (kc.trans (KeepC.of_below haW)) hb7)
       have HOW := Lib.hid (own_below hol haW)
       have HFW := Lib.hid (stopC_any (w' := W) hfl)
       have HBQ := Lib.hid (hbq.out.trans (haW.mono hbq.out.size))
       have HEX := Lib.hid he
       have HO4 : Hid ((o3 && inB e.br 0 3) = (o2 && (x.ends.take (q + 1)).all fun e => inB e.br 0 3)) := Lib.hid (by rw [all_more he, ← HO3.out, Bool.and_assoc])
       have HLL : Hid (L ++ e.bars = x.bars ++ (x.ends.take (q + 1)).flatMap (fun e => e.bars)) := Lib.hid (by
        rw [← HL.out, List.take_add_one, he, List.flatMap_append, List.append_assoc]
        simp)
       have HCAP : Hid (L.length + e.bars.length ≤ 1048576) := Lib.hid (by
        have h1 := flat_bars x.ends (q + 1)
        have h2 := congrArg List.length HLL.out
        have h3 := HBC.out
        rw [List.length_append, List.length_append] at h2
        omega)
       clear kc hb7 haW hol hfl hos hbq he hv5 hv6
       go_upto_region 11 with fail
       rw [← hW]
       clear hW m0 m1 m2
       obtain ⟨x0, x1, x2, _⟩ := blk3a HBE.out
       go_cut [3] (fun s wx => s = .bool (o3 && inB e.br 0 3) ∧ wx = W)
       case first =>
        cases o3 with
        | false =>
         go_wp2_with fail
         go_meet
         exact ⟨rfl, rfl⟩
        | true =>
         go_wp2_with (go_at_call 28; refine (within_any _ _ _ _).mono ?_; rintro e w' ⟨rfl, rfl⟩)
         go_meet
         exact ⟨rfl, rfl⟩
       case rest =>
        obtain ⟨rfl, hcw⟩ := hcut
        subst hcw
        rw [HO4.out]
        obtain ⟨cbe, Ab2, nb2, hvb, _, _, hfe, hre⟩ := flat_of_slr HSE.out
        injection hvb with hvb1 _ hvb2
        subst hvb1 hvb2
        have RE := Lib.hid (hre (by decide))
        have OE := Lib.hid (flat_one hfe fun _ _ h => one_stop h)
        have HFE := Lib.hid hfe
        have HZW := Lib.hid HBQ.out.size
        clear hre hfe
        go_upto_region 13 with (at_builtin; refine wpList_append_any _ rfl (.tmp 91) (.tmp 93) 43 rfl V.heap.size 98 i2 _ 2 16 Try.underlying43 hi2 hz2 hsz2 hb2 rfl (by omega) (.slice Al L.length cl) L.length csl.flatten rfl HOW.out wc.heap.size Ae e.bars.length ce cbe.flatten rfl RE.out OE.out (by unfold maxLen; have := HCAP.out; omega) (by have := HCAP.out; omega) HZW.out ?_; intro v9 w9 ho9 hg9 hat9; obtain ⟨A9, c9, rfl⟩ := own_slice ho9; have HO9 := Lib.hid ho9; have HA9 : Hid (Below V.heap.size V w9) := Lib.hid (HBQ.out.grown hg9 HBQ.out.size (fun q hq => (own_lt HOW.out hq).2)); clear ho9 hg9 hat9)
        have HS9 : Hid (OwnS V.heap.size w9 (.slice A9 (L.length + e.bars.length) c9) (x.bars ++ (x.ends.take (q + 1)).flatMap (fun e => e.bars))) := Lib.hid (by
         rw [← HLL.out]
         refine ⟨csl ++ cbe, ?_, (stopC_any HFW.out).app (stopC_any HFE.out)⟩
         rw [List.length_append, List.flatten_append]
         exact HO9.out)
        go_wp2_with fail
        go_roundw
        case rel => first | exact ⟨q + 1, by omega, by go_num, rfl, HS9, HA9⟩ | ((repeat apply Exists.intro); exact ⟨⟨q + 1, by omega, by go_num, rfl, HS9, HA9⟩, rfl⟩)
        case measure => simp [intOf]; omega
      ·have hge : (x.ends.length : Int) ≤ (q : Int) := by omega
       have hqe : q = x.ends.length := by omega
       have HLA : Hid (barsAll x = L) := Lib.hid (by rw [← HL.out, hqe, List.take_length]; rfl)
       have HO5 : Hid ((o2 && x.ends.all fun e => inB e.br 0 3) = o3) := Lib.hid (by rw [← HO3.out, hqe, List.take_length])
       have HSL := Lib.hid hos.out.slr
       have HBR := Lib.hid (HBV.out.trans (hbq.out.mono HBV.out.size))
       have hLc : L.length ≤ 1048576 := by
        have h1 := flat_bars x.ends q
        have h2 := congrArg List.length HL.out
        rw [List.length_append] at h2
        have h3 := HBC.out
        omega
       have HTU := Lib.hid (HTB7.out.below hbq.out HTB7.out.lt)
       clear hqe hol hfl hos hbq
       obtain ⟨U, hU⟩ : ∃ U, U = wr := ⟨wr, rfl⟩
       subst hU
       have hnL : (0 : Int) ≤ (L.length : Int) := by omega
       go_wp2_with fail
       go_loopw [3, 98] (fun s i wq => ∃ k : Nat, k ≤ L.length ∧ i = .int .i64 k ∧ s = .bool (o3 && (L.take k).all fun b => inB b.ty 0 ((T.kinds.length : Int) - 1)) ∧ Hid (Below U.heap.size U wq)) (fun _ i _ => L.length - (intOf i).toNat)
       case atStart => exact ⟨0, Nat.zero_le _, rfl, by simp, Lib.hid (Below.refl _ _)⟩
       case round =>
        obtain ⟨k, hk, rfl, rfl, hbu⟩ := hrel
        obtain ⟨o4, ho4⟩ : ∃ o, (o3 && (L.take k).all fun b => inB b.ty 0 ((T.kinds.length : Int) - 1)) = o := ⟨_, rfl⟩
        rw [ho4]
        have HO6 := Lib.hid ho4
        clear ho4
        by_cases hlt3 : k < L.length
        ·obtain ⟨b, hb⟩ : ∃ b, L[k]? = some b := ⟨_, List.getElem?_eq_getElem hlt3⟩
         obtain ⟨b9, off9, c9, hv, _, _, m0, m1, _, _⟩ := stops_get HSL.out hb
         injection hv with hv4 hv5 hv6
         subst hv4
         have kc := KeepC.of_below hbu.out
         replace m0 := kc _ _ m0
         replace m1 := kc _ _ m1
         have HO7 : Hid ((o4 && inB b.ty 0 ((T.kinds.length : Int) - 1)) = (o3 && (L.take (k + 1)).all fun b => inB b.ty 0 ((T.kinds.length : Int) - 1))) := Lib.hid (by rw [all_more hb, ← HO6.out, Bool.and_assoc])
         obtain ⟨W, hW⟩ : ∃ W, W = wr.alloc (.cells #[.int .i64 b.ty, .int .i64 b.gd] 98) := ⟨_, rfl⟩
         have haW : Below wr.heap.size wr W := by rw [hW]; exact (Below.refl _ _).alloc (Nat.le_refl _) _
         have HBE : Hid (Blk W wr.heap.size 98 #[.int .i64 b.ty, .int .i64 b.gd]) := Lib.hid (by rw [hW]; exact Blk.new _ _ _)
         have HBU := Lib.hid (hbu.out.trans (haW.mono hbu.out.size))
         have x0 := HBE.out.cell 0
         have k2 := (HTU.out.below HBU.out HTU.out.lt).cell 2
         clear kc haW hbu hb hv5 hv6
         go_upto_region 17 with fail
         rw [← hW]
         clear hW m0 m1
         cases o4 with
         | false =>
          have HN2 : Hid (false = (o3 && (L.take (k + 1)).all fun b => inB b.ty 0 ((T.kinds.length : Int) - 1))) := Lib.hid (by have h := HO7.out; rwa [Bool.false_and] at h)
          go_wp2_with fail
          go_roundw
          case rel => first | exact ⟨k + 1, by omega, by go_num, by rw [← HN2.out], HBU⟩ | ((repeat apply Exists.intro); exact ⟨⟨k + 1, by omega, by go_num, by rw [← HN2.out], HBU⟩, rfl⟩)
          case measure => simp [intOf]; omega
         | true =>
          have HN2 : Hid (inB b.ty 0 ((T.kinds.length : Int) - 1) = (o3 && (L.take (k + 1)).all fun b => inB b.ty 0 ((T.kinds.length : Int) - 1))) := Lib.hid (by have h := HO7.out; rwa [Bool.true_and] at h)
          go_wp2_with (go_at_call 28; refine (within_any _ _ _ _).mono ?_; rintro e w' ⟨rfl, rfl⟩)
          go_roundw
          case rel => first | exact ⟨k + 1, by omega, by go_num, by rw [← HN2.out], HBU⟩ | ((repeat apply Exists.intro); exact ⟨⟨k + 1, by omega, by go_num, by rw [← HN2.out], HBU⟩, rfl⟩)
          case measure => simp [intOf]; omega
        ·have hge3 : (L.length : Int) ≤ (k : Int) := by omega
         have HN2 : Hid (o4 = (o0 && (List.range (r + 1)).all (rowDI T))) := Lib.hid (by
          rw [rowD_more HRX.out]
          unfold rowD
          rw [HBM.out, HLA.out, ← HO6.out, ← HO5.out, ← HO2.out, ← HO1.out, ← HOB.out, show k = L.length by omega, List.take_length]
          simp only [Bool.and_assoc])
         have HBE := Lib.hid (HBR.out.trans (hbu.out.mono HBR.out.size))
         clear hbu
         go_wp2_with fail
         go_roundw
         case rel => first | exact ⟨r + 1, by omega, by go_num, by rw [← HN2.out], HBE⟩ | ((repeat apply Exists.intro); exact ⟨⟨r + 1, by omega, by go_num, by rw [← HN2.out], HBE⟩, rfl⟩)
         case measure => simp [intOf]; omega
  ·have hge : (T.states.length : Int) ≤ (r : Int) := by omega
   have HE : Hid (secondT T = ob) := Lib.hid (by
    unfold secondT
    rw [← HOB.out, ← HO0.out, show r = T.states.length by omega]
    congr 1
    rw [Bool.eq_iff_iff]; simp; omega)
   have HBE := Lib.hid (HB0.out.trans (hbr.out.mono HB0.out.size))
   go_wp2_with fail
   go_ret
   exact ⟨congrArg (fun q => Ending.returned (Value.bool q)) HE.out.symm, HBE.out⟩
end Go.Proofs.Ytioocaicmiggoaa

/-
  The walk of the document's plain: a table's bytes, its codes aside.
-/
import Derived.Test.YtioocaicmiggoaaSrw
namespace Go.Proofs.Ytioocaicmiggoaa
set_option linter.unusedVariables false
set_option linter.unusedSimpArgs false
open Go.RowKit Go.Deep

def kindBy (l : List Int) : List UInt8 := numsB [(l.length : Int)] ++ numsB l
def plainBy (T : TTab) : List UInt8 := numsB [T.strategy, T.syms, T.runs, T.cells, (T.keys.length : Int)] ++ numsB T.keys ++ numsB [(T.kinds.length : Int)] ++ (T.kinds.map kindBy).flatten ++ listBy rowBy T.states
/-- new bytes of the call's own are handed back, there may be none -/
def MadeV (w : World) (l : List UInt8) (e : Ending) (w' : World) : Prop := ∃ v, e = .returned v ∧ w'.ownsRow w.heap.size 5 1 v l.length (bv l) ∧ Below w.heap.size w w'
/-- the writer: has it this much, whatever it may? -/
def WStE (B g : Nat) (w0 w : World) (bs : List UInt8) : Prop := ∃ ok, WSt B g w0 w bs ok
theorem kinds_get {w : World} {v : Value} {l : List (List Int)} (h : SlR 1 IntsC w v l) {i : Nat} {x : List Int} (hx : l[i]? = some x) :
    ∃ b off c vk, v = .slice (some ⟨b, off, none⟩) l.length c ∧ l.length ≤ c ∧ c ≤ maxLen ∧ w.cell? ⟨b, off + i, none⟩ = some vk ∧ SlR 1 IntC w vk x := by
  obtain ⟨b, off, c, hv, h1, h2, hi, cs, hl, ⟨vk, rfl, hs⟩, hc⟩ := h.get hx
  exact ⟨b, off, c, vk, hv, h1, h2, by have := hc 0 _ rfl; simpa using this, hs⟩

set_option maxRecDepth 100000 in
set_option maxHeartbeats 4000000 in
theorem plain_any (T : TTab) (vk vkk vs vc : Value) (w : World) (h : TabX w T vk vkk vs vc) (hlb : (plainBy T).length ≤ 1000000000) :
    Calls Try.prog 31 #[.agg #[.int .i64 T.strategy, vk, vkk, .int .i64 T.syms, .int .i64 T.runs, .int .i64 T.cells, vs, vc]] w (MadeV w (plainBy T)) := by
  obtain ⟨Ak, ck, rfl, hk1, hk2⟩ := h.keys.slice
  obtain ⟨Akk, ckk, rfl, hkk1, hkk2⟩ := h.kinds.slice
  obtain ⟨As, cs, rfl, hs1, hs2⟩ := h.states.slice
  obtain ⟨Ac, cc, rfl, hc1, hc2⟩ := h.codes.slice
  unfold maxLen at hk2 hkk2 hs2 hc2
  obtain ⟨ws, wy, wr_, wc_⟩ := h.ok
  have wk : wfi (T.keys.length : Int) := wfi_nat (by omega)
  have wkk : wfi (T.kinds.length : Int) := wfi_nat (by omega)
  have HL := Lib.hid hlb
  have HX := Lib.hid h
  have nk : (0 : Int) ≤ (T.kinds.length : Int) := by omega
  obtain ⟨W1, hW1⟩ : ∃ W, W = w.alloc (.cells #[.int .i64 T.strategy, .slice Ak T.keys.length ck, .slice Akk T.kinds.length ckk, .int .i64 T.syms, .int .i64 T.runs, .int .i64 T.cells, .slice As T.states.length cs, .slice Ac T.codes.length cc] 27) := ⟨_, rfl⟩
  have hs1 : W1.heap.size = w.heap.size + 1 := by rw [hW1]; simp
  obtain ⟨W2, hW2⟩ : ∃ W, W = W1.alloc (.cells #[.slice none 0 0, .bool false] 78) := ⟨_, rfl⟩
  have BX : Hid (Blk W2 w.heap.size 27 #[.int .i64 T.strategy, .slice Ak T.keys.length ck, .slice Akk T.kinds.length ckk, .int .i64 T.syms, .int .i64 T.runs, .int .i64 T.cells, .slice As T.states.length cs, .slice Ac T.codes.length cc]) := Lib.hid (by rw [hW2, hW1]; exact (Blk.new _ _ _).alloc _)
  have hst : WSt w.heap.size W1.heap.size w W2 [] false := by
    refine ⟨⟨.slice none 0 0, by rw [hW2]; exact Blk.new _ _ _, World.ownsRow_nil _ _ _ _, by omega⟩, ?_, ?_⟩
    · rw [hW2, hW1]; exact ((Below.refl _ _).alloc (Nat.le_refl _) _).alloc (by simp) _
    · rw [hW2, hW1]; simp; omega
  have N1 := Lib.hid (nums_lit [T.strategy, T.syms, T.runs, T.cells, (T.keys.length : Int)] (by intro y hy; simp at hy; rcases hy with rfl | rfl | rfl | rfl | rfl <;> assumption) w.heap.size W1.heap.size [] false w W2 hst (by
    have h2 := HL.out
    simp only [plainBy, List.length_append] at h2 ⊢
    simp only [List.length_nil]
    omega))
  obtain ⟨x0, x1, x2, x3, x4, x5, x6, x7⟩ := blk8s BX.out
  clear h hlb hst
  go_enter Try.func31, Try.ntmps31
  have hs1' : w.heap.size + 1 = W1.heap.size := hs1.symm
  have HW1 := Lib.hid hW1
  have HW2 := Lib.hid hW2
  have HS1 := Lib.hid hs1'
  clear hW1 hW2 hs1' hs1
  go_upto_region 2 with fail
  rw [← HW1.out, ← HW2.out]
  try rw [HS1.out]
  clear HW1 HW2 HS1
  go_wp2_with fail
  refine N1.out.mono ?_
  rintro e w3 ⟨rfl, h3, k3⟩
  have B3 := Lib.hid (k3 _ _ _ BX.out (by decide) (by decide))
  have N3 := Lib.hid (nums_row T.keys _ w.heap.size W1.heap.size _ _ w w3 h3 (Nat.le_refl _) HX.out.keys (by
    have h2 := HL.out
    simp only [plainBy, List.length_append, List.nil_append] at h2 ⊢
    omega))
  clear x0 x1 x2 x3 x4 x5 x6 x7 h3 k3
  obtain ⟨x0, x1, x2, x3, x4, x5, x6, x7⟩ := blk8s B3.out
  go_wp2_with fail
  refine N3.out.mono ?_
  rintro e w4 ⟨rfl, h4, k4⟩
  have B4 := Lib.hid (k4 _ _ _ B3.out (by decide) (by decide))
  have N4 := Lib.hid (nums_lit [(T.kinds.length : Int)] (by intro y hy; simp at hy; subst hy; assumption) w.heap.size W1.heap.size _ _ w w4 h4 (by
    have h2 := HL.out
    simp only [plainBy, List.length_append, List.nil_append] at h2 ⊢
    omega))
  clear x0 x1 x2 x3 x4 x5 x6 x7 h4 k4
  obtain ⟨x0, x1, x2, x3, x4, x5, x6, x7⟩ := blk8s B4.out
  go_wp2_with fail
  refine N4.out.mono ?_
  rintro e w5 ⟨rfl, h5, k5⟩
  have B5 := Lib.hid (k5 _ _ _ B4.out (by decide) (by decide))
  have H5 : Hid (WStE w.heap.size W1.heap.size w w5 ((numsB [T.strategy, T.syms, T.runs, T.cells, (T.keys.length : Int)] ++ numsB T.keys) ++ numsB [(T.kinds.length : Int)])) := Lib.hid ⟨_, h5⟩
  clear x0 x1 x2 x3 x4 x5 x6 x7 h5 k5
  obtain ⟨x0, x1, x2, x3, x4, x5, x6, x7⟩ := blk8s B5.out
  obtain ⟨pre, hpre⟩ : ∃ q, q = ((numsB [T.strategy, T.syms, T.runs, T.cells, (T.keys.length : Int)] ++ numsB T.keys) ++ numsB [(T.kinds.length : Int)]) := ⟨_, rfl⟩
  rw [← hpre] at H5
  have HE : Hid ((pre ++ (T.kinds.map kindBy).flatten) ++ listBy rowBy T.states = plainBy T) := Lib.hid (by rw [hpre]; rfl)
  clear hpre
  have HP : Hid ((pre ++ (T.kinds.map kindBy).flatten).length + (listBy rowBy T.states).length ≤ 1000000000) := Lib.hid (by rw [← List.length_append, HE.out]; exact HL.out)
  go_wp2_with fail
  clear x0 x1 x2 x3 x4 x5 x6 x7
  go_loopw [35] (fun i wr => ∃ r : Nat, r ≤ T.kinds.length ∧ i = .int .i64 r ∧ Hid (WStE w.heap.size W1.heap.size w wr (pre ++ ((T.kinds.take r).map kindBy).flatten)) ∧ Hid (KeepT w5 wr)) (fun i _ => T.kinds.length - (intOf i).toNat)
  case atStart => exact ⟨0, Nat.zero_le _, rfl, Lib.hid (by simpa using H5.out), Lib.hid (KeepT.refl _)⟩
  case round =>
    obtain ⟨r, hr, rfl, hX, hKt⟩ := hrel
    by_cases hlt : r < T.kinds.length
    · obtain ⟨x, hx⟩ : ∃ x, T.kinds[r]? = some x := ⟨_, List.getElem?_eq_getElem hlt⟩
      obtain ⟨b5, o5, c5, vx, hv5, _, _, m0, hsx⟩ := kinds_get HX.out.kinds hx
      injection hv5 with hv5 _ hcap5
      subst hv5 hcap5
      obtain ⟨okr, hW⟩ := hX.out
      have kc := KeepC.of_below (hW.bel.mono (Nat.le_refl _))
      replace m0 := kc _ _ m0
      obtain ⟨Ax, cx, rfl, hx1, hx2⟩ := hsx.slice
      unfold maxLen at hx2
      have HSX := Lib.hid hsx
      have HPK : Hid ((pre ++ ((T.kinds.take r).map kindBy).flatten).length + (numsB [(x.length : Int)]).length + (numsB x).length ≤ 1000000000) := Lib.hid (by
        have h1 := flat_le kindBy T.kinds (r + 1)
        rw [flat_take kindBy hx] at h1
        have h2 := HP.out
        simp only [kindBy, List.length_append] at h1 h2 ⊢
        omega)
      have N6 := Lib.hid (nums_lit [(x.length : Int)] (by intro y hy; simp at hy; subst hy; exact wfi_nat (by omega)) w.heap.size W1.heap.size _ _ w wr hW (by
        have h2 := HPK.out
        omega))
      have HXR := Lib.hid hx
      clear kc hsx hX hW hx
      go_wp2_with fail
      refine N6.out.mono ?_
      rintro e w6 ⟨rfl, h6, k6⟩
      have K6 := Lib.hid (hKt.out.trans k6)
      have N7 := Lib.hid (nums_row x _ w.heap.size W1.heap.size _ _ w w6 h6 (Nat.le_refl _) HSX.out (by
        have h2 := HPK.out
        simp only [List.length_append] at h2 ⊢
        omega))
      clear h6 k6 m0
      go_wp2_with fail
      refine N7.out.mono ?_
      rintro e w7 ⟨rfl, h7, k7⟩
      have K7 := Lib.hid (K6.out.trans k7)
      have H8 : Hid (WStE w.heap.size W1.heap.size w w7 (pre ++ ((T.kinds.take (r + 1)).map kindBy).flatten)) := Lib.hid (by
        rw [flat_take kindBy HXR.out, kindBy, ← List.append_assoc, ← List.append_assoc]
        exact ⟨_, h7⟩)
      clear h7 k7
      go_wp2_with fail
      go_roundw
      case rel => first | exact ⟨r + 1, by omega, by go_num, H8, K7⟩ | ((repeat apply Exists.intro); exact ⟨⟨r + 1, by omega, by go_num, H8, K7⟩, rfl⟩)
      case measure => simp [intOf]; omega
    · have hre : r = T.kinds.length := by omega
      have HXK := hX.out
      rw [hre, List.take_length] at HXK
      obtain ⟨okr, hW⟩ := HXK
      have B8 := Lib.hid (hKt.out _ _ _ B5.out (by decide) (by decide))
      obtain ⟨x0, x1, x2, x3, x4, x5, x6, x7⟩ := blk8s B8.out
      have N8 := Lib.hid (wrows_any T.states _ w.heap.size W1.heap.size _ _ w wr hW (Nat.le_refl _) HX.out.states (by
        have h2 := HP.out
        exact h2))
      clear hW hre
      go_wp2_with fail
      refine N8.out.mono ?_
      rintro e w9 ⟨rfl, ⟨⟨v9, g9, o9, _⟩, hb9, _⟩, _⟩
      rw [HE.out] at o9
      have y0 := g9.cell 0
      have H9 := Lib.hid o9
      have HB9 := Lib.hid hb9
      clear o9 hb9 x0 x1 x2 x3 x4 x5 x6 x7
      go_wp2_with fail
      go_ret
      exact ⟨v9, rfl, H9.out, HB9.out⟩
end Go.Proofs.Ytioocaicmiggoaa

/-
  The walk of the document's Twin of a table.
-/
import Derived.Test.YtioocaicmiggoaaTwa
import Derived.Test.YtioocaicmiggoaaTabw
import Derived.Test.YtioocaicmiggoaaLfe
namespace Go.Proofs.Ytioocaicmiggoaa
set_option linter.unusedVariables false
set_option linter.unusedSimpArgs false
open Go.RowKit Go.Deep

theorem info_stop : (Try.prog.info? 98).map (fun i => (i.zero, i.size, i.bytes)) = some (some (.agg #[.int .i64 0, .int .i64 0]), 2, 16) := by kernel_rfl
theorem info_ints : (Try.prog.info? 22).map (fun i => (i.zero, i.size, i.bytes)) = some (some (.slice none 0 0), 1, 24) := by kernel_rfl
theorem info_tail : (Try.prog.info? 56).map (fun i => (i.zero, i.size, i.bytes)) = some (some (.agg #[.int .i64 0, .int .i64 0, .slice none 0 0]), 3, 40) := by kernel_rfl
theorem info_row : (Try.prog.info? 46).map (fun i => (i.zero, i.size, i.bytes)) = some (some (.agg #[.int .i64 0, .int .i64 0, .bool false, .int .i64 0, .slice none 0 0, .int .i64 0, .int .i64 0, .slice none 0 0]), 8, 96) := by kernel_rfl
theorem info_code : (Try.prog.info? 40).map (fun i => (i.zero, i.size, i.bytes)) = some (some (.agg #[.int .i64 0, .int .i64 0, .slice none 0 0, .slice none 0 0, .slice none 0 0]), 5, 88) := by kernel_rfl
theorem intss_get' {w : World} {v : Value} {l : List (List Int)} (h : SlR 1 IntsC w v l) {i : Nat} {x : List Int} (hx : l[i]? = some x) :
    ∃ b off c u, v = .slice (some ⟨b, off, none⟩) l.length c ∧ l.length ≤ c ∧ c ≤ maxLen ∧ w.cell? ⟨b, off + i, none⟩ = some u ∧ SlR 1 IntC w u x := by
  obtain ⟨b, off, c, hv, h1, h2, hi, cs, hl, ⟨u, rfl, hs⟩, hc⟩ := h.get hx
  exact ⟨b, off, c, u, hv, h1, h2, by have := hc 0 _ rfl; simpa using this, hs⟩
theorem blk8' {w : World} {g : Nat} {t : TypeId} {a0 a1 a2 a3 a4 a5 a6 a7 : Value} (h : Blk w g t #[a0, a1, a2, a3, a4, a5, a6, a7]) :
    w.cell? ⟨g, 0, none⟩ = some a0 ∧ w.cell? ⟨g, 1, none⟩ = some a1 ∧ w.cell? ⟨g, 2, none⟩ = some a2 ∧ w.cell? ⟨g, 3, none⟩ = some a3 ∧ w.cell? ⟨g, 4, none⟩ = some a4 ∧ w.cell? ⟨g, 5, none⟩ = some a5 ∧ w.cell? ⟨g, 6, none⟩ = some a6 ∧ w.cell? ⟨g, 7, none⟩ = some a7 :=
  ⟨h.cell 0, h.cell 1, h.cell 2, h.cell 3, h.cell 4, h.cell 5, h.cell 6, h.cell 7⟩
theorem tails_get' {w : World} {v : Value} {l : List TTail} (h : SlR 3 TailC w v l) {i : Nat} {x : TTail} (hx : l[i]? = some x) :
    ∃ b off c vb, v = .slice (some ⟨b, off, none⟩) l.length c ∧ l.length ≤ c ∧ c ≤ maxLen ∧ w.cell? ⟨b, off + i * 3, none⟩ = some (.int .i64 x.br) ∧ w.cell? ⟨b, off + i * 3 + 1, none⟩ = some (.int .i64 x.cl) ∧ w.cell? ⟨b, off + i * 3 + 2, none⟩ = some vb ∧ SlR 2 StopC w vb x.bars ∧ wfi x.br ∧ wfi x.cl := by
  obtain ⟨b, off, c, hv, h1, h2, hi, cs, hl, ⟨vb, rfl, hs, hw⟩, hc⟩ := h.get hx
  exact ⟨b, off, c, vb, hv, h1, h2, hc 0 _ rfl, hc 1 _ rfl, hc 2 _ rfl, hs, hw⟩
/-- a new block read as one element -/
theorem reads_blk (w : World) (cs : List Value) (e : TypeId) {n : Nat} (hn : cs.length = n) : Reads (w.alloc (.cells cs.toArray e)) (w.heap.size + 1) n (some ⟨w.heap.size, 0, none⟩) 1 cs := by
  refine ⟨by omega, fun _ => ⟨_, rfl, Nat.lt_succ_self _, fun j u hu => ?_⟩⟩
  rw [Go.WideShapes.add_plain, Nat.zero_add]
  have := (Blk.new w e cs.toArray).cell j
  rw [this]
  simpa using hu
theorem codes_get' {w : World} {v : Value} {l : List TCode} (h : SlR 5 CodeC w v l) {i : Nat} {x : TCode} (hx : l[i]? = some x) :
    ∃ b off c vi vc vl, v = .slice (some ⟨b, off, none⟩) l.length c ∧ l.length ≤ c ∧ c ≤ maxLen ∧ w.cell? ⟨b, off + i * 5, none⟩ = some (.int .i64 x.regs) ∧ w.cell? ⟨b, off + i * 5 + 1, none⟩ = some (.int .i64 x.slots) ∧ w.cell? ⟨b, off + i * 5 + 2, none⟩ = some vi ∧
      w.cell? ⟨b, off + i * 5 + 3, none⟩ = some vc ∧ w.cell? ⟨b, off + i * 5 + 4, none⟩ = some vl ∧ SlR 4 InpC w vi x.inputs ∧ SlR 2 ValC w vc x.consts ∧ SlR 4 InsC w vl x.list ∧ wfi x.regs ∧ wfi x.slots := by
  obtain ⟨b, off, c, hv, h1, h2, hi, cs, hl, ⟨vi, vc, vl, rfl, hs, ht, hu, hw⟩, hc⟩ := h.get hx
  exact ⟨b, off, c, vi, vc, vl, hv, h1, h2, hc 0 _ rfl, hc 1 _ rfl, hc 2 _ rfl, hc 3 _ rfl, hc 4 _ rfl, hs, ht, hu, hw⟩
theorem take_one' {α : Type} {l : List α} {r : Nat} {y : α} (h : l[r]? = some y) : l.take (r + 1) = l.take r ++ [y] := by rw [List.take_add_one, h]; rfl
def QB (B : Nat) (vs vc : Value) (w : World) (b : Nat) : Prop := B ≤ b ∧ b < w.heap.size ∧ some b ≠ vs.ownBlock ∧ some b ≠ vc.ownBlock
/-- a table in memory of its own, from block B on; its states' block and its codes' block hold nothing else -/
structure TwinM (B : Nat) (w : World) (T : TTab) (vk vkk vs vc : Value) : Prop where
  keys : SlQ (QB B vs vc w) 1 IntC w vk T.keys
  kinds : SlQ (QB B vs vc w) 1 (IntsQ (QB B vs vc w)) w vkk T.kinds
  rows : ∃ css, w.ownsRow B 46 8 vs T.states.length css.flatten ∧ FlatR 8 (RowQ (QB B vs vc w)) w css T.states
  codes : ∃ css, w.ownsRow B 40 5 vc T.codes.length css.flatten ∧ FlatR 5 (CodeQ (QB B vs vc w)) w css T.codes
  apart : ∀ g, vs.ownBlock = some g → vc.ownBlock ≠ some g
  ok : wfi T.strategy ∧ wfi T.syms ∧ wfi T.runs ∧ wfi T.cells
theorem TwinM.tab {B : Nat} {w : World} {T : TTab} {vk vkk vs vc : Value} (h : TwinM B w T vk vkk vs vc) : TabX w T vk vkk vs vc := by
  obtain ⟨cr, ho, hf⟩ := h.rows
  obtain ⟨cc, ho2, hf2⟩ := h.codes
  exact ⟨h.keys.out fun _ _ h => h, h.kinds.out fun _ _ h => h.out, (slq_of_own (Q := fun _ => True) hf ho (fun _ _ _ _ => trivial) (.inr trivial)).out fun _ _ h => h.out, (slq_of_own (Q := fun _ => True) hf2 ho2 (fun _ _ _ _ => trivial) (.inr trivial)).out fun _ _ h => h.out, h.ok⟩
theorem TwinM.below {B : Nat} {w w' : World} {T : TTab} {vk vkk vs vc : Value} (h : TwinM B w T vk vkk vs vc) (hb : Below w.heap.size w w') : TwinM B w' T vk vkk vs vc := by
  obtain ⟨cr, ho, hf⟩ := h.rows
  obtain ⟨cc, ho2, hf2⟩ := h.codes
  have hk : KeepQ (QB B vs vc w) w w' := KeepQ.of_below hb fun b hb => hb.2.1
  have hq : ∀ b, QB B vs vc w b → QB B vs vc w' b := fun b hq => ⟨hq.1, Nat.lt_of_lt_of_le hq.2.1 hb.size, hq.2.2⟩
  exact ⟨h.keys.keep hk hq fun _ _ h => h, h.kinds.keep hk hq fun _ _ h => h.keep hk hq, ⟨cr, own_below ho hb, hf.keep fun _ _ h => h.keep hk hq⟩, ⟨cc, own_below ho2 hb, hf2.keep fun _ _ h => h.keep hk hq⟩, h.apart, h.ok⟩
def TwinP (w : World) (T : TTab) (e : Ending) (w' : World) : Prop :=
  ∃ vk vkk vs vc, e = .returned (.agg #[.int .i64 T.strategy, vk, vkk, .int .i64 T.syms, .int .i64 T.runs, .int .i64 T.cells, vs, vc]) ∧ TwinM w.heap.size w' T vk vkk vs vc ∧ Below w.heap.size w w'
set_option maxRecDepth 100000 in
set_option maxHeartbeats 8000000 in
theorem twin_any (T : TTab) (vk vkk vs vc : Value) (w : World) (h : TabX w T vk vkk vs vc) (hrc : Wide.rcTab T) :
    Calls Try.prog 9 #[.agg #[.int .i64 T.strategy, vk, vkk, .int .i64 T.syms, .int .i64 T.runs, .int .i64 T.cells, vs, vc]] w (TwinP w T) := by
  obtain ⟨hk, hkk, hst, hcd⟩ := hrc
  obtain ⟨ck, Ak, nk, rfl, hk1, hk2, hfk, hrk⟩ := flat_of_slr h.keys
  obtain ⟨Akk, nkk, rfl, hkk1, hkk2⟩ := h.kinds.slice
  obtain ⟨As, ns, rfl, hs1, hs2⟩ := h.states.slice
  obtain ⟨Ac, nc, rfl, hc1, hc2⟩ := h.codes.slice
  have HRK := Lib.hid (hrk (by decide))
  have OK := Lib.hid (flat_one hfk fun _ _ h => one_int h)
  have HX := Lib.hid (fun W (hb : Below w.heap.size w W) => h.below hb)
  have HOKT := Lib.hid h.ok
  obtain ⟨i0, hi0, hz0, hsz0, hb0⟩ := info_parts info_int
  obtain ⟨i1, hi1, hz1, hsz1, hb1⟩ := info_parts info_ints
  obtain ⟨i2, hi2, hz2, hsz2, hb2⟩ := info_parts info_stop
  obtain ⟨i3, hi3, hz3, hsz3, hb3⟩ := info_parts info_tail
  obtain ⟨i4, hi4, hz4, hsz4, hb4⟩ := info_parts info_row
  obtain ⟨i5, hi5, hz5, hsz5, hb5⟩ := info_parts info_code
  have HKL := Lib.hid hk
  have HKKL := Lib.hid hkk
  have HSTL := Lib.hid hst
  have HCDL := Lib.hid hcd
  unfold maxLen at hk2 hkk2 hs2 hc2
  obtain ⟨w1, hw1⟩ : ∃ w1, w1 = (w.alloc (.cells #[.int .i64 T.strategy, .slice Ak T.keys.length nk, .slice Akk T.kinds.length nkk, .int .i64 T.syms, .int .i64 T.runs, .int .i64 T.cells, .slice As T.states.length ns, .slice Ac T.codes.length nc] 27)).alloc (.cells #[.int .i64 0, .slice none 0 0, .slice none 0 0, .int .i64 0, .int .i64 0, .int .i64 0, .slice none 0 0, .slice none 0 0] 27) := ⟨_, rfl⟩
  have B1 : Below w.heap.size w w1 := by rw [hw1]; exact ((Below.refl w.heap.size w).alloc (Nat.le_refl _) _).alloc (by simp) _
  have BX : Blk w1 w.heap.size 27 #[.int .i64 T.strategy, .slice Ak T.keys.length nk, .slice Akk T.kinds.length nkk, .int .i64 T.syms, .int .i64 T.runs, .int .i64 T.cells, .slice As T.states.length ns, .slice Ac T.codes.length nc] := by rw [hw1]; exact (Blk.new w _ _).alloc _
  have BZ : Blk w1 (w.heap.size + 1) 27 #[.int .i64 0, .slice none 0 0, .slice none 0 0, .int .i64 0, .int .i64 0, .int .i64 0, .slice none 0 0, .slice none 0 0] := by
    rw [hw1]
    have := Blk.new (w.alloc (.cells #[.int .i64 T.strategy, .slice Ak T.keys.length nk, .slice Akk T.kinds.length nkk, .int .i64 T.syms, .int .i64 T.runs, .int .i64 T.cells, .slice As T.states.length ns, .slice Ac T.codes.length nc] 27)) 27 #[.int .i64 0, .slice none 0 0, .slice none 0 0, .int .i64 0, .int .i64 0, .int .i64 0, .slice none 0 0, .slice none 0 0]
    rw [World.size_alloc] at this
    exact this
  have hs1' : w1.heap.size = w.heap.size + 2 := by rw [hw1]; simp
  have HB1 := Lib.hid B1
  have HBX := Lib.hid BX
  have HBZ := Lib.hid BZ
  have HS1 := Lib.hid hs1'
  have R1 := Lib.hid (HRK.out.below B1)
  clear h hrk B1 BX BZ hs1' hk hkk hst hcd
  go_enter Try.func9, Try.ntmps9
  go_upto_region 1 with fail
  rw [← hw1]
  clear hw1
  obtain ⟨k0, k1, k2, k3, k4, k5, k6, k7⟩ := blk8' HBX.out
  go_upto_region 2 with (at_builtin; refine wpList_append_any _ rfl _ _ 22 rfl w1.heap.size 3 i0 _ 1 8 Try.underlying22 hi0 hz0 hsz0 hb0 rfl (by omega) (.slice none 0 0) 0 [] rfl (World.ownsRow_nil _ _ _ _) w.heap.size Ak T.keys.length nk ck.flatten rfl R1.out OK.out (by unfold maxLen; omega) (by have := HKL.out.1; omega) (Nat.le_refl _) ?_; intro v9 g0 ho hg _; simp only [Nat.zero_add, List.nil_append] at ho; obtain ⟨Bk, mk, rfl⟩ := own_slice ho; have HO0 := Lib.hid ho; have HG0 := Lib.hid hg; clear ho hg k0 k1 k2 k3 k4 k5 k6 k7; have HBXg := Lib.hid (HBX.out.grown HG0.out (by simp [Value.ownBlock])); have k1 := HBXg.out.cell 1; have fz := HBXg.out.frozen 1)
  clear k1 fz
  obtain ⟨s1, hs⟩ : ∃ s1, s1 = g0.setCell ⟨w.heap.size, 1, none⟩ (.slice Bk T.keys.length mk) := ⟨_, rfl⟩
  rw [← hs]
  have HBX1 : Hid (Blk s1 w.heap.size 27 #[.int .i64 T.strategy, .slice Bk T.keys.length mk, .slice Akk T.kinds.length nkk, .int .i64 T.syms, .int .i64 T.runs, .int .i64 T.cells, .slice As T.states.length ns, .slice Ac T.codes.length nc]) := Lib.hid (by rw [hs]; exact HBXg.out.set_ 1 _)
  have HBZ1 := Lib.hid (show Blk s1 (w.heap.size + 1) 27 #[.int .i64 0, .slice none 0 0, .slice none 0 0, .int .i64 0, .int .i64 0, .int .i64 0, .slice none 0 0, .slice none 0 0] by rw [hs]; exact (HBZ.out.grown HG0.out (by simp [Value.ownBlock])).far (p := ⟨w.heap.size, 1, none⟩) (by simp) _)
  have HP1 : Hid (Below w.heap.size w s1) := Lib.hid (by rw [hs]; exact (HB1.out.grown HG0.out HB1.out.size (fun g e => by simp [Value.ownBlock] at e)).setCell (Nat.le_refl _) _)
  have HK1 : Hid (SlQ (fun b => w.heap.size + 2 ≤ b ∧ b < s1.heap.size) 1 IntC s1 (.slice Bk T.keys.length mk) T.keys) := Lib.hid (by
    have ho : s1.ownsRow w1.heap.size 3 1 (.slice Bk T.keys.length mk) T.keys.length ck.flatten := by rw [hs]; exact own_set HO0.out (by have := HS1.out; simp only; omega) _
    exact slq_of_own (hfk.keep fun _ _ h => h) ho (fun g _ h1 h2 => by have := HS1.out; omega) (.inr trivial))
  have HW1 : Hid (w.heap.size + 2 ≤ s1.heap.size) := Lib.hid (by have h1 := HG0.out.size; have h2 := HS1.out; rw [hs]; simp [World.setCell]; omega)
  clear hs
  obtain ⟨k0, k1, k2, k3, k4, k5, k6, k7⟩ := blk8' HBX1.out
  have nkk0 : (0 : Int) ≤ (T.kinds.length : Int) := by omega
  go_wp2_with fail
  clear k0 k1 k2 k3 k4 k5 k6 k7
  have HOC := Lib.hid (show ∀ A c n, ∀ u ∈ [Value.slice A n c], u.oneCell' = true by intro A c n u hu; simp at hu; subst hu; rfl)
  go_loopw [3, 22] (fun v s wr => ∃ (r : Nat) (css : List (List Value)), r ≤ T.kinds.length ∧ s = .int .i64 r ∧ Hid (Below s1.heap.size s1 wr) ∧ Hid (Acc s1.heap.size 22 1 IntsQ wr v (T.kinds.take r) css)) (fun _ s _ => T.kinds.length - (intOf s).toNat)
  case atStart => exact ⟨0, [], Nat.zero_le _, rfl, Lib.hid (Below.refl _ _), Lib.hid (Acc.nil _)⟩
  case round =>
    obtain ⟨r, css, hr, rfl, hb, hacc⟩ := hrel
    obtain ⟨Av, cv, rfl⟩ := own_slice hacc.out.1
    have hlr : (T.kinds.take r).length = r := by rw [List.length_take]; omega
    have HBW := Lib.hid (HP1.out.trans (hb.out.mono (by have := HW1.out; omega)))
    have hsr := hb.out.size
    by_cases hlt : r < T.kinds.length
    · obtain ⟨l, hl⟩ : ∃ l, T.kinds[r]? = some l := ⟨_, List.getElem?_eq_getElem hlt⟩
      obtain ⟨b5, off5, c5, u5, hvv, _, _, q0, hls⟩ := intss_get' (HX.out wr HBW.out).kinds hl
      injection hvv with hv1 hv2 hv3
      subst hv1
      obtain ⟨cl, Al, nl, rfl, hl1, hl2, hfl, hrl⟩ := flat_of_slr hls
      have RL := Lib.hid (hrl (by decide))
      have OL := Lib.hid (flat_one hfl fun _ _ h => one_int h)
      have hll : l.length * 8 ≤ 140737488351232 := (HKKL.out.2 l (List.mem_of_getElem? hl)).1
      have hkl := HKKL.out.1
      have b1 : (0 : Int) ≤ (r : Int) := by omega
      have b2 : (r : Int) < (T.kinds.length : Int) := by omega
      unfold maxLen at hl2
      have HTK := Lib.hid (take_one' hl)
      rw [hlr]
      have HACC : Hid (Acc s1.heap.size 22 1 IntsQ wr (.slice Av r cv) (T.kinds.take r) css) := Lib.hid (by have h9 := hacc.out; rw [hlr] at h9; exact h9)
      have HLR := Lib.hid hlr
      clear hv2 hv3 hls hrl hl hacc hlr
      go_upto_region 7 with (first
        | (at_builtin; refine wpList_append_any _ rfl _ _ 22 rfl wr.heap.size 3 i0 _ 1 8 Try.underlying22 hi0 hz0 hsz0 hb0 rfl (by omega) (.slice none 0 0) 0 [] rfl (World.ownsRow_nil _ _ _ _) wr.heap.size Al l.length nl cl.flatten rfl RL.out OL.out (by unfold maxLen; omega) (by omega) (Nat.le_refl _) ?_; intro v9 g1 ho hg _; simp only [Nat.zero_add, List.nil_append] at ho; obtain ⟨Bl, ml, rfl⟩ := own_slice ho; have HOl := Lib.hid ho; have HGl : Hid (Below wr.heap.size wr g1) := Lib.hid ((Below.refl _ _).grown hg (Nat.le_refl _) (fun g e => by simp [Value.ownBlock] at e)); have HOA : Hid (∀ o, (g1.alloc o).ownsRow s1.heap.size 22 1 (.slice Av r cv) r css.flatten) := Lib.hid (fun o => by have h1 := own_below HACC.out.1 (HGl.out.alloc HGl.out.size o); rw [HLR.out] at h1; exact h1); have hsg := HGl.out.size; clear ho hg)
        | (at_builtin; refine wpList_append_any _ rfl _ _ 23 rfl s1.heap.size 22 i1 _ 1 24 Try.underlying23 hi1 hz1 hsz1 hb1 rfl (by omega) (.slice Av r cv) r css.flatten rfl (HOA.out _) (g1.heap.size + 1) (some ⟨g1.heap.size, 0, none⟩) 1 1 [.slice Bl l.length ml] rfl (reads_one _ _ _ _) (HOC.out _ _ _) (by unfold maxLen; omega) (by omega) (by simp; omega) ?_; intro v10 g2 ho2 hg2 hat2; have HO2 := Lib.hid ho2; have HG2 := Lib.hid hg2; have HAT2 := Lib.hid hat2; clear ho2 hg2 hat2))
      have HA3 : Hid (Acc s1.heap.size 22 1 IntsQ g2 v10 (T.kinds.take (r + 1)) (css ++ [[.slice Bl l.length ml]])) := Lib.hid (by
        rw [HTK.out]
        have hB1 : Below g1.heap.size g1 (g1.alloc (.cells #[.slice Bl l.length ml] 22)) := (Below.refl _ _).alloc (Nat.le_refl _) _
        refine HACC.out.step keeps_ints hsr (HGl.out.trans (hB1.mono HGl.out.size)) (cs := [.slice Bl l.length ml]) rfl ⟨_, rfl, ?_⟩ (by rw [HLR.out]; exact HO2.out) HG2.out HAT2.out
        exact slq_of_own (hfl.keep fun _ _ h => h) (own_below HOl.out hB1) (fun g _ h1 h2 => ⟨h1, h2⟩) (.inr trivial))
      have HB3 : Hid (Below s1.heap.size s1 g2) := Lib.hid (by
        have hlt2 := fun g hg => (own_lt HACC.out.1 (g := g) hg).2
        have h1 : Below s1.heap.size s1 (g1.alloc (.cells #[.slice Bl l.length ml] 22)) := (hb.out.trans (HGl.out.mono hsr)).alloc (Nat.le_trans hsr HGl.out.size) _
        exact h1.grown HG2.out h1.size hlt2)
      clear HOl HGl HOA HO2 HG2 HAT2 HACC hb q0
      go_wp2_with fail
      go_roundw
      case rel => first | exact ⟨r + 1, _, by omega, by go_num, HB3, HA3⟩ | ((repeat apply Exists.intro); exact ⟨⟨r + 1, _, by omega, by go_num, HB3, HA3⟩, rfl⟩)
      case measure => simp [intOf]; omega
    · have hge : (T.kinds.length : Int) ≤ (r : Int) := by omega
      have HKD : Hid (SlQ (fun b => s1.heap.size ≤ b ∧ b < wr.heap.size) 1 (IntsQ (fun b => s1.heap.size ≤ b ∧ b < wr.heap.size)) wr (.slice Av r cv) T.kinds) := Lib.hid (by
        have h9 := hacc.out.done keeps_ints
        rw [hlr, List.take_of_length_le (by omega)] at h9
        exact h9)
      obtain ⟨k0, k1, k2, k3, k4, k5, k6, k7⟩ := blk8' (HBX1.out.below hb.out (by have := HW1.out; omega))
      have nst0 : (0 : Int) ≤ (T.states.length : Int) := by omega
      rw [hlr]
      clear hacc hlr
      go_wp2_with fail
      clear k0 k1 k2 k3 k4 k5 k6 k7
      have HW2 : Hid (w.heap.size + 2 ≤ wr.heap.size) := Lib.hid (Nat.le_trans HW1.out hsr)
      have HBS1 := Lib.hid hb.out
      clear hb
      obtain ⟨s2, hs2⟩ : ∃ s2, s2 = wr := ⟨wr, rfl⟩
      subst hs2
      go_loopw [6, 35] (fun v s wq => ∃ (r : Nat) (css : List (List Value)), r ≤ T.states.length ∧ s = .int .i64 r ∧ Hid (Below s2.heap.size s2 wq) ∧ Hid (Acc s2.heap.size 46 8 RowQ wq v (T.states.take r) css)) (fun _ s _ => T.states.length - (intOf s).toNat)
      case atStart => exact ⟨0, [], Nat.zero_le _, rfl, Lib.hid (Below.refl _ _), Lib.hid (Acc.nil _)⟩
      case round =>
        obtain ⟨u1, hu1⟩ : ∃ u1, u1 = wr := ⟨wr, rfl⟩
        subst hu1
        obtain ⟨r2, css2, hr2, rfl, hb, hacc⟩ := hrel
        obtain ⟨Aw, cw, rfl⟩ := own_slice hacc.out.1
        have hlr2 : (T.states.take r2).length = r2 := by rw [List.length_take]; omega
        have HBW2 : Hid (Below w.heap.size w u1) := Lib.hid (HBW.out.trans (hb.out.mono (by have := HW2.out; omega)))
        have hsq := hb.out.size
        by_cases hlt2 : r2 < T.states.length
        · obtain ⟨x, hx⟩ : ∃ x, T.states[r2]? = some x := ⟨_, List.getElem?_eq_getElem hlt2⟩
          obtain ⟨b6, off6, c6, vb6, ve6, hvv, _, _, q0, q1, q2, q3, q4, q5, q6, q7, hbars, hends, hwx⟩ := rows_get (HX.out u1 HBW2.out).states hx
          injection hvv with hv1 hv2 hv3
          subst hv1
          obtain ⟨cb, Ab, nb, rfl, hb1', hb2', hfb, hrb⟩ := flat_of_slr hbars
          obtain ⟨Ae, ne, rfl, he1, he2⟩ := hends.slice
          have hrx := HSTL.out.2 x (List.mem_of_getElem? hx)
          have hbl := hrx.1.1
          have hel := hrx.2.1
          have HEL := Lib.hid hrx.2.2
          have hstl := HSTL.out.1
          have RB := Lib.hid (hrb (by decide))
          have OB := Lib.hid (flat_one hfb fun _ _ h => one_stop h)
          have HEN := Lib.hid hends
          have HWX := Lib.hid hwx
          have HTK := Lib.hid (take_one' hx)
          have b3 : (0 : Int) ≤ (r2 : Int) := by omega
          have b4 : (r2 : Int) < (T.states.length : Int) := by omega
          unfold maxLen at he2 hb2'
          obtain ⟨W2, hW2⟩ : ∃ W2, W2 = u1.alloc (.cells #[.int .i64 x.par, .int .i64 x.ty, .bool x.many, .int .i64 x.win, .slice Ab x.bars.length nb, .int .i64 x.leave, .int .i64 x.guard, .slice Ae x.ends.length ne] 46) := ⟨_, rfl⟩
          have BX2 : Hid (Blk W2 u1.heap.size 46 #[.int .i64 x.par, .int .i64 x.ty, .bool x.many, .int .i64 x.win, .slice Ab x.bars.length nb, .int .i64 x.leave, .int .i64 x.guard, .slice Ae x.ends.length ne]) := Lib.hid (by rw [hW2]; exact Blk.new u1 _ _)
          have HBR : Hid (Below u1.heap.size u1 W2) := Lib.hid (by rw [hW2]; exact (Below.refl _ _).alloc (Nat.le_refl _) _)
          have hz2' : W2.heap.size = u1.heap.size + 1 := by rw [hW2]; simp
          have HZ2 := Lib.hid hz2'
          have RB2 := Lib.hid (RB.out.below HBR.out)
          have HACC : Hid (Acc s2.heap.size 46 8 RowQ u1 (.slice Aw r2 cw) (T.states.take r2) css2) := Lib.hid (by have h9 := hacc.out; rw [hlr2] at h9; exact h9)
          have HLR := Lib.hid hlr2
          have HBB := hb
          rw [hlr2]
          clear hv2 hv3 hbars hends hrb hx hacc hlr2 hb hrx hwx RB hz2'
          go_upto_region 12 with fail
          rw [← hW2]
          clear hW2 q0 q1 q2 q3 q4 q5 q6 q7
          obtain ⟨z0, z1, z2, z3, z4, z5, z6, z7⟩ := blk8' BX2.out
          go_upto_region 13 with (at_builtin; refine wpList_append_any _ rfl _ _ 43 rfl W2.heap.size 98 i2 _ 2 16 Try.underlying43 hi2 hz2 hsz2 hb2 rfl (by omega) (.slice none 0 0) 0 [] rfl (World.ownsRow_nil _ _ _ _) u1.heap.size Ab x.bars.length nb cb.flatten rfl RB2.out OB.out (by unfold maxLen; omega) (by omega) (Nat.le_refl _) ?_; intro v9 g1 ho hg _; simp only [Nat.zero_add, List.nil_append] at ho; obtain ⟨Bb, mb, rfl⟩ := own_slice ho; have HOb := Lib.hid ho; have HGb := Lib.hid hg; clear ho hg z0 z1 z2 z3 z4 z5 z6 z7; have BXg := Lib.hid (BX2.out.grown HGb.out (by simp [Value.ownBlock])); have z4 := BXg.out.cell 4; have fz := BXg.out.frozen 4)
          clear z4 fz
          obtain ⟨W3, hW3⟩ : ∃ W3, W3 = g1.setCell ⟨u1.heap.size, 4, none⟩ (.slice Bb x.bars.length mb) := ⟨_, rfl⟩
          rw [← hW3]
          have BX3 : Hid (Blk W3 u1.heap.size 46 #[.int .i64 x.par, .int .i64 x.ty, .bool x.many, .int .i64 x.win, .slice Bb x.bars.length mb, .int .i64 x.leave, .int .i64 x.guard, .slice Ae x.ends.length ne]) := Lib.hid (by rw [hW3]; exact BXg.out.set_ 4 _)
          have HB3 : Hid (Below u1.heap.size u1 W3) := Lib.hid (by rw [hW3]; exact (HBR.out.grown HGb.out HBR.out.size (fun g e => by simp [Value.ownBlock] at e)).setCell (Nat.le_refl _) _)
          have HZ3 : Hid (u1.heap.size + 1 ≤ W3.heap.size) := Lib.hid (by have h1 := HGb.out.size; have h2 := HZ2.out; rw [hW3]; simp [World.setCell]; omega)
          have HKB : Hid (SlQ (fun b => u1.heap.size + 1 ≤ b ∧ b < W3.heap.size) 2 StopC W3 (.slice Bb x.bars.length mb) x.bars) := Lib.hid (by
            have ho : W3.ownsRow W2.heap.size 98 2 (.slice Bb x.bars.length mb) x.bars.length cb.flatten := by rw [hW3]; exact own_set HOb.out (by have := HZ2.out; simp only; omega) _
            exact slq_of_own (hfb.keep fun _ _ h => h) ho (fun g _ h1 h2 => by have := HZ2.out; omega) (.inr trivial))
          clear hW3 HOb HGb BXg BX2 HBR RB2
          obtain ⟨z0, z1, z2, z3, z4, z5, z6, z7⟩ := blk8' BX3.out
          have nel0 : (0 : Int) ≤ (x.ends.length : Int) := by omega
          go_wp2_with fail
          clear z0 z1 z2 z3 z4 z5 z6 z7
          go_loopw [9, 46] (fun v s wz => ∃ (q : Nat) (cse : List (List Value)), q ≤ x.ends.length ∧ s = .int .i64 q ∧ Hid (Below W3.heap.size W3 wz) ∧ Hid (Acc W3.heap.size 56 3 TailQ wz v (x.ends.take q) cse)) (fun _ s _ => x.ends.length - (intOf s).toNat)
          case atStart => exact ⟨0, [], Nat.zero_le _, rfl, Lib.hid (Below.refl _ _), Lib.hid (Acc.nil _)⟩
          case round =>
            obtain ⟨q, cse, hq, rfl, hb, hacc⟩ := hrel
            obtain ⟨At, ct, rfl⟩ := own_slice hacc.out.1
            have hlq2 : (x.ends.take q).length = q := by rw [List.length_take]; omega
            have HBZW : Hid (Below w.heap.size w wr) := Lib.hid (HBW2.out.trans ((HB3.out.trans (hb.out.mono HB3.out.size)).mono (by have := HW2.out; omega)))
            have hszw := hb.out.size
            by_cases hlt3 : q < x.ends.length
            · obtain ⟨z, hz⟩ : ∃ z, x.ends[q]? = some z := ⟨_, List.getElem?_eq_getElem hlt3⟩
              obtain ⟨b7, off7, c7, vb7, hvv, _, _, t0, t1, t2, hzb, hwz⟩ := tails_get' (keep_tails (KeepC.of_below (HB3.out.trans (hb.out.mono HB3.out.size))) HEN.out) hz
              injection hvv with hv1 hv2 hv3
              subst hv1
              obtain ⟨cz, Az, nz, rfl, hz1', hz2', hfz, hrz⟩ := flat_of_slr hzb
              have hzl := (HEL.out z (List.mem_of_getElem? hz)).1
              have RZ := Lib.hid (hrz (by decide))
              have OZ := Lib.hid (flat_one hfz fun _ _ h => one_stop h)
              have HWZ := Lib.hid hwz
              have HTQ := Lib.hid (take_one' hz)
              have b5 : (0 : Int) ≤ (q : Int) := by omega
              have b6' : (q : Int) < (x.ends.length : Int) := by omega
              unfold maxLen at hz2'
              obtain ⟨Z2, hZ2⟩ : ∃ Z2, Z2 = wr.alloc (.cells #[.int .i64 z.br, .int .i64 z.cl, .slice Az z.bars.length nz] 56) := ⟨_, rfl⟩
              have BT2 : Hid (Blk Z2 wr.heap.size 56 #[.int .i64 z.br, .int .i64 z.cl, .slice Az z.bars.length nz]) := Lib.hid (by rw [hZ2]; exact Blk.new wr _ _)
              have HBT : Hid (Below wr.heap.size wr Z2) := Lib.hid (by rw [hZ2]; exact (Below.refl _ _).alloc (Nat.le_refl _) _)
              have hzz2 : Z2.heap.size = wr.heap.size + 1 := by rw [hZ2]; simp
              have HZZ2 := Lib.hid hzz2
              have RZ2 := Lib.hid (RZ.out.below HBT.out)
              have HACCE : Hid (Acc W3.heap.size 56 3 TailQ wr (.slice At q ct) (x.ends.take q) cse) := Lib.hid (by have h9 := hacc.out; rw [hlq2] at h9; exact h9)
              have HLQ := Lib.hid hlq2
              have HBE := hb
              rw [hlq2]
              clear hv2 hv3 hzb hrz hz hacc hlq2 hb hwz RZ hzz2
              go_upto_region 17 with fail
              rw [← hZ2]
              clear hZ2 t0 t1 t2
              obtain ⟨z0, z1, z2⟩ : _ ∧ _ ∧ _ := ⟨BT2.out.cell 0, BT2.out.cell 1, BT2.out.cell 2⟩
              go_upto_region 18 with (at_builtin; refine wpList_append_any _ rfl _ _ 43 rfl Z2.heap.size 98 i2 _ 2 16 Try.underlying43 hi2 hz2 hsz2 hb2 rfl (by omega) (.slice none 0 0) 0 [] rfl (World.ownsRow_nil _ _ _ _) wr.heap.size Az z.bars.length nz cz.flatten rfl RZ2.out OZ.out (by unfold maxLen; omega) (by omega) (Nat.le_refl _) ?_; intro v9 g1 ho hg _; simp only [Nat.zero_add, List.nil_append] at ho; obtain ⟨Bz, mz, rfl⟩ := own_slice ho; have HOz := Lib.hid ho; have HGz := Lib.hid hg; clear ho hg z0 z1 z2; have BTg := Lib.hid (BT2.out.grown HGz.out (by simp [Value.ownBlock])); have z2 := BTg.out.cell 2; have fz := BTg.out.frozen 2)
              clear z2 fz
              obtain ⟨Z3, hZ3⟩ : ∃ Z3, Z3 = g1.setCell ⟨wr.heap.size, 2, none⟩ (.slice Bz z.bars.length mz) := ⟨_, rfl⟩
              rw [← hZ3]
              have BT3 : Hid (Blk Z3 wr.heap.size 56 #[.int .i64 z.br, .int .i64 z.cl, .slice Bz z.bars.length mz]) := Lib.hid (by rw [hZ3]; exact BTg.out.set_ 2 _)
              have HBT3 : Hid (Below wr.heap.size wr Z3) := Lib.hid (by rw [hZ3]; exact (HBT.out.grown HGz.out HBT.out.size (fun g e => by simp [Value.ownBlock] at e)).setCell (Nat.le_refl _) _)
              have HZZ3 : Hid (wr.heap.size + 1 ≤ Z3.heap.size) := Lib.hid (by have h1 := HGz.out.size; have h2 := HZZ2.out; rw [hZ3]; simp [World.setCell]; omega)
              have HKZ : Hid (SlQ (fun b => wr.heap.size + 1 ≤ b ∧ b < Z3.heap.size) 2 StopC Z3 (.slice Bz z.bars.length mz) z.bars) := Lib.hid (by
                have ho : Z3.ownsRow Z2.heap.size 98 2 (.slice Bz z.bars.length mz) z.bars.length cz.flatten := by rw [hZ3]; exact own_set HOz.out (by have := HZZ2.out; simp only; omega) _
                exact slq_of_own (hfz.keep fun _ _ h => h) ho (fun g _ h1 h2 => by have := HZZ2.out; omega) (.inr trivial))
              have HOAE : Hid (∀ o, (Z3.alloc o).ownsRow W3.heap.size 56 3 (.slice At q ct) q cse.flatten) := Lib.hid (fun o => by have h1 := own_below HACCE.out.1 (HBT3.out.alloc HBT3.out.size o); rw [HLQ.out] at h1; exact h1)
              have hsz33 : wr.heap.size ≤ Z3.heap.size := HBT3.out.size
              have O3 := Lib.hid (show ∀ u ∈ [Value.int .i64 z.br, .int .i64 z.cl, .slice Bz z.bars.length mz], u.oneCell' = true by intro u hu; simp at hu; rcases hu with rfl | rfl | rfl <;> rfl)
              clear hZ3 HOz HGz BTg BT2 HBT RZ2
              obtain ⟨z0, z1, z2⟩ : _ ∧ _ ∧ _ := ⟨BT3.out.cell 0, BT3.out.cell 1, BT3.out.cell 2⟩
              go_upto_region 19 with (at_builtin; refine wpList_append_any _ rfl _ _ 44 rfl W3.heap.size 56 i3 _ 3 40 Try.underlying44 hi3 hz3 hsz3 hb3 rfl (by omega) (.slice At q ct) q cse.flatten rfl (HOAE.out _) (Z3.heap.size + 1) (some ⟨Z3.heap.size, 0, none⟩) 1 1 [.int .i64 z.br, .int .i64 z.cl, .slice Bz z.bars.length mz] rfl (reads_blk _ _ _ rfl) O3.out (by unfold maxLen; omega) (by omega) (by simp; omega) ?_; intro v10 g2 ho2 hg2 hat2; have HO2 := Lib.hid ho2; have HG2 := Lib.hid hg2; have HAT2 := Lib.hid hat2; clear ho2 hg2 hat2)
              have HA4 : Hid (Acc W3.heap.size 56 3 TailQ g2 v10 (x.ends.take (q + 1)) (cse ++ [[.int .i64 z.br, .int .i64 z.cl, .slice Bz z.bars.length mz]])) := Lib.hid (by
                rw [HTQ.out]
                have hB1 : Below Z3.heap.size Z3 (Z3.alloc (.cells #[.int .i64 z.br, .int .i64 z.cl, .slice Bz z.bars.length mz] 56)) := (Below.refl _ _).alloc (Nat.le_refl _) _
                refine HACCE.out.step keeps_tail hszw (HBT3.out.trans (hB1.mono HBT3.out.size)) (cs := [.int .i64 z.br, .int .i64 z.cl, .slice Bz z.bars.length mz]) rfl ⟨_, rfl, HKZ.out.keep (KeepQ.of_below hB1 fun b hb => hb.2) (fun b hb => ⟨by omega, Nat.lt_of_lt_of_le hb.2 hB1.size⟩) (fun _ _ h => h), HWZ.out⟩ (by rw [HLQ.out]; exact HO2.out) HG2.out HAT2.out)
              have HB4 : Hid (Below W3.heap.size W3 g2) := Lib.hid (by
                have hlt2 := fun g hg => (own_lt HACCE.out.1 (g := g) hg).2
                have h1 : Below W3.heap.size W3 (Z3.alloc (.cells #[.int .i64 z.br, .int .i64 z.cl, .slice Bz z.bars.length mz] 56)) := (HBE.out.trans (HBT3.out.mono hszw)).alloc (Nat.le_trans hszw HBT3.out.size) _
                exact h1.grown HG2.out h1.size hlt2)
              clear HOAE HO2 HG2 HAT2 HACCE z0 z1 z2 HBE
              go_wp2_with fail
              go_roundw
              case rel => first | exact ⟨q + 1, _, by omega, by go_num, HB4, HA4⟩ | ((repeat apply Exists.intro); exact ⟨⟨q + 1, _, by omega, by go_num, HB4, HA4⟩, rfl⟩)
              case measure => simp [intOf]; omega
            · obtain rfl : q = x.ends.length := by omega
              have HED : Hid (SlQ (fun b => W3.heap.size ≤ b ∧ b < wr.heap.size) 3 (TailQ (fun b => W3.heap.size ≤ b ∧ b < wr.heap.size)) wr (.slice At x.ends.length ct) x.ends) := Lib.hid (by
                have h9 := hacc.out.done keeps_tail
                rw [hlq2, List.take_length] at h9
                exact h9)
              have BX4 := Lib.hid (BX3.out.below hb.out (by have := HZ3.out; omega))
              have HBE := Lib.hid hb.out
              have hge3 : (x.ends.length : Int) ≤ (x.ends.length : Int) := by omega
              rw [hlq2]
              clear hacc hlq2 hb
              obtain ⟨z7, f7⟩ : _ ∧ _ := ⟨BX4.out.cell 7, BX4.out.frozen 7⟩
              go_upto_region 21 with fail
              clear z7 f7
              obtain ⟨W4, hW4⟩ : ∃ W4, W4 = wr.setCell ⟨u1.heap.size, 7, none⟩ (.slice At x.ends.length ct) := ⟨_, rfl⟩
              rw [← hW4]
              have BX5 : Hid (Blk W4 u1.heap.size 46 #[.int .i64 x.par, .int .i64 x.ty, .bool x.many, .int .i64 x.win, .slice Bb x.bars.length mb, .int .i64 x.leave, .int .i64 x.guard, .slice At x.ends.length ct]) := Lib.hid (by rw [hW4]; exact BX4.out.set_ 7 _)
              have HB5 : Hid (Below u1.heap.size u1 W4) := Lib.hid (by rw [hW4]; exact (HB3.out.trans (HBE.out.mono HB3.out.size)).setCell (Nat.le_refl _) _)
              have HZ5 : Hid (W4.heap.size = wr.heap.size) := Lib.hid (by rw [hW4]; simp [World.setCell])
              have HKB5 : Hid (SlQ (fun b => u1.heap.size ≤ b ∧ b < W4.heap.size) 2 StopC W4 (.slice Bb x.bars.length mb) x.bars) := Lib.hid (HKB.out.keep ((KeepQ.of_below HBE.out fun b hb => hb.2).trans (by rw [hW4]; exact KeepQ.of_set fun b hb => by simp only; omega)) (fun b hb => ⟨by omega, by rw [HZ5.out]; exact Nat.lt_of_lt_of_le hb.2 HBE.out.size⟩) fun _ _ h => h)
              have HED5 : Hid (SlQ (fun b => u1.heap.size ≤ b ∧ b < W4.heap.size) 3 (TailQ (fun b => u1.heap.size ≤ b ∧ b < W4.heap.size)) W4 (.slice At x.ends.length ct) x.ends) := Lib.hid (by
                have hk : KeepQ (fun b => W3.heap.size ≤ b ∧ b < wr.heap.size) wr W4 := by rw [hW4]; exact KeepQ.of_set fun b hb => by have := HZ3.out; simp only; omega
                have hq : ∀ b, (W3.heap.size ≤ b ∧ b < wr.heap.size) → (u1.heap.size ≤ b ∧ b < W4.heap.size) := fun b hb => by have := HZ3.out; have := HZ5.out; omega
                exact HED.out.keep hk hq fun cs z h => h.keep hk hq)
              have HOAR : Hid (∀ o, (W4.alloc o).ownsRow s2.heap.size 46 8 (.slice Aw r2 cw) r2 css2.flatten) := Lib.hid (fun o => by have h1 := own_below HACC.out.1 (HB5.out.alloc HB5.out.size o); rw [HLR.out] at h1; exact h1)
              have hsz55 : u1.heap.size ≤ W4.heap.size := HB5.out.size
              have O8 := Lib.hid (show ∀ u ∈ [Value.int .i64 x.par, .int .i64 x.ty, .bool x.many, .int .i64 x.win, .slice Bb x.bars.length mb, .int .i64 x.leave, .int .i64 x.guard, .slice At x.ends.length ct], u.oneCell' = true by intro u hu; simp at hu; rcases hu with rfl | rfl | rfl | rfl | rfl | rfl | rfl | rfl <;> rfl)
              clear hW4 HED BX4 HKB HBE
              obtain ⟨z0, z1, z2, z3, z4, z5, z6, z7⟩ := blk8' BX5.out
              go_upto_region 22 with (at_builtin; refine wpList_append_any _ rfl _ _ 24 rfl s2.heap.size 46 i4 _ 8 96 Try.underlying24 hi4 hz4 hsz4 hb4 rfl (by omega) (.slice Aw r2 cw) r2 css2.flatten rfl (HOAR.out _) (W4.heap.size + 1) (some ⟨W4.heap.size, 0, none⟩) 1 1 [.int .i64 x.par, .int .i64 x.ty, .bool x.many, .int .i64 x.win, .slice Bb x.bars.length mb, .int .i64 x.leave, .int .i64 x.guard, .slice At x.ends.length ct] rfl (reads_blk _ _ _ rfl) O8.out (by unfold maxLen; omega) (by omega) (by simp; omega) ?_; intro v11 g3 ho3 hg3 hat3; have HO3 := Lib.hid ho3; have HG3 := Lib.hid hg3; have HAT3 := Lib.hid hat3; clear ho3 hg3 hat3)
              have HA5 : Hid (Acc s2.heap.size 46 8 RowQ g3 v11 (T.states.take (r2 + 1)) (css2 ++ [[.int .i64 x.par, .int .i64 x.ty, .bool x.many, .int .i64 x.win, .slice Bb x.bars.length mb, .int .i64 x.leave, .int .i64 x.guard, .slice At x.ends.length ct]])) := Lib.hid (by
                rw [HTK.out]
                have hB1 : Below W4.heap.size W4 (W4.alloc (.cells #[.int .i64 x.par, .int .i64 x.ty, .bool x.many, .int .i64 x.win, .slice Bb x.bars.length mb, .int .i64 x.leave, .int .i64 x.guard, .slice At x.ends.length ct] 46)) := (Below.refl _ _).alloc (Nat.le_refl _) _
                have hk : KeepQ (fun b => u1.heap.size ≤ b ∧ b < W4.heap.size) W4 (W4.alloc (.cells #[.int .i64 x.par, .int .i64 x.ty, .bool x.many, .int .i64 x.win, .slice Bb x.bars.length mb, .int .i64 x.leave, .int .i64 x.guard, .slice At x.ends.length ct] 46)) := KeepQ.of_below hB1 fun b hb => hb.2
                have hq : ∀ b, (u1.heap.size ≤ b ∧ b < W4.heap.size) → (u1.heap.size ≤ b ∧ b < (W4.alloc (.cells #[.int .i64 x.par, .int .i64 x.ty, .bool x.many, .int .i64 x.win, .slice Bb x.bars.length mb, .int .i64 x.leave, .int .i64 x.guard, .slice At x.ends.length ct] 46)).heap.size) := fun b hb => ⟨hb.1, Nat.lt_of_lt_of_le hb.2 hB1.size⟩
                refine HACC.out.step keeps_row hsq (HB5.out.trans (hB1.mono HB5.out.size)) (cs := [.int .i64 x.par, .int .i64 x.ty, .bool x.many, .int .i64 x.win, .slice Bb x.bars.length mb, .int .i64 x.leave, .int .i64 x.guard, .slice At x.ends.length ct]) rfl ⟨_, _, rfl, HKB5.out.keep hk hq (fun _ _ h => h), HED5.out.keep hk hq (fun cs z h => h.keep hk hq), HWX.out⟩ (by rw [HLR.out]; exact HO3.out) HG3.out HAT3.out)
              have HB6 : Hid (Below s2.heap.size s2 g3) := Lib.hid (by
                have hlt2 := fun g hg => (own_lt HACC.out.1 (g := g) hg).2
                have h1 : Below s2.heap.size s2 (W4.alloc (.cells #[.int .i64 x.par, .int .i64 x.ty, .bool x.many, .int .i64 x.win, .slice Bb x.bars.length mb, .int .i64 x.leave, .int .i64 x.guard, .slice At x.ends.length ct] 46)) := (HBB.out.trans (HB5.out.mono hsq)).alloc (Nat.le_trans hsq HB5.out.size) _
                exact h1.grown HG3.out h1.size hlt2)
              clear HOAR HO3 HG3 HAT3 HACC z0 z1 z2 z3 z4 z5 z6 z7 HBB
              go_wp2_with fail
              go_roundw
              case rel => first | exact ⟨r2 + 1, _, by omega, by go_num, HB6, HA5⟩ | ((repeat apply Exists.intro); exact ⟨⟨r2 + 1, _, by omega, by go_num, HB6, HA5⟩, rfl⟩)
              case measure => simp [intOf]; omega
        · obtain rfl : r2 = T.states.length := by omega
          have HROWS : Hid (Acc s2.heap.size 46 8 RowQ u1 (.slice Aw T.states.length cw) T.states css2) := Lib.hid (by
            have h9 := hacc.out
            rw [hlr2, List.take_length] at h9
            exact h9)
          have HBX2 := Lib.hid ((HBX1.out.below HBS1.out (by have := HW1.out; omega)).below hb.out (by have := HW2.out; omega))
          have HW3 : Hid (w.heap.size + 2 ≤ u1.heap.size) := Lib.hid (Nat.le_trans HW2.out hsq)
          have HBS2 := Lib.hid hb.out
          have ncd0 : (0 : Int) ≤ (T.codes.length : Int) := by omega
          have hge2 : (T.states.length : Int) ≤ (T.states.length : Int) := by omega
          rw [hlr2]
          clear hacc hlr2 hb hlt2 hr2
          obtain ⟨k0, k1, k2, k3, k4, k5, k6, k7⟩ := blk8' HBX2.out
          go_wp2_with fail
          clear k0 k1 k2 k3 k4 k5 k6 k7
          go_loopw [12, 69] (fun v s wz => ∃ (q : Nat) (cs3 : List (List Value)), q ≤ T.codes.length ∧ s = .int .i64 q ∧ Hid (Below u1.heap.size u1 wz) ∧ Hid (Acc u1.heap.size 40 5 CodeQ wz v (T.codes.take q) cs3)) (fun _ s _ => T.codes.length - (intOf s).toNat)
          case atStart => exact ⟨0, [], Nat.zero_le _, rfl, Lib.hid (Below.refl _ _), Lib.hid (Acc.nil _)⟩
          case round =>
            obtain ⟨q, cs3, hq, rfl, hb, hacc⟩ := hrel
            obtain ⟨At, ct, rfl⟩ := own_slice hacc.out.1
            have hlq : (T.codes.take q).length = q := by rw [List.length_take]; omega
            have HBW3 : Hid (Below w.heap.size w wr) := Lib.hid (HBW2.out.trans (hb.out.mono (by have := HW3.out; omega)))
            have hszw := hb.out.size
            by_cases hlt3 : q < T.codes.length
            · obtain ⟨x, hx⟩ : ∃ x, T.codes[q]? = some x := ⟨_, List.getElem?_eq_getElem hlt3⟩
              obtain ⟨b7, off7, c7, vi, vo, vl, hvv, _, _, q0, q1, q2, q3, q4, hii, hvi, hll, hwc⟩ := codes_get' (HX.out wr HBW3.out).codes hx
              injection hvv with hv1 hv2 hv3
              subst hv1
              obtain ⟨Ai, ni, rfl, _, _⟩ := hii.slice
              obtain ⟨Ao, no, rfl, _, _⟩ := hvi.slice
              obtain ⟨Al, nl, rfl, _, _⟩ := hll.slice
              have hcx := HCDL.out.2 x (List.mem_of_getElem? hx)
              have hcdl := HCDL.out.1
              have HTQ := Lib.hid (take_one' hx)
              have b5 : (0 : Int) ≤ (q : Int) := by omega
              have b6' : (q : Int) < (T.codes.length : Int) := by omega
              obtain ⟨C2, hC2⟩ : ∃ C2, C2 = wr.alloc (.cells #[.int .i64 x.regs, .int .i64 x.slots, .slice Ai x.inputs.length ni, .slice Ao x.consts.length no, .slice Al x.list.length nl] 40) := ⟨_, rfl⟩
              have BC2 : Hid (Blk C2 wr.heap.size 40 #[.int .i64 x.regs, .int .i64 x.slots, .slice Ai x.inputs.length ni, .slice Ao x.consts.length no, .slice Al x.list.length nl]) := Lib.hid (by rw [hC2]; exact Blk.new wr _ _)
              have HBC : Hid (Below wr.heap.size wr C2) := Lib.hid (by rw [hC2]; exact (Below.refl _ _).alloc (Nat.le_refl _) _)
              have CT := Lib.hid (twinc_any x C2 _ _ _ (keep_inps (KeepC.of_below HBC.out) hii) (keep_vals (KeepC.of_below HBC.out) hvi) (keep_inss (KeepC.of_below HBC.out) hll) hwc hcx.1.1 hcx.2.1.1 hcx.2.2.1)
              have HACC : Hid (Acc u1.heap.size 40 5 CodeQ wr (.slice At q ct) (T.codes.take q) cs3) := Lib.hid (by have h9 := hacc.out; rw [hlq] at h9; exact h9)
              have HLQ := Lib.hid hlq
              have HBE := hb
              rw [hlq]
              clear hv2 hv3 hii hvi hll hx hacc hlq hb hcx
              go_upto_region 27 with fail
              rw [← hC2]
              clear hC2 q0 q1 q2 q3 q4
              obtain ⟨z0, z1, z2, z3, z4⟩ := blk5 BC2.out
              go_upto_region 28 with (first
                | (go_at_call 19; refine CT.out.mono ?_; rintro e C3 ⟨ui, uo, ul, rfl, hcq, hb3⟩; have HCQ := Lib.hid hcq; have HB3 := Lib.hid (HBC.out.trans (hb3.mono HBC.out.size)); have hsz3 := HB3.out.size; have HOAE : Hid (∀ o, (C3.alloc o).ownsRow u1.heap.size 40 5 (.slice At q ct) q cs3.flatten) := Lib.hid (fun o => by have h1 := own_below HACC.out.1 (HB3.out.alloc HB3.out.size o); rw [HLQ.out] at h1; exact h1); obtain ⟨Bi, mi, rfl, _, _, _⟩ : ∃ A c, ui = .slice A x.inputs.length c ∧ True ∧ True ∧ True := (by obtain ⟨_, _, _, he, ⟨A, c, hv, _⟩, _⟩ := hcq; simp at he; exact ⟨A, c, he.1.trans hv, trivial, trivial, trivial⟩); obtain ⟨Bo, mo, rfl, _, _, _⟩ : ∃ A c, uo = .slice A x.consts.length c ∧ True ∧ True ∧ True := (by obtain ⟨_, _, _, he, _, ⟨A, c, hv, _⟩, _⟩ := hcq; simp at he; exact ⟨A, c, he.2.1.trans hv, trivial, trivial, trivial⟩); obtain ⟨Bl, ml, rfl, _, _, _⟩ : ∃ A c, ul = .slice A x.list.length c ∧ True ∧ True ∧ True := (by obtain ⟨_, _, _, he, _, _, ⟨A, c, hv, _⟩, _⟩ := hcq; simp at he; exact ⟨A, c, he.2.2.trans hv, trivial, trivial, trivial⟩); clear hcq hb3 CT z0 z1 z2 z3 z4)
                | (at_builtin; refine wpList_append_any _ rfl _ _ 25 rfl u1.heap.size 40 i5 _ 5 88 Try.underlying25 hi5 hz5 hsz5 hb5 rfl (by omega) (.slice At q ct) q cs3.flatten rfl (HOAE.out _) (C3.heap.size + 1) (some ⟨C3.heap.size, 0, none⟩) 1 1 [.int .i64 x.regs, .int .i64 x.slots, .slice Bi x.inputs.length mi, .slice Bo x.consts.length mo, .slice Bl x.list.length ml] rfl (reads_blk _ _ _ rfl) (show ∀ u ∈ [Value.int .i64 x.regs, .int .i64 x.slots, .slice Bi x.inputs.length mi, .slice Bo x.consts.length mo, .slice Bl x.list.length ml], u.oneCell' = true from (by intro u hu; simp at hu; rcases hu with rfl | rfl | rfl | rfl | rfl <;> rfl)) (by unfold maxLen; omega) (by omega) (by simp; omega) ?_; intro v10 g2 ho2 hg2 hat2; have HO2 := Lib.hid ho2; have HG2 := Lib.hid hg2; have HAT2 := Lib.hid hat2; clear ho2 hg2 hat2))
              have HA4 : Hid (Acc u1.heap.size 40 5 CodeQ g2 v10 (T.codes.take (q + 1)) (cs3 ++ [[.int .i64 x.regs, .int .i64 x.slots, .slice Bi x.inputs.length mi, .slice Bo x.consts.length mo, .slice Bl x.list.length ml]])) := Lib.hid (by
                rw [HTQ.out]
                have hB1 : Below C3.heap.size C3 (C3.alloc (.cells #[.int .i64 x.regs, .int .i64 x.slots, .slice Bi x.inputs.length mi, .slice Bo x.consts.length mo, .slice Bl x.list.length ml] 40)) := (Below.refl _ _).alloc (Nat.le_refl _) _
                refine HACC.out.step keeps_code hszw (HB3.out.trans (hB1.mono HB3.out.size)) (cs := [.int .i64 x.regs, .int .i64 x.slots, .slice Bi x.inputs.length mi, .slice Bo x.consts.length mo, .slice Bl x.list.length ml]) rfl (HCQ.out.keep (KeepQ.of_below hB1 fun b hb => hb.2) (fun b hb => ⟨Nat.le_trans HBC.out.size hb.1, Nat.lt_of_lt_of_le hb.2 hB1.size⟩)) (by rw [HLQ.out]; exact HO2.out) HG2.out HAT2.out)
              have HB4 : Hid (Below u1.heap.size u1 g2) := Lib.hid (by
                have hlt2 := fun g hg => (own_lt HACC.out.1 (g := g) hg).2
                have h1 : Below u1.heap.size u1 (C3.alloc (.cells #[.int .i64 x.regs, .int .i64 x.slots, .slice Bi x.inputs.length mi, .slice Bo x.consts.length mo, .slice Bl x.list.length ml] 40)) := (HBE.out.trans (HB3.out.mono hszw)).alloc (Nat.le_trans hszw HB3.out.size) _
                exact h1.grown HG2.out h1.size hlt2)
              clear HOAE HO2 HG2 HAT2 HACC HBE HCQ HB3 HBC
              go_wp2_with fail
              go_roundw
              case rel => first | exact ⟨q + 1, _, by omega, by go_num, HB4, HA4⟩ | ((repeat apply Exists.intro); exact ⟨⟨q + 1, _, by omega, by go_num, HB4, HA4⟩, rfl⟩)
              case measure => simp [intOf]; omega
            · obtain rfl : q = T.codes.length := by omega
              obtain rfl : r = T.kinds.length := by omega
              have HCDS : Hid (Acc u1.heap.size 40 5 CodeQ wr (.slice At T.codes.length ct) T.codes cs3) := Lib.hid (by
                have h9 := hacc.out
                rw [hlq, List.take_length] at h9
                exact h9)
              have HBX4 := Lib.hid (HBX2.out.below hb.out (by have := HW3.out; omega))
              have HBZ4 := Lib.hid (((HBZ1.out.below HBS1.out (by have := HW1.out; omega)).below HBS2.out (by have := HW2.out; omega)).below hb.out (by have := HW3.out; omega))
              have HROW4 := Lib.hid (HROWS.out.below keeps_row hb.out)
              have HBE := Lib.hid hb.out
              have hge4 : (T.codes.length : Int) ≤ (T.codes.length : Int) := by omega
              rw [hlq]
              clear hacc hlq hb hlt3
              obtain ⟨k0, k1, k2, k3, k4, k5, k6, k7⟩ := blk8' HBX4.out
              have f2 := HBX4.out.frozen 2
              have f6 := HBX4.out.frozen 6
              have f7 := HBX4.out.frozen 7
              go_upto_region 30 with fail
              clear k0 k1 k2 k3 k4 k5 k6 k7 f2 f6 f7
              obtain ⟨V1, hV1⟩ : ∃ V1, V1 = ((wr.setCell ⟨w.heap.size, 2, none⟩ (.slice Av T.kinds.length cv)).setCell ⟨w.heap.size, 6, none⟩ (.slice Aw T.states.length cw)).setCell ⟨w.heap.size, 7, none⟩ (.slice At T.codes.length ct) := ⟨_, rfl⟩
              rw [← hV1]
              have HBX5 : Hid (Blk V1 w.heap.size 27 #[.int .i64 T.strategy, .slice Bk T.keys.length mk, .slice Av T.kinds.length cv, .int .i64 T.syms, .int .i64 T.runs, .int .i64 T.cells, .slice Aw T.states.length cw, .slice At T.codes.length ct]) := Lib.hid (by rw [hV1]; exact ((HBX4.out.set_ 2 _).set_ 6 _).set_ 7 _)
              have HBZ5 : Hid (Blk V1 (w.heap.size + 1) 27 #[.int .i64 0, .slice none 0 0, .slice none 0 0, .int .i64 0, .int .i64 0, .int .i64 0, .slice none 0 0, .slice none 0 0]) := Lib.hid (by rw [hV1]; exact ((HBZ4.out.far (p := ⟨w.heap.size, 2, none⟩) (by simp) _).far (p := ⟨w.heap.size, 6, none⟩) (by simp) _).far (p := ⟨w.heap.size, 7, none⟩) (by simp) _)
              have KV1 : Hid (KeepQ (fun b => w.heap.size + 2 ≤ b) wr V1) := Lib.hid (by rw [hV1]; refine ((KeepQ.of_set fun b hb => ?_).trans (KeepQ.of_set fun b hb => ?_)).trans (KeepQ.of_set fun b hb => ?_) <;> (simp only; omega))
              have PV1 : Hid (Below w.heap.size w V1) := Lib.hid (by rw [hV1]; exact ((HBW3.out.setCell (Nat.le_refl _) _).setCell (Nat.le_refl _) _).setCell (Nat.le_refl _) _)
              have OV1 : Hid (V1.ownsRow s2.heap.size 46 8 (.slice Aw T.states.length cw) T.states.length css2.flatten) := Lib.hid (by
                rw [hV1]
                have := HW2.out
                exact own_set (own_set (own_set HROW4.out.1 (by simp only; omega) _) (by simp only; omega) _) (by simp only; omega) _)
              have HV1B : Hid (∀ g, w.heap.size + 2 ≤ g → V1.heap[g]? = wr.heap[g]?) := Lib.hid (by rw [hV1]; intro g hg; rw [Below.heap_setCell _ _ _ g (by simp only; omega), Below.heap_setCell _ _ _ g (by simp only; omega), Below.heap_setCell _ _ _ g (by simp only; omega)])
              have SV1 : Hid (V1.heap.size = wr.heap.size) := Lib.hid (by rw [hV1]; simp [World.setCell])
              clear hV1
              obtain ⟨k0, k1, k2, k3, k4, k5, k6, k7⟩ := blk8' HBX5.out
              obtain ⟨z0, z1, z2, z3, z4, z5, z6, z7⟩ := blk8' HBZ5.out
              have f0 := HBZ5.out.frozen 0
              have f1 := HBZ5.out.frozen 1
              have f2 := HBZ5.out.frozen 2
              have f3 := HBZ5.out.frozen 3
              have f4 := HBZ5.out.frozen 4
              have f5 := HBZ5.out.frozen 5
              have f6 := HBZ5.out.frozen 6
              have f7 := HBZ5.out.frozen 7
              go_wp2_with fail
              clear k0 k1 k2 k3 k4 k5 k6 k7 z0 z1 z2 z3 z4 z5 z6 z7 f0 f1 f2 f3 f4 f5 f6 f7
              have HBF := Lib.hid ((((((((HBZ5.out.set_ 0 (.int .i64 T.strategy)).set_ 1 (.slice Bk T.keys.length mk)).set_ 2 (.slice Av T.kinds.length cv)).set_ 3 (.int .i64 T.syms)).set_ 4 (.int .i64 T.runs)).set_ 5 (.int .i64 T.cells)).set_ 6 (.slice Aw T.states.length cw)).set_ 7 (.slice At T.codes.length ct))
              obtain ⟨VF, hVF⟩ : ∃ VF, VF = ((((((((V1.setCell ⟨w.heap.size + 1, 0, none⟩ (.int .i64 T.strategy)).setCell ⟨w.heap.size + 1, 1, none⟩ (.slice Bk T.keys.length mk)).setCell ⟨w.heap.size + 1, 2, none⟩ (.slice Av T.kinds.length cv)).setCell ⟨w.heap.size + 1, 3, none⟩ (.int .i64 T.syms)).setCell ⟨w.heap.size + 1, 4, none⟩ (.int .i64 T.runs)).setCell ⟨w.heap.size + 1, 5, none⟩ (.int .i64 T.cells)).setCell ⟨w.heap.size + 1, 6, none⟩ (.slice Aw T.states.length cw)).setCell ⟨w.heap.size + 1, 7, none⟩ (.slice At T.codes.length ct)) := ⟨_, rfl⟩
              have HVB : Hid (∀ g, w.heap.size + 2 ≤ g → VF.heap[g]? = wr.heap[g]?) := Lib.hid (by intro g hg; rw [hVF, Below.heap_setCell _ _ _ g (by simp only; omega), Below.heap_setCell _ _ _ g (by simp only; omega), Below.heap_setCell _ _ _ g (by simp only; omega), Below.heap_setCell _ _ _ g (by simp only; omega), Below.heap_setCell _ _ _ g (by simp only; omega), Below.heap_setCell _ _ _ g (by simp only; omega), Below.heap_setCell _ _ _ g (by simp only; omega), Below.heap_setCell _ _ _ g (by simp only; omega)]; exact HV1B.out g hg)
              rw [← hVF] at HBF ⊢
              have KF : KeepQ (fun b => w.heap.size + 2 ≤ b) wr VF := by
                rw [hVF]
                refine KV1.out.trans ((((((((KeepQ.of_set fun b hb => ?_).trans (KeepQ.of_set fun b hb => ?_)).trans (KeepQ.of_set fun b hb => ?_)).trans (KeepQ.of_set fun b hb => ?_)).trans (KeepQ.of_set fun b hb => ?_)).trans (KeepQ.of_set fun b hb => ?_)).trans (KeepQ.of_set fun b hb => ?_)).trans (KeepQ.of_set fun b hb => ?_)) <;> (simp only; omega)
              have PF : Below w.heap.size w VF := by
                rw [hVF]
                exact (((((((PV1.out.setCell (by simp) _).setCell (by simp) _).setCell (by simp) _).setCell (by simp) _).setCell (by simp) _).setCell (by simp) _).setCell (by simp) _).setCell (by simp) _
              have OF : VF.ownsRow s2.heap.size 46 8 (.slice Aw T.states.length cw) T.states.length css2.flatten := by
                rw [hVF]
                have := HW2.out
                exact own_set (own_set (own_set (own_set (own_set (own_set (own_set (own_set OV1.out (by simp only; omega) _) (by simp only; omega) _) (by simp only; omega) _) (by simp only; omega) _) (by simp only; omega) _) (by simp only; omega) _) (by simp only; omega) _) (by simp only; omega) _
              have hsz : VF.heap.size = wr.heap.size := by rw [hVF, ← SV1.out]; simp [World.setCell]
              have e1 := HW1.out
              have e2 := HW2.out
              have e3 := HW3.out
              have e4 := HBE.out.size
              have e5 := HBS1.out.size
              have e6 := HBS2.out.size
              have hg : ∀ g, (Value.slice Aw T.states.length cw).ownBlock = some g → s2.heap.size ≤ g ∧ g < u1.heap.size := fun g hg => ⟨(own_lt HROWS.out.1 hg).2, (own_lt HROWS.out.1 hg).1⟩
              have hne1 : ∀ b, b < s2.heap.size → some b ≠ (Value.slice Aw T.states.length cw).ownBlock := fun b hb e => by have := hg b e.symm; omega
              have hne2 : ∀ b, u1.heap.size ≤ b → some b ≠ (Value.slice Aw T.states.length cw).ownBlock := fun b hb e => by have := hg b e.symm; omega
              have kk2 : KeepQ (fun b => w.heap.size + 2 ≤ b ∧ b < s2.heap.size) s2 VF := fun p u hq hp => KF p u hq.1 (HBE.out.cell (by omega) |>.trans (HBS2.out.cell hq.2 |>.trans hp))
              have kk1 : KeepQ (fun b => w.heap.size + 2 ≤ b ∧ b < s1.heap.size) s1 VF := fun p u hq hp => kk2 p u (by omega) (HBS1.out.cell hq.2 |>.trans hp)
              have hg2 : ∀ g, (Value.slice At T.codes.length ct).ownBlock = some g → u1.heap.size ≤ g ∧ g < wr.heap.size := fun g hg => ⟨(own_lt HCDS.out.1 hg).2, (own_lt HCDS.out.1 hg).1⟩
              have hne3 : ∀ b, b < u1.heap.size → some b ≠ (Value.slice At T.codes.length ct).ownBlock := fun b hb e => by have := hg2 b e.symm; omega
              have OC : VF.ownsRow u1.heap.size 40 5 (.slice At T.codes.length ct) T.codes.length cs3.flatten := by
                have h0 := HCDS.out.1
                refine ⟨h0.1, ?_⟩
                rcases h0.2 with h1 | ⟨g, cap, cur, hv, hb, hh, hr⟩
                · exact .inl h1
                · exact .inr ⟨g, cap, cur, hv, hb, by rw [HVB.out g (by omega)]; exact hh, hr⟩
              have MM : TwinM w.heap.size VF T (.slice Bk T.keys.length mk) (.slice Av T.kinds.length cv) (.slice Aw T.states.length cw) (.slice At T.codes.length ct) := by
                refine ⟨HK1.out.keep kk1 (fun b hb => ⟨by omega, by omega, hne1 b (by omega), hne3 b (by omega)⟩) (fun _ _ h => h), ?_, ⟨css2, own_lower OF (by omega), HROWS.out.2.keep fun cs x h => h.keep (fun p u hq hp => ?_) (fun b hb => ⟨by have := hb.1; omega, by have := hb.2.1; omega, hb.2.2, hne3 b hb.2.1⟩)⟩, ⟨cs3, own_lower OC (by omega), HCDS.out.2.keep fun cs x h => h.keep (fun p u hq hp => KF p u (by have := hq.1; omega) hp) (fun b hb => ⟨by have := hb.1; omega, by have := hb.2.1; omega, hne2 b hb.1, hb.2.2⟩)⟩, fun g h1 h2 => by have := hg g h1; have := hg2 g h2; omega, HOKT.out⟩
                · have hq : ∀ b, (s1.heap.size ≤ b ∧ b < s2.heap.size) → QB w.heap.size (.slice Aw T.states.length cw) (.slice At T.codes.length ct) VF b := fun b hb => ⟨by omega, by omega, hne1 b hb.2, hne3 b (by omega)⟩
                  have hk : KeepQ (fun b => s1.heap.size ≤ b ∧ b < s2.heap.size) s2 VF := fun p u hq hp => kk2 p u (by omega) hp
                  exact HKD.out.keep hk hq fun cs x h => h.keep hk hq
                · exact KF p u (by have := hq.1; omega) (HBE.out.cell hq.2.1 |>.trans hp)
              have f0 := HBF.out.cell 0
              have f1 := HBF.out.cell 1
              have f2 := HBF.out.cell 2
              have f3 := HBF.out.cell 3
              have f4 := HBF.out.cell 4
              have f5 := HBF.out.cell 5
              have f6 := HBF.out.cell 6
              have f7 := HBF.out.cell 7
              exact bodyPost_ret (v := .agg #[.int .i64 T.strategy, .slice Bk T.keys.length mk, .slice Av T.kinds.length cv, .int .i64 T.syms, .int .i64 T.runs, .int .i64 T.cells, .slice Aw T.states.length cw, .slice At T.codes.length ct]) (by simp [results, Try.results9, go_sem, f0, f1, f2, f3, f4, f5, f6, f7]) rfl ⟨_, _, _, _, rfl, MM, PF⟩
end Go.Proofs.Ytioocaicmiggoaa

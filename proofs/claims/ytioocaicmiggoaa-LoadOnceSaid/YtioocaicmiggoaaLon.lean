/-
  What LoadOnce says, in plain words on tables, and what its stores leave in memory. No walk.
-/
import Derived.Test.YtioocaicmiggoaaLaw
import Derived.IntWalk
import Derived.Test.YtioocaicmiggoaaTwt
namespace Go.Proofs.Ytioocaicmiggoaa
set_option linter.unusedVariables false
open Go.RowKit

theorem ver_more {T : TTab} (h : verT T = true) (c : TCode) : verT { T with codes := T.codes ++ [c] } = false := by
  have h1 : (toldU (usesT T) []).length = T.codes.length := by
    unfold verT at h
    simp only [Bool.and_eq_true, decide_eq_true_eq] at h
    exact h.2
  have e : usesT { T with codes := T.codes ++ [c] } = usesT T := rfl
  have h2 : decide ((toldU (usesT { T with codes := T.codes ++ [c] }) []).length = ({ T with codes := T.codes ++ [c] } : TTab).codes.length) = false := by
    rw [e, h1, decide_eq_false_iff_not]
    simp
  unfold verT
  rw [h2, Bool.and_false]
theorem ver_parent {T : TTab} {k : Nat} {x : TRow} (hk : k < T.states.length) : verT { T with states := T.states.set k { x with par := k } } = false := by
  have hx : (T.states.set k { x with par := k })[k]? = some { x with par := k } := by rw [List.getElem?_set_self hk]
  have h1 : rowT { T with states := T.states.set k { x with par := k } } k { x with par := k } = false := by
    unfold rowT rowN
    simp
  have h2 := rows_bad (T := { T with states := T.states.set k { x with par := k } }) hx h1
  unfold verT
  rw [h2]
  simp
theorem ver_guard {T : TTab} {k : Nat} {x : TRow} (hk : k < T.states.length) : verT { T with states := T.states.set k { x with guard := (T.codes.length : Int) } } = false := by
  have hx : (T.states.set k { x with guard := (T.codes.length : Int) })[k]? = some { x with guard := (T.codes.length : Int) } := by rw [List.getElem?_set_self hk]
  have h1 : (usesRow { T with states := T.states.set k { x with guard := (T.codes.length : Int) } } k { x with guard := (T.codes.length : Int) }).all (useOk { T with states := T.states.set k { x with guard := (T.codes.length : Int) } }) = false := by
    rw [List.all_eq_false]
    refine ⟨_, List.mem_append_left _ (List.mem_append_left _ (List.mem_cons_self)), ?_⟩
    have hn : ¬ ((T.codes.length : Int) = -1) := by omega
    unfold useOk codeT
    simp only [decide_eq_false hn, Int.toNat_natCast, List.getElem?_eq_none (Nat.le_refl T.codes.length), Bool.and_false, Bool.or_false]
    decide
  have h2 := uses_bad (T := { T with states := T.states.set k { x with guard := (T.codes.length : Int) } }) hx h1
  unfold verT
  rw [h2]
  simp
theorem add_ne {g i j F k f : Nat} (hj : j < F) (hf : f < F) (h : i ≠ k ∨ j ≠ f) : i * F + j ≠ k * F + f := by
  intro e
  rcases Nat.lt_trichotomy i k with h1 | h1 | h1
  · have := Nat.mul_le_mul_right F (show i + 1 ≤ k by omega)
    rw [Nat.succ_mul] at this; omega
  · subst h1; omega
  · have := Nat.mul_le_mul_right F (show k + 1 ≤ i by omega)
    rw [Nat.succ_mul] at this; omega
/-- a number of a state set, in a table of one's own -/
theorem TwinM.store {B : Nat} {w : World} {T : TTab} {vk vkk vs vc : Value} (h : TwinM B w T vk vkk vs vc) {k : Nat} {x x' : TRow} (hx : T.states[k]? = some x) (f : Nat) (hf : f < 8) (u : Value)
    (hr : ∀ (Q : Nat → Prop) (w : World) (cs : List Value), RowQ Q w cs x → RowQ Q w (cs.set f u) x') :
    ∃ g cap u0, vs = .slice (some ⟨g, 0, none⟩) T.states.length cap ∧ B ≤ g ∧ w.cell? ⟨g, k * 8 + f, none⟩ = some u0 ∧ w.frozen? ⟨g, k * 8 + f, none⟩ = false ∧ T.states.length ≤ cap ∧ cap ≤ maxLen ∧
      TabX (w.setCell ⟨g, k * 8 + f, none⟩ u) { T with states := T.states.set k x' } vk vkk vs vc := by
  obtain ⟨cr, ho, hfl⟩ := h.rows
  have hk := (List.getElem?_eq_some_iff.1 hx).1
  obtain ⟨g, cap, rfl, hB, hlt, hnc, hcm, hc, hz⟩ := own_shape ho (by omega)
  obtain ⟨cs, hcs, hcl, hcr⟩ := hfl.2 k x hx
  have hcell := flat_get hfl.each hcs
  have hu0 : cs[f]? = some (cs[f]'(by omega)) := List.getElem?_eq_getElem (by omega)
  have kq : KeepQ (QB B (.slice (some ⟨g, 0, none⟩) T.states.length cap) vc w) w (w.setCell ⟨g, k * 8 + f, none⟩ u) := KeepQ.of_set fun b hb e => hb.2.2.1 (by simp only at e; rw [e]; rfl)
  refine ⟨g, cap, _, rfl, hB, hc _ _ (hcell f _ hu0), hz _, hnc, hcm, ⟨(h.keys.keep kq (fun _ h => h) fun _ _ h => h).out fun _ _ h => h, (h.kinds.keep kq (fun _ h => h) fun _ _ h => h.keep kq fun _ h => h).out fun _ _ h => h.out, ?_, ?_, h.ok⟩⟩
  · refine ⟨some ⟨g, 0, none⟩, cap, by simp, by simpa using hnc, hcm, fun _ => ⟨g, 0, rfl, fun i y hy => ?_⟩⟩
    by_cases hik : i = k
    · subst hik
      have hy : x' = y := by
        have hy : (T.states.set i x')[i]? = some y := hy
        rw [List.getElem?_set_self hk] at hy
        injection hy
      subst hy
      have hcr2 := (hr _ _ _ (RowQ.keep hcr kq fun _ h => h)).out
      refine ⟨cs.set f u, by rw [List.length_set]; exact hcl, hcr2, fun j v hv => ?_⟩
      rw [Nat.zero_add]
      by_cases hjf : j = f
      · subst hjf
        rw [List.getElem?_set_self (by omega)] at hv
        injection hv with hv
        subst hv
        exact World.cell?_setCell_same _ _ _ (hc _ _ (hcell j _ hu0))
      · rw [List.getElem?_set_ne (fun e => hjf e.symm)] at hv
        have hjl := (List.getElem?_eq_some_iff.1 hv).1
        rw [World.cell?_setCell_other _ _ _ _ (fun e => by injection e with e1 e2; exact add_ne (g := 0) (by omega) hf (.inr hjf) e2.symm)]
        exact hc _ _ (hcell j v hv)
    · have hy : T.states[i]? = some y := by
        have hy : (T.states.set k x')[i]? = some y := hy
        rwa [List.getElem?_set_ne (fun e => hik e.symm)] at hy
      obtain ⟨ci, hci, hcil, hcir⟩ := hfl.2 i y hy
      refine ⟨ci, hcil, (RowQ.keep hcir kq fun _ h => h).out, fun j v hv => ?_⟩
      have hjl := (List.getElem?_eq_some_iff.1 hv).1
      rw [Nat.zero_add, World.cell?_setCell_other _ _ _ _ (fun e => by injection e with e1 e2; exact add_ne (g := 0) (by omega) hf (.inl hik) e2.symm)]
      exact hc _ _ (flat_get hfl.each hci j v hv)
  · obtain ⟨cc, ho2, hf2⟩ := h.codes
    have ho3 : (w.setCell ⟨g, k * 8 + f, none⟩ u).ownsRow B 40 5 vc T.codes.length cc.flatten := by
      refine ⟨ho2.1, ?_⟩
      rcases ho2.2 with h1 | ⟨g2, cap2, cur2, hv2, hb2, hh2, hr2⟩
      · exact .inl h1
      · refine .inr ⟨g2, cap2, cur2, hv2, hb2, (Below.heap_setCell w _ u g2 (fun e => ?_)).trans hh2, hr2⟩
        simp only at e
        exact h.apart g rfl (by rw [hv2, e]; rfl)
    exact (slq_of_own (Q := fun _ => True) (hf2.keep fun cs x h => h.keep kq fun _ h => h) ho3 (fun _ _ _ _ => trivial) (.inr trivial)).out fun _ _ h => h.out
/-- a code more, in a table of one's own -/
theorem TwinM.more {B : Nat} {w w' : World} {T : TTab} {vk vkk vs vc v' : Value} (h : TwinM B w T vk vkk vs vc) {cs : List Value} {c : TCode} {cc : List (List Value)} (hk : ∀ b, B ≤ b → b < w.heap.size → some b ≠ vc.ownBlock → w'.heap[b]? = w.heap[b]?) (hc : CodeC w' cs c) (hcl : cs.length = 5)
    (hf2 : FlatR 5 (CodeQ (QB B vs vc w)) w cc T.codes) (ho : w'.ownsRow B 40 5 v' (T.codes.length + 1) (cc.flatten ++ cs)) :
    TabX w' { T with codes := T.codes ++ [c] } vk vkk vs v' := by
  have kq : KeepQ (QB B vs vc w) w w' := fun p u hq hp => (World.cell?_of_block (hk p.block hq.1 hq.2.1 hq.2.2.2)).trans hp
  obtain ⟨cr, hor, hfr⟩ := h.rows
  have hor' : w'.ownsRow B 46 8 vs T.states.length cr.flatten := by
    refine ⟨hor.1, ?_⟩
    rcases hor.2 with h1 | ⟨g, cap, cur, hv, hB, hh, hr⟩
    · exact .inl h1
    · have hlt : g < w.heap.size := (Array.getElem?_eq_some_iff.1 hh).1
      exact .inr ⟨g, cap, cur, hv, hB, (hk g hB hlt (fun e => h.apart g (by rw [hv]; rfl) e.symm)).trans hh, hr⟩
  refine ⟨(h.keys.keep kq (fun _ h => h) fun _ _ h => h).out fun _ _ h => h, (h.kinds.keep kq (fun _ h => h) fun _ _ h => h.keep kq fun _ h => h).out fun _ _ h => h.out,
    (slq_of_own (Q := fun _ => True) (hfr.keep fun cs x h => h.keep kq fun _ h => h) hor' (fun _ _ _ _ => trivial) (.inr trivial)).out fun _ _ h => h.out, ?_, h.ok⟩
  have hf : FlatR 5 CodeC w' (cc ++ [cs]) (T.codes ++ [c]) := (hf2.keep fun cs x h => (CodeQ.keep h kq fun _ h => h).out).snoc hcl hc
  have ho' : w'.ownsRow B 40 5 v' (T.codes ++ [c]).length (cc ++ [cs]).flatten := by
    rw [List.length_append, List.flatten_append]
    simpa using ho
  exact (slq_of_own (Q := fun _ => True) hf ho' (fun _ _ _ _ => trivial) (.inr trivial)).out fun _ _ h => h
theorem own_far {w : World} {base : Nat} {e : TypeId} {s n : Nat} {v : Value} {xs : List Value} (h : w.ownsRow base e s v n xs) {a : Addr} (ha : v.ownBlock ≠ some a.block) (u : Value) : (w.setCell a u).ownsRow base e s v n xs := by
  refine ⟨h.1, ?_⟩
  rcases h.2 with h1 | ⟨g, cap, cur, hv, hb, hh, hr⟩
  · exact .inl h1
  · exact .inr ⟨g, cap, cur, hv, hb, (Below.heap_setCell w a u g (fun e => ha (by rw [hv, ← e]; rfl))).trans hh, hr⟩
theorem more_done {B : Nat} {w4 w5 w6 w8 : World} {T : TTab} {vk vkk vs vc v' : Value} {co : List (List Value)} {cs : List Value} {c : TCode} {o : Obj} (hm : TwinM B w4 T vk vkk vs vc) (ho4 : w4.ownsRow B 40 5 vc T.codes.length co.flatten) (hf4 : FlatR 5 (CodeQ (QB B vs vc w4)) w4 co T.codes)
    (h45 : Below w4.heap.size w4 w5) (h45s : w5.heap.size = w4.heap.size + 1) (h6 : Below w5.heap.size w5 w6) (hQ : CodeQ (fun b => w5.heap.size ≤ b) w6 cs c) (hcl : cs.length = 5)
    (ho : w8.ownsRow B 40 5 v' (T.codes.length + 1) (co.flatten ++ cs)) (hg : (w6.alloc o).grownBy w8 vc.ownBlock) (hat : v'.ownBlock = vc.ownBlock ∨ v'.ownBlock = some (w6.alloc o).heap.size) (u : Value) :
    TabX (w8.setCell ⟨w4.heap.size, 7, none⟩ u) { T with codes := T.codes ++ [c] } vk vkk vs v' := by
  have hvlt : ∀ g, vc.ownBlock = some g → g < w4.heap.size := fun g hg => (own_lt ho4 hg).1
  have h46 : w4.heap.size + 1 ≤ w6.heap.size := by have := h6.size; omega
  have hne : v'.ownBlock ≠ some w4.heap.size := by
    rcases hat with h | h
    · rw [h]; intro e; have := hvlt _ e; omega
    · rw [h, World.size_alloc]; intro e; injection e with e; omega
  refine hm.more (cc := co) (cs := cs) (fun b hB hb hn => ?_) ?_ hcl hf4 (own_far ho hne u)
  · rw [Below.heap_setCell _ _ _ b (by simp only; omega), hg.block b (by rw [World.size_alloc]; omega) hn, Below.heap_alloc _ _ b (by omega), h6.block b (by omega), h45.block b hb]
  · have k1 : KeepQ (fun b => w5.heap.size ≤ b) w6 (w6.alloc o) := fun p u _ hp => (KeepC.of_below ((Below.refl w6.heap.size w6).alloc (Nat.le_refl _) o)) p u hp
    have k2 : KeepQ (fun b => w5.heap.size ≤ b) (w6.alloc o) w8 := KeepQ.of_grown hg fun b hb e => by have := hvlt b e.symm; omega
    have k3 : KeepQ (fun b => w5.heap.size ≤ b) w8 (w8.setCell ⟨w4.heap.size, 7, none⟩ u) := KeepQ.of_set fun b hb => by simp only; omega
    exact (hQ.keep ((k1.trans k2).trans k3) fun _ h => h).out
theorem setCell_comm (w : World) (p q : Addr) (h : p.block ≠ q.block) (u v : Value) : (w.setCell p u).setCell q v = (w.setCell q v).setCell p u := by
  unfold World.setCell
  simp only [World.mk.injEq, and_true]
  apply Array.ext_getElem?
  intro i
  simp only [Array.getElem?_modify]
  by_cases h1 : q.block = i
  · have h2 : ¬ p.block = i := fun e => h (e.trans h1.symm)
    simp only [h1, h2, if_true, if_false]
  · simp only [h1, if_false]
theorem rowq_par {x : TRow} {k : Int} (hk : wfi k) : ∀ (Q : Nat → Prop) (w : World) (cs : List Value), RowQ Q w cs x → RowQ Q w (cs.set 0 (.int .i64 k)) { x with par := k } := by
  rintro Q w cs ⟨vb, ve, rfl, h1, h2, h3, h4⟩
  exact ⟨vb, ve, rfl, h1, h2, hk, h4⟩
theorem rowq_guard {x : TRow} {k : Int} (hk : wfi k) : ∀ (Q : Nat → Prop) (w : World) (cs : List Value), RowQ Q w cs x → RowQ Q w (cs.set 6 (.int .i64 k)) { x with guard := k } := by
  rintro Q w cs ⟨vb, ve, rfl, h1, h2, h3, h4, h5, h6, h7⟩
  exact ⟨vb, ve, rfl, h1, h2, h3, h4, h5, h6, hk⟩
/-- a table of one's own, its blocks from lo to hi, as they were made -/
def TwinZ (w : World) (lo hi : Nat) (T : TTab) (vk vkk vs vc : Value) : Prop :=
  ∃ wa, TwinM lo wa T vk vkk vs vc ∧ wa.heap.size = hi ∧ hi ≤ w.heap.size ∧ ∀ b, lo ≤ b → b < hi → w.heap[b]? = wa.heap[b]?
section
variable {w w' : World} {lo hi : Nat} {T : TTab} {vk vkk vs vc : Value}
theorem TwinZ.new (h : TwinM lo w T vk vkk vs vc) : TwinZ w lo w.heap.size T vk vkk vs vc := ⟨w, h, rfl, Nat.le_refl _, fun _ _ _ => rfl⟩
theorem TwinZ.below {B : Nat} (h : TwinZ w lo hi T vk vkk vs vc) (hb : Below B w w') (hB : hi ≤ B) : TwinZ w' lo hi T vk vkk vs vc := by
  obtain ⟨wa, h1, h2, h3, h4⟩ := h
  exact ⟨wa, h1, h2, Nat.le_trans h3 hb.size, fun b hl hh => (hb.block b (by omega)).trans (h4 b hl hh)⟩
theorem TwinZ.set (h : TwinZ w lo hi T vk vkk vs vc) {a : Addr} (ha : a.block < lo ∨ hi ≤ a.block) (u : Value) : TwinZ (w.setCell a u) lo hi T vk vkk vs vc := by
  obtain ⟨wa, h1, h2, h3, h4⟩ := h
  exact ⟨wa, h1, h2, by simpa [World.setCell] using h3, fun b hl hh => (Below.heap_setCell w a u b (by omega)).trans (h4 b hl hh)⟩
theorem TwinM.move {B : Nat} {w w' : World} {T : TTab} {vk vkk vs vc : Value} (h : TwinM B w T vk vkk vs vc) (hk : ∀ b, B ≤ b → b < w.heap.size → w'.heap[b]? = w.heap[b]?) (hs : w.heap.size ≤ w'.heap.size) : TwinM B w' T vk vkk vs vc := by
  obtain ⟨cr, ho, hf⟩ := h.rows
  obtain ⟨cc, ho2, hf2⟩ := h.codes
  have kq : KeepQ (QB B vs vc w) w w' := fun p u hq hp => (World.cell?_of_block (hk p.block hq.1 hq.2.1)).trans hp
  have hq : ∀ b, QB B vs vc w b → QB B vs vc w' b := fun b hq => ⟨hq.1, Nat.lt_of_lt_of_le hq.2.1 hs, hq.2.2⟩
  have mv : ∀ {e s n v xs}, w.ownsRow B e s v n xs → w'.ownsRow B e s v n xs := fun {e s n v xs} ho => by
    refine ⟨ho.1, ?_⟩
    rcases ho.2 with h1 | ⟨g, cap, cur, hv, hB, hh, hr⟩
    · exact .inl h1
    · exact .inr ⟨g, cap, cur, hv, hB, (hk g hB (Array.getElem?_eq_some_iff.1 hh).1).trans hh, hr⟩
  exact ⟨h.keys.keep kq hq fun _ _ h => h, h.kinds.keep kq hq fun _ _ h => h.keep kq hq, ⟨cr, mv ho, hf.keep fun _ _ h => h.keep kq hq⟩, ⟨cc, mv ho2, hf2.keep fun _ _ h => h.keep kq hq⟩, h.apart, h.ok⟩
theorem TwinZ.here (h : TwinZ w lo hi T vk vkk vs vc) : TwinM lo w T vk vkk vs vc := by
  obtain ⟨wa, h1, h2, h3, h4⟩ := h
  exact h1.move (fun b hl hh => h4 b hl (by omega)) (by omega)
end
theorem TwinZ.store {w : World} {lo hi : Nat} {T : TTab} {vk vkk vs vc : Value} (h : TwinZ w lo hi T vk vkk vs vc) {k : Nat} {x x' : TRow} (hx : T.states[k]? = some x) (f : Nat) (hf : f < 8) (u : Value)
    (hr : ∀ (Q : Nat → Prop) (w : World) (cs : List Value), RowQ Q w cs x → RowQ Q w (cs.set f u) x') :
    ∃ g cap u0, vs = .slice (some ⟨g, 0, none⟩) T.states.length cap ∧ lo ≤ g ∧ g < hi ∧ w.cell? ⟨g, k * 8 + f, none⟩ = some u0 ∧ w.frozen? ⟨g, k * 8 + f, none⟩ = false ∧ T.states.length ≤ cap ∧ cap ≤ maxLen ∧
      TabX (w.setCell ⟨g, k * 8 + f, none⟩ u) { T with states := T.states.set k x' } vk vkk vs vc := by
  obtain ⟨g, cap, u0, hv, h1, h2, h3, h4, h5, h6⟩ := h.here.store hx f hf u hr
  refine ⟨g, cap, u0, hv, h1, ?_, h2, h3, h4, h5, h6⟩
  obtain ⟨wa, m, hs, _, _⟩ := h
  obtain ⟨cr, ho, _⟩ := m.rows
  have := (own_lt ho (g := g) (by rw [hv]; rfl)).1
  omega
def set8 (w : World) (g : Nat) (v0 v1 v2 v3 v4 v5 v6 v7 : Value) : World := ((((((((w.setCell ⟨g, 0, none⟩ v0).setCell ⟨g, 1, none⟩ v1).setCell ⟨g, 2, none⟩ v2).setCell ⟨g, 3, none⟩ v3).setCell ⟨g, 4, none⟩ v4).setCell ⟨g, 5, none⟩ v5).setCell ⟨g, 6, none⟩ v6).setCell ⟨g, 7, none⟩ v7)
theorem Blk.set8 {w : World} {g : Nat} {t : TypeId} {a0 a1 a2 a3 a4 a5 a6 a7 : Value} (h : Blk w g t #[a0, a1, a2, a3, a4, a5, a6, a7]) (v0 v1 v2 v3 v4 v5 v6 v7 : Value) : Blk (set8 w g v0 v1 v2 v3 v4 v5 v6 v7) g t #[v0, v1, v2, v3, v4, v5, v6, v7] := by
  have h0 : Blk _ g t #[v0, a1, a2, a3, a4, a5, a6, a7] := h.set_ 0 v0
  have h1 : Blk _ g t #[v0, v1, a2, a3, a4, a5, a6, a7] := h0.set_ 1 v1
  have h2 : Blk _ g t #[v0, v1, v2, a3, a4, a5, a6, a7] := h1.set_ 2 v2
  have h3 : Blk _ g t #[v0, v1, v2, v3, a4, a5, a6, a7] := h2.set_ 3 v3
  have h4 : Blk _ g t #[v0, v1, v2, v3, v4, a5, a6, a7] := h3.set_ 4 v4
  have h5 : Blk _ g t #[v0, v1, v2, v3, v4, v5, a6, a7] := h4.set_ 5 v5
  have h6 : Blk _ g t #[v0, v1, v2, v3, v4, v5, v6, a7] := h5.set_ 6 v6
  have h7 : Blk _ g t #[v0, v1, v2, v3, v4, v5, v6, v7] := h6.set_ 7 v7
  exact h7
theorem Blk.far8 {w : World} {g g' : Nat} {t : TypeId} {cs : Array Value} (h : Blk w g' t cs) (hg : g' ≠ g) (v0 v1 v2 v3 v4 v5 v6 v7 : Value) : Blk (Go.Proofs.Ytioocaicmiggoaa.set8 w g v0 v1 v2 v3 v4 v5 v6 v7) g' t cs :=
  (((((((h.far (p := ⟨g, 0, none⟩) hg v0).far (p := ⟨g, 1, none⟩) hg v1).far (p := ⟨g, 2, none⟩) hg v2).far (p := ⟨g, 3, none⟩) hg v3).far (p := ⟨g, 4, none⟩) hg v4).far (p := ⟨g, 5, none⟩) hg v5).far (p := ⟨g, 6, none⟩) hg v6).far (p := ⟨g, 7, none⟩) hg v7
theorem TwinZ.set8 {w : World} {lo hi : Nat} {T : TTab} {vk vkk vs vc : Value} (h : TwinZ w lo hi T vk vkk vs vc) {g : Nat} (hg : g < lo ∨ hi ≤ g) (v0 v1 v2 v3 v4 v5 v6 v7 : Value) : TwinZ (Go.Proofs.Ytioocaicmiggoaa.set8 w g v0 v1 v2 v3 v4 v5 v6 v7) lo hi T vk vkk vs vc :=
  (((((((h.set (a := ⟨g, 0, none⟩) hg v0).set (a := ⟨g, 1, none⟩) hg v1).set (a := ⟨g, 2, none⟩) hg v2).set (a := ⟨g, 3, none⟩) hg v3).set (a := ⟨g, 4, none⟩) hg v4).set (a := ⟨g, 5, none⟩) hg v5).set (a := ⟨g, 6, none⟩) hg v6).set (a := ⟨g, 7, none⟩) hg v7
theorem below_set8 {B : Nat} {w0 w : World} (h : Below B w0 w) {g : Nat} (hg : B ≤ g) (v0 v1 v2 v3 v4 v5 v6 v7 : Value) : Below B w0 (set8 w g v0 v1 v2 v3 v4 v5 v6 v7) :=
  (((((((h.setCell (p := ⟨g, 0, none⟩) hg v0).setCell (p := ⟨g, 1, none⟩) hg v1).setCell (p := ⟨g, 2, none⟩) hg v2).setCell (p := ⟨g, 3, none⟩) hg v3).setCell (p := ⟨g, 4, none⟩) hg v4).setCell (p := ⟨g, 5, none⟩) hg v5).setCell (p := ⟨g, 6, none⟩) hg v6).setCell (p := ⟨g, 7, none⟩) hg v7
theorem size_set8 (w : World) (g : Nat) (v0 v1 v2 v3 v4 v5 v6 v7 : Value) : (set8 w g v0 v1 v2 v3 v4 v5 v6 v7).heap.size = w.heap.size := by unfold set8; simp [World.setCell]
theorem pick_any (a : Int) (n : Nat) (h1 : 1 ≤ (n : Int)) (h2 : (n : Int) ≤ 9223372036854775807) : ∃ k : Nat, wrap64 ((IntKind.u64.wrap a).tmod (n : Int)) = (k : Int) ∧ k < n := by
  have hu : 0 ≤ IntKind.u64.wrap a := by
    show 0 ≤ a % 18446744073709551616
    omega
  obtain ⟨b, hb⟩ : ∃ b, IntKind.u64.wrap a = b := ⟨_, rfl⟩
  rw [hb] at hu ⊢
  rw [Int.tmod_eq_emod_of_nonneg hu]
  have h3 : 0 ≤ b % (n : Int) := Int.emod_nonneg _ (by omega)
  have h4 : b % (n : Int) < (n : Int) := Int.emod_lt_of_pos _ (by omega)
  exact ⟨(b % (n : Int)).toNat, by rw [IntWalk.wrap64_in _ ⟨by omega, by omega⟩]; omega, by omega⟩
end Go.Proofs.Ytioocaicmiggoaa

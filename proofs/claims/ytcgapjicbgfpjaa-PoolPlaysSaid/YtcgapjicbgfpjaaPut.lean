/-
  The walk of put: where a number is free.
-/
import Derived.Test.YtcgapjicbgfpjaaCells
namespace Go.Proofs.Ytcgapjicbgfpjaa
set_option linter.unusedVariables false
set_option linter.unusedSimpArgs false
open Go.RowKit Go.Maps

attribute [local go_sem ↓] Go.wp_at_zero Go.wp_at_succ
def PutPost (T : Nat → Prop) (w : World) (P : Nat) (S : St) (m : Int) (M : Nat) (D : DataW Unit) (res : Nat) (e : Ending) (w' : World) : Prop :=
  e = .returned (.int .i64 res) ∧ ∃ A1 A2 c1 c2 xs, PoolX T w' P S m A1 A2 c1 c2 M xs D ∧ KeptT T w w'
section
variable {T : Nat → Prop} {w : World} {P : Nat} {S : St} {m : Int} {A1 A2 : Option Addr} {c1 c2 M : Nat} {xs : List Cl} {D : DataW Unit}
theorem put_world {g1 g2 q : Nat} (h : PoolX T w P S m (some ⟨g1, 0, none⟩) (some ⟨g2, 0, none⟩) c1 c2 M xs D) (hq : q < S.length) (c : Cl) (o : Obj) :
    PoolX T ((((set5 w g1 q c).setCell ⟨g2, q, none⟩ (.bool false)).alloc o).drew) P (S.set q (some c)) m (some ⟨g1, 0, none⟩) (some ⟨g2, 0, none⟩) c1 c2 M (xs.set q c) D ∧ KeptT T w ((((set5 w g1 q c).setCell ⟨g2, q, none⟩ (.bool false)).alloc o).drew) := by
  have hP1 : g1 ≠ P := fun e => own_blk_ne h.all h.blk (by decide) (by simp [Value.ownBlock, e])
  have hP2 : g2 ≠ P := fun e => own_blk_ne h.free h.blk (by decide) (by simp [Value.ownBlock, e])
  have h12 : g1 ≠ g2 := fun e => own_ne h.all h.free (by decide) (g := g1) rfl (by simp [Value.ownBlock, e])
  have hM1 : g1 ≠ M := fun e => own_map_ne h.all h.at_ (by simp [Value.ownBlock, e])
  have hM2 : g2 ≠ M := fun e => own_map_ne h.free h.at_ (by simp [Value.ownBlock, e])
  have hxl : q < xs.length := by rw [h.len]; exact hq
  obtain ⟨W1, hW1⟩ : ∃ W1, set5 w g1 q c = W1 := ⟨_, rfl⟩
  have e1 : ∀ b, b ≠ g1 → W1.heap[b]? = w.heap[b]? := fun b h1 => by rw [← hW1]; exact heap_set5 w g1 q c b h1
  have s1 : W1.heap.size = w.heap.size := by rw [← hW1]; exact size_set5 w g1 q c
  have o1 := own_set5 c h.all hxl
  have K1 : KeptT T w W1 := by rw [← hW1]; exact kept_set5 (KeptT.refl T w) (h.tA _ rfl)
  rw [hW1] at o1 ⊢
  have o2 : W1.ownsRow 0 4 1 (.slice (some ⟨g2, 0, none⟩) S.length c2) S.length (S.map fun o => .bool o.isNone) := by
    refine ⟨h.free.1, ?_⟩
    rcases h.free.2 with h1 | ⟨g, cap, cur, hv, hb, hh, hr⟩
    · exact .inl h1
    · refine .inr ⟨g, cap, cur, hv, hb, ?_, hr⟩
      injection hv with hv; injection hv with hv; injection hv with hv
      subst hv
      rw [e1 g2 h12.symm]; exact hh
  have o3 := (o2.stored q (.bool false)).1
  have o4 := o1.kept (only_setCell (p := ⟨g2, q, none⟩) (World.grownBy.refl W1 (some g2)) (.inl rfl) (.bool false)) (.inr (by simp [Value.ownBlock, h12]))
  have e2 : ∀ b, b ≠ g2 → (W1.setCell ⟨g2, q, none⟩ (.bool false)).heap[b]? = W1.heap[b]? := fun b h2 => Below.heap_setCell W1 ⟨g2, q, none⟩ _ b h2
  have K2 : KeptT T w (W1.setCell ⟨g2, q, none⟩ (.bool false)) := K1.setCell (p := ⟨g2, q, none⟩) (h.tB ⟨g2, 0, none⟩ rfl) _
  obtain ⟨W2, hW2⟩ : ∃ W2, W1.setCell ⟨g2, q, none⟩ (.bool false) = W2 := ⟨_, rfl⟩
  rw [hW2] at o3 o4 e2 K2 ⊢
  have hlen : (S.set q (some c)).length = S.length := by simp
  have hX : PoolX T W2 P (S.set q (some c)) m (some ⟨g1, 0, none⟩) (some ⟨g2, 0, none⟩) c1 c2 M (xs.set q c) D := by
    refine ⟨?_, ?_, ?_, ?_, by simp [h.len], ?_, h.tP, h.tM, h.tA, h.tB⟩
    · rw [hlen]; exact (e2 P hP2.symm).trans ((e1 P hP1.symm).trans h.blk)
    · rw [hlen]; exact o4
    · rw [hlen, List.map_set]; exact o3
    · obtain ⟨es, clock, hb, F, hs, ee⟩ := h.at_
      exact ⟨es, clock, (e2 M hM2.symm).trans ((e1 M hM1.symm).trans hb), F, hs, ee⟩
    · intro i c' hc'
      by_cases hi : q = i
      · subst hi
        rw [at_set_same hq] at hc'
        injection hc' with hc'; subst hc'
        exact List.getElem?_set_self hxl
      · rw [at_set_other hi] at hc'
        rw [List.getElem?_set_ne hi]
        exact h.live i c' hc'
  exact ⟨(hX.keep (w' := W2.alloc o) fun g hg _ => Below.heap_alloc W2 o g hg).keep fun _ _ _ => rfl, (K2.alloc o).drew⟩

set_option maxHeartbeats 2000000 in
theorem put_free (h : PoolX T w P S m A1 A2 c1 c2 M xs D) (hS : S.length ≤ 1000000) (q : Nat) (hq : q < S.length) (hn : at? S q = none) (hb : ∀ j, j < q → (at? S j).isSome = true) (c : Cl) :
    Calls Try.prog 25 #[.pointer (some ⟨P, 0, none⟩), cvv c] w (PutPost T w P (S.set q (some c)) m M D q) := by
  have k0 := h.k0
  have k1 := h.k1
  obtain ⟨g2, rfl, hc0, hf2⟩ := h.freeAt hq
  clear hc0
  obtain ⟨g1, rfl⟩ := own_form h.all (by omega)
  have hl1 : g1 < w.heap.size := (h.all.lt g1 rfl).2
  have hl2 : g2 < w.heap.size := (h.free.lt g2 rfl).2
  have hlP : P < w.heap.size := h.blk.lt
  obtain ⟨x, hx⟩ : ∃ x, xs[q]? = some x := ⟨_, List.getElem?_eq_getElem (by rw [h.len]; exact hq)⟩
  have hj : ∀ j, j < 5 → w.cell? ⟨g1, q * 5 + j, none⟩ = x.cells[j]? := fun j hj => by
    rw [h.all.cellAt (q * 5 + j) (by omega)]
    exact flat_cells xs q j x hx hj
  have p0 : w.cell? ⟨g1, q * 5, none⟩ = some (.int .i64 x.prev) := hj 0 (by omega)
  have p1 : w.cell? ⟨g1, q * 5 + 1, none⟩ = some (.int .i64 x.event) := hj 1 (by omega)
  have p2 : w.cell? ⟨g1, q * 5 + 2, none⟩ = some (.bool x.fresh) := hj 2 (by omega)
  have p3 : w.cell? ⟨g1, q * 5 + 3, none⟩ = some (.int .i64 x.own) := hj 3 (by omega)
  have p4 : w.cell? ⟨g1, q * 5 + 4, none⟩ = some (.int .i64 x.behind) := hj 4 (by omega)
  have hf1 := h.all.frozenAt
  have ne : g1 ≠ g2 := fun e => own_ne h.all h.free (by decide) (g := g1) rfl (by simp [Value.ownBlock, e])
  have ne' : g2 ≠ g1 := ne.symm
  have fc : ∀ j, j < S.length → w.cell? ⟨g2, j, none⟩ = some (.bool (at? S j).isNone) := fun j hj => by
    obtain ⟨g, e, hc, _⟩ := h.freeAt hj
    injection e with e; injection e with e
    subst e; exact hc
  have FC := Lib.hid fc
  have FB := Lib.hid hb
  have HP := Lib.hid (put_world h hq c (.cells #[.int .i64 c.prev, .int .i64 c.event, .bool c.fresh, .int .i64 c.own, .int .i64 c.behind] 61))
  have HN := Lib.hid hn
  unfold set5 at HP
  clear fc hb h hn hj hx
  unfold cvv
  go_enter Try.func25, Try.ntmps25
  go_wp2_with fail
  go_loop [12] (fun i => ∃ k : Nat, k ≤ q ∧ i = .int .i64 k) (fun i => q + 1 - (intOf i).toNat)
  case atStart => exact ⟨0, Nat.zero_le _, rfl⟩
  case round =>
    obtain ⟨k, hk, rfl⟩ := hrel
    have hkl : k < S.length := by omega
    have hc := FC.out k hkl
    by_cases hlt : k < q
    · have e : (at? S k).isNone = false := by
        have := FB.out k hlt
        cases hh : at? S k with
        | none => rw [hh] at this; cases this
        | some c => rfl
      rw [e] at hc
      clear e
      go_wp2_with fail
      go_round
      case rel => exact ⟨k + 1, by omega, by go_num⟩
      case measure => simp [intOf]; omega
    · obtain rfl : q = k := by omega
      rw [HN.out] at hc
      have hc : w.cell? ⟨g2, q, none⟩ = some (.bool true) := hc
      have b0 : (0 : Int) ≤ (q : Int) := by omega
      have b1 : (q : Int) < (S.length : Int) := by omega
      go_wp2_with fail
      refine wp_region_any (by kernel_rfl) ?_
      change wpAny _ _ _ _ _ _ _ (World.drew _)
      refine wpAny_take (i := 0) (v := ?_) rfl (by kernel_rfl) (by kernel_rfl) (by kernel_rfl) (fun _ _ _ h => h) (Or.inl ⟨by kernel_rfl, ?_⟩) ?_
      rotate_left
      · (intro w'; go_simp; try with_reducible rfl)
      refine wpAny_take (i := 1) (v := ?_) rfl (by kernel_rfl) (by kernel_rfl) (by kernel_rfl) (fun _ _ _ h => h) (Or.inl ⟨by kernel_rfl, ?_⟩) ?_
      rotate_left
      · (intro w'; go_simp; try with_reducible rfl)
      refine wpAny_take (i := 2) (v := ?_) rfl (by kernel_rfl) (by kernel_rfl) (by kernel_rfl) (fun _ _ _ h => h) (Or.inl ⟨by kernel_rfl, ?_⟩) ?_
      rotate_left
      · (intro w'; go_simp; try with_reducible rfl)
      refine wpAny_take (i := 4) (v := ?_) rfl (by kernel_rfl) (by kernel_rfl) (by kernel_rfl) (fun _ _ _ h => h) (Or.inl ⟨by kernel_rfl, ?_⟩) ?_
      rotate_left
      · (intro w'; go_simp; try with_reducible rfl)
      refine wpAny_take (i := 5) (v := ?_) rfl (by kernel_rfl) (by kernel_rfl) (by kernel_rfl) (fun _ _ _ h => h) (Or.inl ⟨by kernel_rfl, ?_⟩) ?_
      rotate_left
      · (intro w'; go_simp; try with_reducible rfl)
      refine wpAny_take (i := 6) (v := ?_) rfl (by kernel_rfl) (by kernel_rfl) (by kernel_rfl) (fun _ _ _ h => h) (Or.inl ⟨by kernel_rfl, ?_⟩) ?_
      rotate_left
      · (intro w'; go_simp; try with_reducible rfl)
      refine wpAny_take (i := 7) (v := ?_) rfl (by kernel_rfl) (by kernel_rfl) (by kernel_rfl) (fun _ _ _ h => h) (Or.inl ⟨by kernel_rfl, ?_⟩) ?_
      rotate_left
      · (intro w'; go_simp; try with_reducible rfl)
      refine wpAny_take (i := 9) (v := ?_) rfl (by kernel_rfl) (by kernel_rfl) (by kernel_rfl) (fun _ _ _ h => h) (Or.inl ⟨by kernel_rfl, ?_⟩) ?_
      rotate_left
      · (intro w'; go_simp; try with_reducible rfl)
      refine wpAny_ready (rs := [3, 8, 10]) (by kernel_rfl) (by simp) ?_
      refine AllReady.cons rfl (fun K hK => ?_) ?_
      · skip
        go_simp
        (refine hK _ _ ?_; clear hK K)
        refine wpAny_ready (rs := [8, 10]) (by kernel_rfl) (by simp) ?_
        refine AllReady.cons rfl (fun K hK => ?_) ?_
        · skip
          go_simp
          (refine hK _ _ ?_; clear hK K)
          refine wpAny_ready (rs := [10]) (by kernel_rfl) (by simp) ?_
          refine AllReady.cons rfl (fun K hK => ?_) AllReady.nil
          go_simp
          (refine hK _ _ ?_; clear hK K)
          refine wpAny_take (i := 11) (v := ?_) rfl (by kernel_rfl) (by kernel_rfl) (by kernel_rfl) (fun _ _ _ h => h) (Or.inl ⟨by kernel_rfl, ?_⟩) ?_
          rotate_left
          · (intro w'; go_simp; try with_reducible rfl)
          refine wpAny_ready (rs := [12]) (by kernel_rfl) (by simp) ?_
          refine AllReady.cons rfl (fun K hK => ?_) AllReady.nil
          go_simp
          (refine hK _ _ ?_; clear hK K)
          refine wpAny_take (i := 13) (v := ?_) rfl (by kernel_rfl) (by kernel_rfl) (by kernel_rfl) (fun _ _ _ h => h) (Or.inl ⟨by kernel_rfl, ?_⟩) ?_
          rotate_left
          · (intro w'; go_simp; try with_reducible rfl)
          refine wpAny_ready (rs := [14]) (by kernel_rfl) (by simp) ?_
          refine AllReady.cons rfl (fun K hK => ?_) AllReady.nil
          go_simp
          (refine hK _ _ ?_; clear hK K)
          refine wpAny_done (by kernel_rfl) ?_ _
          go_simp
          go_wp2_with fail
          go_ret
          exact ⟨rfl, _, _, _, _, _, HP.out⟩
        refine AllReady.cons rfl (fun K hK => ?_) AllReady.nil
        go_simp
        (refine hK _ _ ?_; clear hK K)
        refine wpAny_ready (rs := [8]) (by kernel_rfl) (by simp) ?_
        refine AllReady.cons rfl (fun K hK => ?_) AllReady.nil
        go_simp
        (refine hK _ _ ?_; clear hK K)
        refine wpAny_take (i := 11) (v := ?_) rfl (by kernel_rfl) (by kernel_rfl) (by kernel_rfl) (fun _ _ _ h => h) (Or.inl ⟨by kernel_rfl, ?_⟩) ?_
        rotate_left
        · (intro w'; go_simp; try with_reducible rfl)
        refine wpAny_ready (rs := [12]) (by kernel_rfl) (by simp) ?_
        refine AllReady.cons rfl (fun K hK => ?_) AllReady.nil
        go_simp
        (refine hK _ _ ?_; clear hK K)
        refine wpAny_take (i := 13) (v := ?_) rfl (by kernel_rfl) (by kernel_rfl) (by kernel_rfl) (fun _ _ _ h => h) (Or.inl ⟨by kernel_rfl, ?_⟩) ?_
        rotate_left
        · (intro w'; go_simp; try with_reducible rfl)
        refine wpAny_ready (rs := [14]) (by kernel_rfl) (by simp) ?_
        refine AllReady.cons rfl (fun K hK => ?_) AllReady.nil
        go_simp
        (refine hK _ _ ?_; clear hK K)
        refine wpAny_done (by kernel_rfl) ?_ _
        go_simp
        go_wp2_with fail
        go_ret
        exact ⟨rfl, _, _, _, _, _, HP.out⟩
      refine AllReady.cons rfl (fun K hK => ?_) ?_
      · skip
        go_simp
        (refine hK _ _ ?_; clear hK K)
        refine wpAny_ready (rs := [3, 10]) (by kernel_rfl) (by simp) ?_
        refine AllReady.cons rfl (fun K hK => ?_) ?_
        · skip
          go_simp
          (refine hK _ _ ?_; clear hK K)
          refine wpAny_ready (rs := [10]) (by kernel_rfl) (by simp) ?_
          refine AllReady.cons rfl (fun K hK => ?_) AllReady.nil
          go_simp
          (refine hK _ _ ?_; clear hK K)
          refine wpAny_take (i := 11) (v := ?_) rfl (by kernel_rfl) (by kernel_rfl) (by kernel_rfl) (fun _ _ _ h => h) (Or.inl ⟨by kernel_rfl, ?_⟩) ?_
          rotate_left
          · (intro w'; go_simp; try with_reducible rfl)
          refine wpAny_ready (rs := [12]) (by kernel_rfl) (by simp) ?_
          refine AllReady.cons rfl (fun K hK => ?_) AllReady.nil
          go_simp
          (refine hK _ _ ?_; clear hK K)
          refine wpAny_take (i := 13) (v := ?_) rfl (by kernel_rfl) (by kernel_rfl) (by kernel_rfl) (fun _ _ _ h => h) (Or.inl ⟨by kernel_rfl, ?_⟩) ?_
          rotate_left
          · (intro w'; go_simp; try with_reducible rfl)
          refine wpAny_ready (rs := [14]) (by kernel_rfl) (by simp) ?_
          refine AllReady.cons rfl (fun K hK => ?_) AllReady.nil
          go_simp
          (refine hK _ _ ?_; clear hK K)
          refine wpAny_done (by kernel_rfl) ?_ _
          go_simp
          go_wp2_with fail
          go_ret
          exact ⟨rfl, _, _, _, _, _, HP.out⟩
        refine AllReady.cons rfl (fun K hK => ?_) AllReady.nil
        go_simp
        (refine hK _ _ ?_; clear hK K)
        refine wpAny_ready (rs := [3]) (by kernel_rfl) (by simp) ?_
        refine AllReady.cons rfl (fun K hK => ?_) AllReady.nil
        go_simp
        (refine hK _ _ ?_; clear hK K)
        refine wpAny_take (i := 11) (v := ?_) rfl (by kernel_rfl) (by kernel_rfl) (by kernel_rfl) (fun _ _ _ h => h) (Or.inl ⟨by kernel_rfl, ?_⟩) ?_
        rotate_left
        · (intro w'; go_simp; try with_reducible rfl)
        refine wpAny_ready (rs := [12]) (by kernel_rfl) (by simp) ?_
        refine AllReady.cons rfl (fun K hK => ?_) AllReady.nil
        go_simp
        (refine hK _ _ ?_; clear hK K)
        refine wpAny_take (i := 13) (v := ?_) rfl (by kernel_rfl) (by kernel_rfl) (by kernel_rfl) (fun _ _ _ h => h) (Or.inl ⟨by kernel_rfl, ?_⟩) ?_
        rotate_left
        · (intro w'; go_simp; try with_reducible rfl)
        refine wpAny_ready (rs := [14]) (by kernel_rfl) (by simp) ?_
        refine AllReady.cons rfl (fun K hK => ?_) AllReady.nil
        go_simp
        (refine hK _ _ ?_; clear hK K)
        refine wpAny_done (by kernel_rfl) ?_ _
        go_simp
        go_wp2_with fail
        go_ret
        exact ⟨rfl, _, _, _, _, _, HP.out⟩
      refine AllReady.cons rfl (fun K hK => ?_) AllReady.nil
      go_simp
      (refine hK _ _ ?_; clear hK K)
      refine wpAny_ready (rs := [3, 8]) (by kernel_rfl) (by simp) ?_
      refine AllReady.cons rfl (fun K hK => ?_) ?_
      · skip
        go_simp
        (refine hK _ _ ?_; clear hK K)
        refine wpAny_ready (rs := [8]) (by kernel_rfl) (by simp) ?_
        refine AllReady.cons rfl (fun K hK => ?_) AllReady.nil
        go_simp
        (refine hK _ _ ?_; clear hK K)
        refine wpAny_take (i := 11) (v := ?_) rfl (by kernel_rfl) (by kernel_rfl) (by kernel_rfl) (fun _ _ _ h => h) (Or.inl ⟨by kernel_rfl, ?_⟩) ?_
        rotate_left
        · (intro w'; go_simp; try with_reducible rfl)
        refine wpAny_ready (rs := [12]) (by kernel_rfl) (by simp) ?_
        refine AllReady.cons rfl (fun K hK => ?_) AllReady.nil
        go_simp
        (refine hK _ _ ?_; clear hK K)
        refine wpAny_take (i := 13) (v := ?_) rfl (by kernel_rfl) (by kernel_rfl) (by kernel_rfl) (fun _ _ _ h => h) (Or.inl ⟨by kernel_rfl, ?_⟩) ?_
        rotate_left
        · (intro w'; go_simp; try with_reducible rfl)
        refine wpAny_ready (rs := [14]) (by kernel_rfl) (by simp) ?_
        refine AllReady.cons rfl (fun K hK => ?_) AllReady.nil
        go_simp
        (refine hK _ _ ?_; clear hK K)
        refine wpAny_done (by kernel_rfl) ?_ _
        go_simp
        go_wp2_with fail
        go_ret
        exact ⟨rfl, _, _, _, _, _, HP.out⟩
      refine AllReady.cons rfl (fun K hK => ?_) AllReady.nil
      go_simp
      (refine hK _ _ ?_; clear hK K)
      refine wpAny_ready (rs := [3]) (by kernel_rfl) (by simp) ?_
      refine AllReady.cons rfl (fun K hK => ?_) AllReady.nil
      go_simp
      (refine hK _ _ ?_; clear hK K)
      refine wpAny_take (i := 11) (v := ?_) rfl (by kernel_rfl) (by kernel_rfl) (by kernel_rfl) (fun _ _ _ h => h) (Or.inl ⟨by kernel_rfl, ?_⟩) ?_
      rotate_left
      · (intro w'; go_simp; try with_reducible rfl)
      refine wpAny_ready (rs := [12]) (by kernel_rfl) (by simp) ?_
      refine AllReady.cons rfl (fun K hK => ?_) AllReady.nil
      go_simp
      (refine hK _ _ ?_; clear hK K)
      refine wpAny_take (i := 13) (v := ?_) rfl (by kernel_rfl) (by kernel_rfl) (by kernel_rfl) (fun _ _ _ h => h) (Or.inl ⟨by kernel_rfl, ?_⟩) ?_
      rotate_left
      · (intro w'; go_simp; try with_reducible rfl)
      refine wpAny_ready (rs := [14]) (by kernel_rfl) (by simp) ?_
      refine AllReady.cons rfl (fun K hK => ?_) AllReady.nil
      go_simp
      (refine hK _ _ ?_; clear hK K)
      refine wpAny_done (by kernel_rfl) ?_ _
      go_simp
      go_wp2_with fail
      go_ret
      exact ⟨rfl, _, _, _, _, _, HP.out⟩
end
end Go.Proofs.Ytcgapjicbgfpjaa

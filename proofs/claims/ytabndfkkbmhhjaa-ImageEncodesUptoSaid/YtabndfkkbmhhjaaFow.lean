/-
  Bytes of the call's own: a row, or a constant's bytes, to which the next append gives a row.
-/
import Derived.Test.YtabndfkkbmhhjaaSnu
namespace Go.Proofs.Ytabndfkkbmhhjaa
set_option linter.unusedVariables false
open Go.RowKit Go.Deep

def OwnB (B : Nat) (w : World) (v : Value) (l : List UInt8) : Prop :=
  w.ownsRow B 5 1 v l.length (bv l) ∨ ∃ g fz, v = .slice (some ⟨g, 0, none⟩) l.length l.length ∧ 0 < l.length ∧ B ≤ g ∧ w.heap[g]? = some (.cells (bv l).toArray 5 fz) ∧ l.length ≤ maxLen
section
variable {B : Nat} {w w' : World} {v : Value} {l : List UInt8}
theorem OwnB.lt (h : OwnB B w v l) {g : Nat} (hg : v.ownBlock = some g) : g < w.heap.size ∧ B ≤ g := by
  rcases h with h | ⟨g', fz, rfl, h1, h2, h3, _⟩
  · exact own_lt2 h hg
  · have : g' = g := by simpa [Value.ownBlock] using hg
    subst this
    exact ⟨(Array.getElem?_eq_some_iff.1 h3).1, h2⟩
theorem OwnB.below (h : OwnB B w v l) (hb : Below w.heap.size w w') : OwnB B w' v l := by
  rcases h with h | ⟨g, fz, hv, h1, h2, h3, h4⟩
  · exact .inl (own_below2 h hb)
  · exact .inr ⟨g, fz, hv, h1, h2, (hb.block g (Array.getElem?_eq_some_iff.1 h3).1).trans h3, h4⟩
theorem OwnB.ne (h : OwnB B w v l) {g : Nat} {t : TypeId} {cs : Array Value} (hg : Blk w g t cs) (hne : 5 ≠ t) : v.ownBlock ≠ some g := by
  rcases h with h | ⟨g', fz, rfl, h1, h2, h3, h4⟩
  · exact own_blk_ne h hg hne
  · intro e
    have : g' = g := by simpa [Value.ownBlock] using e
    subst this
    unfold Blk at hg
    rw [h3] at hg
    injection hg with hg
    injection hg with _ ht _
    exact hne ht
theorem OwnB.far (h : OwnB B w v l) {a : Addr} (ha : v.ownBlock ≠ some a.block) (u : Value) : OwnB B (w.setCell a u) v l := by
  rcases h with h | ⟨g, fz, rfl, h1, h2, h3, h4⟩
  · exact .inl (own_far2 h ha u)
  · exact .inr ⟨g, fz, rfl, h1, h2, (Below.heap_setCell w a u g (fun e => ha (by rw [← e]; rfl))).trans h3, h4⟩
theorem OwnB.slice (h : OwnB B w v l) : ∃ A c, v = .slice A l.length c ∧ l.length ≤ c ∧ c ≤ maxLen := by
  rcases h with h | ⟨g, fz, rfl, h1, h2, h3, h4⟩
  · obtain ⟨A, c, rfl⟩ := own_slice h
    exact ⟨A, c, rfl, own_caps h⟩
  · exact ⟨_, _, rfl, Nat.le_refl _, h4⟩
end
theorem run_append_b {w : World} {B : Nat} {v : Value} {l : List UInt8} (t ty : TypeId) (i : TypeInfo) (ht : Try.prog.underlying t = some (.slice 5)) (hi : Try.prog.info? 5 = some i) (hz : i.zero = some (.int .u8 0)) (hsize : i.size = 1) (hby : i.bytes = 1)
    (hown : OwnB B w v l) (Br : Nat) (A : Option Addr) (m c : Nat) (news : List UInt8) (hr : Reads w Br 1 A m (bv news)) (hm : 1 ≤ m) (hlen : l.length + m ≤ 70368744177664) (hbase : B ≤ w.heap.size) :
    ∃ v' w', (Builtin.append_ #[t, t] ty #[v, .slice A m c]).run Try.prog w = .ok v' w' ∧ w'.ownsRow B 5 1 v' (l.length + m) (bv l ++ bv news) ∧ w.grownBy w' v.ownBlock := by
  rcases hown with hown | ⟨g, fz, rfl, h1, h2, h3, h4⟩
  · obtain ⟨v', w', k1, k2, k3, _⟩ := run_append_any (P := Try.prog) w B t ty 5 i (.int .u8 0) 1 1 ht hi hz hsize hby rfl (by omega) v l.length (bv l) hown Br A m c (bv news) hr (bv_one _) (by unfold maxLen; omega) (by omega) hbase
    exact ⟨v', w', k1, k2, k3⟩
  · obtain ⟨ad, rfl, _, hc⟩ := hr.2 (by omega)
    have hl : (bv news).length = m := by have := hr.1; omega
    have ho : (bv l).length = l.length := bv_len l
    have holds : ∀ j u, (bv l)[j]? = some u → w.cell? ((⟨g, 0, none⟩ : Addr).add j) = some u := fun j u hu => by
      rw [Go.WideShapes.add_plain, Nat.zero_add, cell_of_row w g j _ _ _ h3]
      simpa using hu
    have hrun := run_append_grow (P := Try.prog) w t ty 5 i (.int .u8 0) ht hi hz ⟨g, 0, none⟩ l.length l.length (bv l) (by rw [hsize, ho]; omega) holds ad m c (bv news) (by rw [hsize, hl]; omega) hc (by omega) (by omega) (growslice_fits (by omega) (by rw [hby]; omega))
    refine ⟨_, _, hrun, ⟨by rw [List.length_append, ho, hl]; omega, .inr ⟨w.heap.size, _, _, rfl, hbase, heap_alloc_new w.drew _, grownCap_ge w _ _ _, grownCap_le_maxLen w _ _ _ (by unfold maxLen; omega), ?_, ?_⟩⟩, ⟨rfl, rfl, rfl, by simp, fun k hk _ => Below.heap_alloc w.drew _ k hk⟩⟩
    · have hge := grownCap_ge w (l.length + m) l.length 5
      simp only [Array.size_append, List.size_toArray, size_zeroCells, ho, hl, Value.cells]
      simp
      omega
    · simp only [Array.toList_append, List.append_assoc]
      rw [← List.append_assoc, show (l.length + m) * 1 = (bv l ++ bv news).length by rw [List.length_append, ho, hl]; omega]
      exact List.take_left
theorem step_append_b {w : World} {ops : Array Oper} {o : Oper} {a : Act} {K : Act → World → Prop} {Q : Exit → Act → World → Prop} {E : Prop} (hgd : o.guard = none) (s x : Operand) (t : TypeId)
    (ho : o.op = .call { callee := .builtin .append, args := #[s, x], argTypes := #[t, t] }) {B : Nat} {v : Value} {l : List UInt8} (i : TypeInfo) (ht : Try.prog.underlying t = some (.slice 5)) (hi : Try.prog.info? 5 = some i) (hz : i.zero = some (.int .u8 0)) (hsize : i.size = 1) (hby : i.bytes = 1)
    (hs : a.eval s = v) (hown : OwnB B w v l) (Br : Nat) (A : Option Addr) (m c : Nat) (news : List UInt8) (hx : a.eval x = .slice A m c) (hr : Reads w Br 1 A m (bv news)) (hm : 1 ≤ m) (hlen : l.length + m ≤ 70368744177664) (hbase : B ≤ w.heap.size)
    (h : ∀ v' w', w'.ownsRow B 5 1 v' (l.length + m) (bv l ++ bv news) → w.grownBy w' v.ownBlock → K (a.put o.dst v') w') :
    if Region.wanted o (yielded ops a.tmps) = true then Oper.wp Try.prog o a w K Q else E := by
  have hw : Region.wanted o (yielded ops a.tmps) = true := by simp [Region.wanted, hgd]
  rw [if_pos hw]
  obtain ⟨v', w', hrun, h2, h3⟩ := run_append_b t o.type i ht hi hz hsize hby hown Br A m c news hr hm hlen hbase
  unfold Oper.wp execOp
  simp only [ho, resolve, invoke, builtin, Sem.run_bind, Sem.run_pure, Result.andThen_ok, List.map_toArray, List.map_cons, List.map_nil, hs, hx, hrun]
  exact h v' w' h2 h3
end Go.Proofs.Ytabndfkkbmhhjaa

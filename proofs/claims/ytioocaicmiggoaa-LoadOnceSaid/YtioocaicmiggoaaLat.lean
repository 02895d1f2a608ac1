/-
  The walk of asker.attr.
-/
import Derived.Test.YtioocaicmiggoaaLgo
namespace Go.Proofs.Ytioocaicmiggoaa
set_option linter.unusedVariables false
set_option linter.unusedSimpArgs false
open Go.RowKit Go.Deep Go.Maps

theorem blk9 {w : World} {g : Nat} {t : TypeId} {a0 a1 a2 a3 a4 a5 a6 a7 a8 : Value} (h : Blk w g t #[a0, a1, a2, a3, a4, a5, a6, a7, a8]) :
    w.cell? ⟨g, 0, none⟩ = some a0 ∧ w.cell? ⟨g, 1, none⟩ = some a1 ∧ w.cell? ⟨g, 2, none⟩ = some a2 ∧ w.cell? ⟨g, 3, none⟩ = some a3 ∧ w.cell? ⟨g, 4, none⟩ = some a4 ∧ w.cell? ⟨g, 5, none⟩ = some a5 ∧ w.cell? ⟨g, 6, none⟩ = some a6 ∧ w.cell? ⟨g, 7, none⟩ = some a7 ∧ w.cell? ⟨g, 8, none⟩ = some a8 :=
  ⟨h.cell 0, h.cell 1, h.cell 2, h.cell 3, h.cell 4, h.cell 5, h.cell 6, h.cell 7, h.cell 8⟩
/-- the kind of an attribute; 0: there is none -/
def attrT (T : TTab) (k a : Int) : Int :=
  if 0 ≤ k then match T.kinds[k.toNat]? with
    | none => 0
    | some l => if a < -1 ∨ (l.length : Int) ≤ a then 0 else if a = -1 then 1 else l.getD a.toNat 0
  else 0
theorem attr_not {T : TTab} {k a : Int} (h : typedT T k = false) : attrT T k a = 0 := by
  unfold attrT
  by_cases hk : 0 ≤ k
  · rw [if_pos hk]
    unfold typedT at h
    rw [decide_eq_true hk, Bool.true_and, decide_eq_false_iff_not] at h
    rw [List.getElem?_eq_none (by omega)]
  · rw [if_neg hk]
theorem typed_yes {T : TTab} {k : Int} (h : typedT T k = true) : ∃ (q : Nat) (l : List Int), k = q ∧ q < T.kinds.length ∧ T.kinds[q]? = some l := by
  unfold typedT at h
  rw [Bool.and_eq_true, decide_eq_true_eq, decide_eq_true_eq] at h
  exact ⟨k.toNat, _, by omega, by omega, List.getElem?_eq_getElem (by omega)⟩
theorem attr_yes {T : TTab} {q : Nat} {l : List Int} (h : T.kinds[q]? = some l) (a : Int) : attrT T q a = if a < -1 ∨ (l.length : Int) ≤ a then 0 else if a = -1 then 1 else l.getD a.toNat 0 := by
  unfold attrT
  rw [if_pos (by omega), Int.toNat_natCast, h]
def IntP (w : World) (n : Int) (e : Ending) (w' : World) : Prop := e = .returned (.int .i64 n) ∧ Below w.heap.size w w'
set_option maxRecDepth 100000 in
set_option maxHeartbeats 4000000 in
theorem attr_any (T : TTab) (vk vkk vs vc : Value) (w : World) (h : TabX w T vk vkk vs vc) (g bM : Nat)
    (hB : Blk w g 62 #[.int .i64 T.strategy, vk, vkk, .int .i64 T.syms, .int .i64 T.runs, .int .i64 T.cells, vs, vc, .map (some bM)]) (k a : Int) :
    Calls Try.prog 72 #[.pointer (some ⟨g, 0, none⟩), .int .i64 k, .int .i64 a] w (IntP w (attrT T k a)) := by
  obtain ⟨A3, c3, rfl, hc5, hc6⟩ := h.kinds.slice
  unfold maxLen at hc6
  have CT := Lib.hid (typed_any T vk _ vs vc w h k)
  have HX := Lib.hid (fun W (hb : Below w.heap.size w W) => h.below hb)
  have HB := Lib.hid hB
  obtain ⟨k0, k1, k2, k3, k4, k5, k6, k7, k8⟩ := blk9 hB
  obtain ⟨r, hr⟩ : ∃ r, attrT T k a = r := ⟨_, rfl⟩
  have HR := Lib.hid hr
  rw [hr]
  obtain ⟨tb, htb⟩ : ∃ tb, typedT T k = tb := ⟨_, rfl⟩
  rw [htb] at CT
  have HTB := Lib.hid htb
  clear h hB hr htb
  go_enter Try.func72, Try.ntmps72
  go_wp2_with fail
  refine CT.out.mono ?_
  rintro e w2 ⟨rfl, hb2⟩
  have HB2 := Lib.hid hb2
  have BT2 := Lib.hid (HB.out.below hb2 HB.out.lt)
  clear hb2 k0 k1 k2 k3 k4 k5 k6 k7 k8 CT
  cases tb with
  | false =>
    have e : r = 0 := HR.out.symm.trans (attr_not HTB.out)
    have e := Lib.hid e
    go_wp2_with fail
    go_ret
    exact ⟨ret_int e.out.symm, HB2.out⟩
  | true =>
    obtain ⟨q, l, rfl, hq, hl⟩ := typed_yes HTB.out
    obtain ⟨b5, off5, c5, v5, hvv, _, _, q0, hls⟩ := intss_get (HX.out w2 HB2.out).kinds hl
    injection hvv with hv1 hv2 hv3
    subst hv1
    obtain ⟨A6, c6, rfl, hc9, hc10⟩ := hls.slice
    unfold maxLen at hc10
    have b1 : (0 : Int) ≤ (q : Int) := by omega
    have b2 : (q : Int) < (T.kinds.length : Int) := by omega
    have HA := Lib.hid ((attr_yes hl a).symm.trans HR.out)
    have HLS := Lib.hid hls
    obtain ⟨k0, k1, k2, k3, k4, k5, k6, k7, k8⟩ := blk9 BT2.out
    clear hls hl hv2 hv3
    by_cases h1 : a < -1
    · have e : Hid (r = 0) := Lib.hid (by rw [← HA.out, if_pos (.inl h1)])
      go_wp2_with fail
      go_ret
      exact ⟨ret_int e.out.symm, HB2.out⟩
    · by_cases h2 : (l.length : Int) ≤ a
      · have e : Hid (r = 0) := Lib.hid (by rw [← HA.out, if_pos (.inr h2)])
        go_wp2_with fail
        go_ret
        exact ⟨ret_int e.out.symm, HB2.out⟩
      · by_cases h3 : a = -1
        · have e : Hid (r = 1) := Lib.hid (by rw [← HA.out, if_neg (by omega), if_pos h3])
          have e1 : (a == -1) = true := by simpa using h3
          clear h3
          go_wp2_with fail
          go_ret
          exact ⟨ret_int e.out.symm, HB2.out⟩
        · have e1 : (a == -1) = false := by simpa using h3
          obtain ⟨n, rfl⟩ : ∃ n : Nat, a = n := ⟨a.toNat, by omega⟩
          obtain ⟨kv, hkv⟩ : ∃ kv, l[n]? = some kv := ⟨_, List.getElem?_eq_getElem (by omega)⟩
          obtain ⟨b8, off8, c8, hvv, _, _, p0, _⟩ := ints_get HLS.out hkv
          injection hvv with hv1 hv2 hv3
          subst hv1
          have e : Hid (r = kv) := Lib.hid (by rw [← HA.out, if_neg (by omega), if_neg h3, Int.toNat_natCast, List.getD_eq_getElem?_getD, hkv]; rfl)
          have b3 : (0 : Int) ≤ (n : Int) := by omega
          have b4 : (n : Int) < (l.length : Int) := by omega
          clear hkv hv2 hv3 h3
          go_wp2_with fail
          go_ret
          exact ⟨ret_int e.out.symm, HB2.out⟩
end Go.Proofs.Ytioocaicmiggoaa

/-
  The walks of the document's Used, and of the pool's Hold.
-/
import Derived.Test.YtcgapjicbgfpjaaRef
namespace Go.Proofs.Ytcgapjicbgfpjaa
set_option linter.unusedVariables false
set_option linter.unusedSimpArgs false
open Go.RowKit Go.Maps

theorem cnt_take {S : St} {r : Nat} (h : r < S.length) : cnt (S.take (r + 1)) = cnt (S.take r) + (if (at? S r).isSome then 1 else 0) := by
  unfold cnt
  rw [List.take_succ_eq_append_getElem h, List.countP_append]
  have e : at? S r = S[r] := by unfold at?; rw [List.getElem?_eq_getElem h]; rfl
  rw [e]
  simp
section
variable {w : World} {base B : Nat} {S : St} {m : Int} {v : Value}
theorem ref_used (h : RefX w base B S m v) (hS : S.length ≤ 1000000) :
    Calls Try.prog 21 #[.pointer (some ⟨B, 0, none⟩)] w fun e w' => e = .returned (.int .i64 (cnt S : Nat)) ∧ Below w.heap.size w w' := by
  have k0 := h.k0
  obtain ⟨A, c, rfl, hc1, hc2⟩ := h.slice
  unfold maxLen at hc2
  have HX := Lib.hid h
  have G0 := Lib.hid (Below.refl w.heap.size w)
  have hnn : (0 : Int) ≤ (S.length : Int) := by omega
  clear h
  go_enter Try.func21, Try.ntmps21
  go_wp2_with fail
  go_loopw [3, 11] (fun n t wr => ∃ r : Nat, r ≤ S.length ∧ t = .int .i64 r ∧ n = .int .i64 (cnt (S.take r) : Nat) ∧ Below w.heap.size w wr) (fun _ t _ => S.length - (intOf t).toNat)
  case atStart => exact ⟨0, Nat.zero_le _, rfl, by simp [cnt], G0.out⟩
  case round =>
    clear G0 k0
    obtain ⟨r, hr, rfl, rfl, hb⟩ := hrel
    have hle : cnt (S.take r) ≤ r := Nat.le_trans (cnt_le _) (by simp; omega)
    by_cases hlt : r < S.length
    · have HR := HX.out.stay hb
      have hcc := at_cases S hlt
      have HT := Lib.hid (cnt_take hlt)
      have HB := Lib.hid hb
      obtain ⟨o, ho⟩ : ∃ o, at? S r = o := ⟨_, rfl⟩
      rw [ho] at hcc HT
      obtain ⟨K, hK⟩ : ∃ K, cnt (S.take r) = K := ⟨_, rfl⟩
      rw [hK] at HT hle ⊢
      have b1 : (0 : Int) ≤ (r : Int) := by omega
      have b2 : (r : Int) < (S.length : Int) := by omega
      have hB1 := Lib.hid (fun o => hb.alloc hb.size o)
      clear ho hK hb
      cases o with
      | none =>
        obtain ⟨g, c', hv, _, _, _, _, _, q0, q1, q2, q3, q4, q5⟩ := HR.six hcc rfl
        injection hv with hv1 hv2 hv3
        subst hv1
        clear hcc HR hv2 hv3
        go_wp2_with fail
        go_roundw
        case rel => first | exact ⟨r + 1, by omega, by go_num, by rw [HT.out]; simp, hB1.out _⟩ | ((repeat apply Exists.intro); exact ⟨⟨r + 1, by omega, by go_num, by rw [HT.out]; simp, hB1.out _⟩, rfl⟩)
        case measure => simp [intOf]; omega
      | some d =>
        obtain ⟨g, c', hv, _, _, _, _, _, q0, q1, q2, q3, q4, q5⟩ := HR.six hcc rfl
        injection hv with hv1 hv2 hv3
        subst hv1
        clear hcc HR hv2 hv3
        go_wp2_with fail
        go_roundw
        case rel => first | exact ⟨r + 1, by omega, by go_num, by rw [HT.out]; simp, hB1.out _⟩ | ((repeat apply Exists.intro); exact ⟨⟨r + 1, by omega, by go_num, by rw [HT.out]; simp, hB1.out _⟩, rfl⟩)
        case measure => simp [intOf]; omega
    · have hrn : r = S.length := by omega
      have hge : (S.length : Int) ≤ (r : Int) := by omega
      have HE : cnt (S.take r) = cnt S := by rw [hrn, List.take_length]
      rw [HE]
      have HB := Lib.hid hb
      clear HE hb hrn hle
      go_wp2_with fail
      go_ret
      exact ⟨rfl, HB.out⟩
end
section
variable {T : Nat → Prop} {w : World} {P : Nat} {S : St} {m : Int} {A1 A2 : Option Addr} {c1 c2 M : Nat} {xs : List Cl} {D : DataW Unit}
theorem hold_no (h : PoolX T w P S m A1 A2 c1 c2 M xs D) (i : Int) (hS : S.length ≤ 1000000) (hh : hasB S i = false) :
    Calls Try.prog 18 #[.pointer (some ⟨P, 0, none⟩), .int .i64 i] w fun e w' => e = .returned (.bool false) ∧ w = w' := by
  have C := Lib.hid (has_any h i hS)
  rw [hh] at C
  clear h hh
  go_enter Try.func18, Try.ntmps18
  go_wp2_with fail
  refine C.out.mono ?_
  rintro e w' ⟨rfl, rfl⟩
  go_wp2_with fail
  go_ret
  exact ⟨rfl, rfl⟩
theorem hold_yes (h : PoolX T w P S m A1 A2 c1 c2 M xs D) (hd : DOk D S) (hu : Uniq S) (n : Nat) (c : Cl) (hS : S.length ≤ 1000000) (hc : at? S n = some c) (h0 : 0 ≤ c.own) (h1 : c.own < 1000000000) :
    Calls Try.prog 18 #[.pointer (some ⟨P, 0, none⟩), .int .i64 n] w fun e w' => e = .returned (.bool true) ∧ PoolW T w' P (S.set n (some { c with own := c.own + 1 })) m ∧ KeptT T w w' := by
  have C := Lib.hid (has_any h n hS)
  rw [has_nat, hc] at C
  have hn := at_lt hc
  have k0 := h.k0
  obtain ⟨g, rfl, hfz, _, _, _, q3, _⟩ := h.allAt hc
  have f3 := hfz (n * 5 + 3)
  have s1 : IntKind.i64.wrap (c.own + 1) = c.own + 1 := by rw [IntKind.wrap_i64]; omega
  have b1 : (0 : Int) ≤ (n : Int) := by omega
  have b2 : (n : Int) < (S.length : Int) := by omega
  have HE : Hid (PoolW T (w.setCell ⟨g, n * 5 + 3, none⟩ (.int .i64 (c.own + 1))) P (S.set n (some { c with own := c.own + 1 })) m ∧ KeptT T w (w.setCell ⟨g, n * 5 + 3, none⟩ (.int .i64 (c.own + 1)))) :=
    Lib.hid ⟨⟨_, _, _, _, _, _, _, set_field h hc 3 (.int .i64 (c.own + 1)) (by omega) (c' := { c with own := c.own + 1 }) rfl, dok_stay hd hu (turn_set hn _) hc rfl rfl rfl (cnt_stay hc)⟩, kept_field h _ _ (KeptT.refl T w)⟩
  clear h hc hfz hd hu
  go_enter Try.func18, Try.ntmps18
  go_wp2_with fail
  refine C.out.mono ?_
  rintro e w' ⟨rfl, rfl⟩
  go_wp2_with fail
  go_ret
  exact ⟨rfl, HE.out⟩
end
end Go.Proofs.Ytcgapjicbgfpjaa

import Derived.Test.YtmikopnfdldgnaaComp2
import Derived.Test.YtmikopnfdldgnaaMem
import Derived.Test.YtmikopnfdldgnaaTxt
import Derived.ShutString
namespace Go.Proofs.Ytmikopnfdldgnaa
set_option linter.unusedVariables false
set_option linter.unusedSimpArgs false
open Go.RowKit

theorem info5 : (Try.prog.info? 5).map (fun i => (i.zero, i.size, i.bytes)) = some (some (.int .u8 0), 1, 1) := by kernel_rfl

theorem text_start (c : Nat) (w : World) : (w.alloc (.cells #[.int .u8 35] 5)).ownsRow w.heap.size 5 1 (.slice (some ⟨w.heap.size, 0, none⟩) 1 1) (0 + 1) ((txt c 0).map fun b => Value.int .u8 b.toNat) :=
  ⟨rfl, .inr ⟨w.heap.size, 1, #[.int .u8 35], rfl, Nat.le_refl _, heap_alloc_new w _, by omega, by decide, rfl, rfl⟩⟩
theorem text_step {w : World} {B c j D : Nat} {v : Value} (hD : dgt c j = D) (h : w.ownsRow B 5 1 v (j + 1 + 1) (((txt c j).map fun b => Value.int .u8 b.toNat) ++ [.int .u8 (hexc D).toNat])) :
    w.ownsRow B 5 1 v (j + 1 + 1) ((txt c (j + 1)).map fun b => Value.int .u8 b.toNat) := by
  rw [txt_succ, List.map_append, hD]; exact h

set_option maxHeartbeats 1000000 in
theorem text_any (a : Int) (w : World) (h0 : 0 ≤ a) (h1 : a ≤ 18446744073709551615) :
    Calls Try.prog 39 #[.int .u64 a] w fun e w' => e = .returned (.string ⟨(txt (canon a).toNat 16).toArray⟩) ∧ Below w.heap.size w w' := by
  obtain ⟨i0, hi, hz0, hz1, hz2⟩ := info_parts info5
  obtain ⟨c, hc, hc2⟩ : ∃ c : Nat, (c : Int) = canon a ∧ c < 18446744073709551616 := ⟨(canon a).toNat, by have := canon_lo a h0; omega, by have := canon_hi a h1; omega⟩
  go_enter Try.func39, Try.ntmps39
  go_wp2_with fail
  go_loopw [3, 4] (fun v i wr => ∃ j : Nat, j ≤ 16 ∧ i = .int .i64 (60 - 4 * j) ∧ wr.ownsRow w.heap.size 5 1 v (j + 1) ((txt c j).map fun b => Value.int .u8 b.toNat) ∧ Below w.heap.size w wr) (fun _ i _ => (intOf i + 4).toNat)
  case atStart => exact ⟨0, by omega, rfl, text_start c w, (Below.refl _ _).alloc (Nat.le_refl _) _⟩
  case round =>
    obtain ⟨j, hj, rfl, hown, hbel⟩ := hrel
    by_cases hlt : j < 16
    · obtain ⟨D, hD⟩ : ∃ D, dgt c j = D := ⟨_, rfl⟩
      have hDl := dgt_lt c j
      have hd := dgt_bits c j hc2 hlt
      rw [hc, hD] at hd
      rw [hD] at hDl
      have HD := Lib.hid hD
      clear hD
      have hc' := Lib.hid hc
      clear hc
      have hz := hbel.size
      go_wp2_with (first
        | (go_at_call 17; refine (canon_any _ _ h0 h1).mono ?_; rintro e w' ⟨rfl, rfl⟩)
        | (at_builtin; refine wpList_append_any _ rfl (.tmp 10) (.tmp 17) _ rfl w.heap.size 5 i0 _ 1 1 Try.underlying48 hi hz0 hz1 hz2 rfl (by omega) _ (j + 1) _ rfl (hown.alloc _) (wr.heap.size + 1) (some ⟨wr.heap.size, 0, none⟩) 1 1 _ rfl (reads_one _ _ _ _) ?c1 ?c2 ?c3 ?c4 ?_; rotate_left 4; intro v1 w1 hown1 hg1 hat1; simp only [hex_lit D hDl] at hown1))
      case c1 => intro u hu; simp at hu; subst hu; rfl
      case c2 => unfold maxLen; omega
      case c3 => omega
      case c4 => simp; omega
      go_roundw
      case rel => exact ⟨j + 1, by omega, by go_num, text_step HD.out hown1, (hbel.alloc hbel.size _).grown hg1 (by simp; omega) (fun k hk => (hown.lt k hk).1)⟩
      case measure => simp [intOf]; omega
    · obtain rfl : j = 16 := by omega
      obtain ⟨g, cap, hv, hgb, hgl, hnc, hcm, hcells, hfr⟩ := own_shape hown (by omega)
      subst hv
      have hcv := own_text (P := Try.prog) (src := 48) (dst := 9) (cap := cap) (txt c 16) Try.underlying48 Try.underlying5 Try.underlying9 hcells (txt_len c 16)
      have HC := Lib.hid hc
      clear hc hown hcells hfr
      go_wp2
      go_ret
      exact ⟨by rw [← HC.out, Int.toNat_natCast]; rfl, hbel⟩

set_option maxHeartbeats 1000000 in
theorem rtext_any (a : Int) (w : World) (h0 : 0 ≤ a) (h1 : a ≤ 18446744073709551615) :
    Calls Try.prog 41 #[.int .u64 a] w fun e w' => e = .returned (.string ⟨(txt (canon a).toNat 16).toArray⟩) ∧ w = w' := by
  obtain ⟨c, hc, hc2⟩ : ∃ c : Nat, (c : Int) = canon a ∧ c < 18446744073709551616 := ⟨(canon a).toNat, by have := canon_lo a h0; omega, by have := canon_hi a h1; omega⟩
  rw [← hc, Int.toNat_natCast]
  go_enter Try.func41, Try.ntmps41
  go_wp2_with fail
  refine (rcanon_any _ _ h0 h1).mono ?_
  rintro e w' ⟨rfl, rfl⟩
  rw [← hc]
  clear hc
  go_wp2_with fail
  go_loop [0, 3, 4] (fun x s i => ∃ (j : Nat) (S : ByteArray) (X : Nat), j ≤ 16 ∧ Hid (S = ⟨(suf c j).toArray⟩) ∧ S.size ≤ 16 ∧ Hid (X = c / 16 ^ j) ∧ X < 18446744073709551616 ∧ x = .int .u64 X ∧ s = .string S ∧ i = .int .i64 j) (fun _ _ i => 16 - (intOf i).toNat)
  case atStart => exact ⟨0, ByteArray.empty, c, by omega, rfl, by decide, (by simp : c = c / 16 ^ 0), hc2, rfl, rfl, rfl⟩
  case round =>
    obtain ⟨j, S, X, hj, hS, hs, hX, hX2, rfl, rfl, rfl⟩ := hrel
    by_cases hlt : j < 16
    · have hd : X % 16 < 16 := Nat.mod_lt _ (by decide)
      obtain ⟨D, hD⟩ : ∃ D, D = X % 16 := ⟨_, rfl⟩
      have hd2 : (X : Int) % 16 = (D : Int) := by omega
      rw [← hD] at hd
      have HD := Lib.hid hD
      clear hD
      go_wp2_with fail
      go_round
      case rel => exact ⟨j + 1, _, X / 16, by omega, suf_step hlt hS.out hX.out HD.out, by rw [suf_step hlt hS.out hX.out HD.out, suf_size c _ (by omega)]; omega, (by rw [hX.out, Nat.pow_succ, Nat.div_div_eq_div_mul] : X / 16 = c / 16 ^ (j + 1)), by omega, by go_num, rfl, by go_num⟩
      case measure => simp [intOf]; omega
    · obtain rfl : j = 16 := by omega
      go_wp2
      go_ret
      exact ⟨ret_str (suf_end hS.out), rfl⟩
end Go.Proofs.Ytmikopnfdldgnaa

/-
  Bytes that read as a list, as a text; small facts on texts.
-/
import Derived.Test.YtabndfkkbmhhjaaTxs
namespace Go.Proofs.Ytabndfkkbmhhjaa
set_option linter.unusedVariables false
open Go.RowKit

theorem reads_text {w : World} {B n cap : Nat} {A : Option Addr} {l : List UInt8} (h : Reads w B 1 A n (bv l)) (hn : l.length = n) :
    (convert 31 9 (.slice A n cap)).run Try.prog w = .ok (.string ⟨l.toArray⟩) w := by
  subst hn
  rcases A with _ | a
  · have h0 : l.length = 0 := by
      rcases Nat.eq_zero_or_pos l.length with h0 | h0
      · exact h0
      · obtain ⟨ad, e, _⟩ := h.2 h0
        cases e
    obtain rfl : l = [] := List.eq_nil_of_length_eq_zero h0
    rw [run_convert_bytes_string w _ _ _ none _ _ Try.underlying31 Try.underlying5 Try.underlying9]
    rfl
  · refine run_convert_bytes_back w _ _ _ a cap l Try.underlying31 Try.underlying5 Try.underlying9 (fun j hj => ?_)
    obtain ⟨ad, e, _, hc⟩ := h.2 (by omega)
    injection e with e
    subst e
    exact hc j _ (bv_get l j hj)
theorem bytes_app (l m : List UInt8) : (⟨l.toArray⟩ : ByteArray) ++ ⟨m.toArray⟩ = ⟨(l ++ m).toArray⟩ := by
  apply ByteArray.ext
  simp
theorem Reads.take {w : World} {B n : Nat} {A : Option Addr} {l : List UInt8} (h : Reads w B 1 A n (bv l)) (hn : l.length = n) (m : Nat) (hm : m ≤ n) : Reads w B 1 A m (bv (l.take m)) := by
  refine ⟨by rw [bv_len, List.length_take]; omega, fun h0 => ?_⟩
  obtain ⟨ad, e, hb, hc⟩ := h.2 (by omega)
  refine ⟨ad, e, hb, fun j u hu => hc j u ?_⟩
  unfold bv at hu ⊢
  rw [List.getElem?_map, List.getElem?_take] at hu
  rw [List.getElem?_map]
  by_cases hj : j < m
  · rwa [if_pos hj] at hu
  · rw [if_neg hj] at hu; cases hu
theorem bv_drop (l : List UInt8) (k : Nat) : (bv l).drop k = bv (l.drop k) := by unfold bv; rw [List.map_drop]
theorem upto_yes (a b : Int) (A : Option Addr) (n c p R : Nat) (l : List UInt8) (w : World) (hn : l.length = n) (hp : p ≤ n) (hm : n ≤ 9223372036854775807) (hr : Rdr w R A n c p) (hR : Reads w R 1 A n (bv l)) (h : 0 < fstK (l.drop p) ∧ a ≤ zag (fstV (l.drop p)) ∧ zag (fstV (l.drop p)) ≤ b) :
    Calls Try.prog 66 #[.pointer (some ⟨R, 0, none⟩), .int .i64 a, .int .i64 b] w fun e w' => e = .returned (.tuple #[.int .i64 (zag (fstV (l.drop p))), .bool true]) ∧ w.grownBy w' (some R) ∧ Rdr w' R A n c (p + fstK (l.drop p)) :=
  (upto_any a b A n c p R l w hn hp hm hr hR).mono fun e w' ⟨he, hg, hr⟩ => by
    have hu : upOk (l.drop p) a b := h
    unfold upV at he
    unfold upK at hr
    rw [if_pos hu, decide_eq_true hu] at he
    rw [if_pos hu] at hr
    exact ⟨he, hg, hr⟩
theorem upto_no (a b : Int) (A : Option Addr) (n c p R : Nat) (l : List UInt8) (w : World) (hn : l.length = n) (hp : p ≤ n) (hm : n ≤ 9223372036854775807) (hr : Rdr w R A n c p) (hR : Reads w R 1 A n (bv l)) (h : ¬ (0 < fstK (l.drop p) ∧ a ≤ zag (fstV (l.drop p)) ∧ zag (fstV (l.drop p)) ≤ b)) :
    Calls Try.prog 66 #[.pointer (some ⟨R, 0, none⟩), .int .i64 a, .int .i64 b] w fun e w' => e = .returned (.tuple #[.int .i64 0, .bool false]) ∧ w.grownBy w' (some R) ∧ Rdr w' R A n c (p + 0) :=
  (upto_any a b A n c p R l w hn hp hm hr hR).mono fun e w' ⟨he, hg, hr⟩ => by
    have hu : ¬ upOk (l.drop p) a b := h
    unfold upV at he
    unfold upK at hr
    rw [if_neg hu, decide_eq_false hu] at he
    rw [if_neg hu] at hr
    exact ⟨he, hg, hr⟩
theorem own_cap {w : World} {base : Nat} {e : TypeId} {g n cap : Nat} {xs : List Value} (h : w.ownsRow base e 1 (.slice (some ⟨g, 0, none⟩) n cap) n xs) (hn : 0 < n) : n ≤ cap ∧ cap ≤ maxLen := by
  obtain ⟨_, _, hv, _, _, h1, h2, _, _⟩ := own_shape h hn
  injection hv with _ _ hv
  subst hv
  exact ⟨h1, h2⟩
end Go.Proofs.Ytabndfkkbmhhjaa

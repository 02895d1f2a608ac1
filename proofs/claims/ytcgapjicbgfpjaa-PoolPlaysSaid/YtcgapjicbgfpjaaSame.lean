/-
  The walk of Same, where both are alike.
-/
import Derived.Deep.LoopGhost
import Derived.Test.YtcgapjicbgfpjaaPath
namespace Go.Proofs.Ytcgapjicbgfpjaa
set_option linter.unusedVariables false
set_option linter.unusedSimpArgs false
open Go.RowKit Go.Maps

/-- a slice of slices of numbers, as it is read -/
def RowsR (w : World) (A : Option Addr) (xss : List (List Int)) : Prop :=
  0 < xss.length → ∃ b off, A = some ⟨b, off, none⟩ ∧ ∀ (r : Nat) (x : List Int), xss[r]? = some x → ∃ (A' : Option Addr) (c' : Nat), w.cell? ⟨b, off + r, none⟩ = some (.slice A' x.length c') ∧
    (0 < x.length → ∃ b' off', A' = some ⟨b', off', none⟩ ∧ ∀ (j : Nat) (h : j < x.length), w.cell? ⟨b', off' + j, none⟩ = some (.int .i64 x[j]))
theorem RowsO.reads {B : Nat} {w : World} {A : Option Addr} {c : Nat} {xss : List (List Int)} (h : RowsO B w (.slice A xss.length c) xss) : RowsR w A xss := by
  intro hn
  obtain ⟨vs, h1, h2, h3, h4⟩ := h
  obtain ⟨g, rfl⟩ := own_form h1 hn
  refine ⟨g, 0, rfl, fun r x hx => ?_⟩
  obtain ⟨hp, u, hu, ho⟩ := h3 r x hx
  have hr : r < xss.length := (List.getElem?_eq_some_iff.1 hx).1
  obtain ⟨g2, cap2, rfl, _, _, _, _, hc2, _⟩ := own_shape ho hp
  refine ⟨_, cap2, ?_, fun _ => ⟨g2, 0, rfl, fun j hj => ?_⟩⟩
  · rw [Nat.zero_add, h1.cellAt r (by omega)]; exact hu
  · rw [Nat.zero_add]
    refine hc2 j _ ?_
    unfold iv
    rw [List.getElem?_map, List.getElem?_eq_getElem hj]; rfl
theorem RowsR.keep {w w' : World} {A : Option Addr} {xss : List (List Int)} (h : RowsR w A xss) (hk : ∀ a v, w.cell? a = some v → w'.cell? a = some v) : RowsR w' A xss := by
  intro hn
  obtain ⟨b, off, hA, hr⟩ := h hn
  refine ⟨b, off, hA, fun r x hx => ?_⟩
  obtain ⟨A', c', hc, hi⟩ := hr r x hx
  refine ⟨A', c', hk _ _ hc, fun hp => ?_⟩
  obtain ⟨b', off', hA', hj⟩ := hi hp
  exact ⟨b', off', hA', fun j h => hk _ _ (hj j h)⟩
set_option maxHeartbeats 4000000 in
theorem same_yes (w : World) (A A2 : Option Addr) (c c2 : Nat) (xss : List (List Int)) (h : RowsR w A xss) (h2 : RowsR w A2 xss) (hn : xss.length ≤ 1000000) (hx : ∀ x ∈ xss, x.length ≤ 1000000) :
    Calls Try.prog 12 #[.slice A xss.length c, .slice A2 xss.length c2] w fun e w' => e = .returned (.bool true) ∧ ∃ k, w' = w.drewN k := by
  have H := Lib.hid h
  have H2 := Lib.hid h2
  have HX := Lib.hid hx
  clear h h2 hx
  obtain ⟨n, hnn⟩ : ∃ n, xss.length = n := ⟨_, rfl⟩
  rw [hnn] at hn ⊢
  have HN := Lib.hid hnn
  clear hnn
  go_enter Try.func12, Try.ntmps12
  go_wp2_with fail
  go_loopw [14] (fun i wr => ∃ r m : Nat, r ≤ n ∧ i = .int .i64 r ∧ wr = w.drewN m) (fun i _ => n - (intOf i).toNat)
  case atStart => exact ⟨0, 0, Nat.zero_le _, rfl, rfl⟩
  case round =>
    obtain ⟨r, m, hr, rfl, rfl⟩ := hrel
    by_cases hlt : r < n
    · obtain ⟨b, off, rfl, hc⟩ := H.out (by rw [HN.out]; omega)
      obtain ⟨b2, off2, rfl, hc2⟩ := H2.out (by rw [HN.out]; omega)
      obtain ⟨x, hx⟩ : ∃ x, xss[r]? = some x := ⟨_, List.getElem?_eq_getElem (by rw [HN.out]; exact hlt)⟩
      obtain ⟨A', c', k1, hi⟩ := hc r x hx
      obtain ⟨A2', c2', k2, hi2⟩ := hc2 r x hx
      have hxl := HX.out x (List.mem_of_getElem? hx)
      have HI := Lib.hid hi
      have HI2 := Lib.hid hi2
      obtain ⟨nx, hnx⟩ : ∃ nx, x.length = nx := ⟨_, rfl⟩
      rw [hnx] at k1 k2 hxl
      have HNX := Lib.hid hnx
      clear hc hc2 hi hi2 hx hnx
      have b0 : (0 : Int) ≤ (r : Int) := by omega
      have b1 : (r : Int) < (n : Int) := by omega
      go_wp2_with fail
      go_quiet (fail)
      go_wp2_with fail
      go_loopw [33] (fun i wr => ∃ j m2 : Nat, j ≤ nx ∧ i = .int .i64 j ∧ wr = w.drewN m2) (fun i _ => nx - (intOf i).toNat)
      case atStart => exact ⟨0, _, Nat.zero_le _, rfl, rfl⟩
      case round =>
        obtain ⟨j, m2, hj, rfl, rfl⟩ := hrel
        by_cases hlj : j < nx
        · obtain ⟨b', off', rfl, hcj⟩ := HI.out (by rw [HNX.out]; omega)
          obtain ⟨b2', off2', rfl, hcj2⟩ := HI2.out (by rw [HNX.out]; omega)
          have j1 := hcj j (by rw [HNX.out]; exact hlj)
          have j2 := hcj2 j (by rw [HNX.out]; exact hlj)
          obtain ⟨y, hy⟩ : ∃ y, x[j]'(by rw [HNX.out]; exact hlj) = y := ⟨_, rfl⟩
          rw [hy] at j1 j2
          clear hcj hcj2 hy
          have d0 : (0 : Int) ≤ (j : Int) := by omega
          have d1 : (j : Int) < (nx : Int) := by omega
          go_wp2_with fail
          go_quiet (fail)
          go_wp2_with fail
          go_roundw
          case rel => exact ⟨j + 1, _, by omega, by go_num, rfl⟩
          case measure => simp [intOf]; omega
        · have hge : nx ≤ j := by omega
          go_wp2_with fail
          go_roundw
          case rel => first | exact ⟨r + 1, _, by omega, by go_num, rfl⟩ | ((repeat apply Exists.intro); exact ⟨⟨r + 1, _, by omega, by go_num, rfl⟩, rfl⟩)
          case measure => simp [intOf]; omega
    · have hge : n ≤ r := by omega
      go_wp2_with fail
      go_ret
      exact ⟨rfl, m, rfl⟩
end Go.Proofs.Ytcgapjicbgfpjaa

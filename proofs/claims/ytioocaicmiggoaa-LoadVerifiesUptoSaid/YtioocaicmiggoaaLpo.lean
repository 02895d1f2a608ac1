/-
  The walk of the document's Path, the row that it hands back being the call's own.
-/
import Derived.Test.YtioocaicmiggoaaLpr
namespace Go.Proofs.Ytioocaicmiggoaa
set_option linter.unusedVariables false
set_option linter.unusedSimpArgs false
open Go.RowKit Go.Deep

theorem own_low {w : World} {B B' : Nat} {e : TypeId} {s n : Nat} {v : Value} {xs : List Value} (h : w.ownsRow B e s v n xs) (hB : B' ≤ B) : w.ownsRow B' e s v n xs := by
  refine ⟨h.1, ?_⟩
  rcases h.2 with h1 | ⟨g, cap, cur, hv, hb, hr⟩
  · exact .inl h1
  · exact .inr ⟨g, cap, cur, hv, Nat.le_trans hB hb, hr⟩
/-- what holds at the loop's head: k rounds at most to come, at j, l behind -/
def RPathO (w1 : World) (rs : List TRow) (E : List Int) (k : Nat) (j : Int) (vl : Value) (wr : World) : Prop :=
  ∃ (l : List Int) (A : Option Addr) (c : Nat), vl = .slice A l.length c ∧ wr.ownsRow w1.heap.size 3 1 vl l.length (iv l) ∧ pathL rs k j ++ l = E ∧ Below w1.heap.size w1 wr ∧ (j < k ∨ rowAt rs j = none) ∧ l.length + k ≤ rs.length ∧ l.length ≤ c ∧ c ≤ maxLen
def PathO (w : World) (E : List Int) (e : Ending) (w' : World) : Prop := ∃ A c, e = .returned (.slice A E.length c) ∧ w'.ownsRow w.heap.size 3 1 (.slice A E.length c) E.length (iv E) ∧ Below w.heap.size w w'
theorem RPathO.done {w1 wr : World} {rs : List TRow} {E : List Int} {k : Nat} {j : Int} {vl : Value} (h : RPathO w1 rs E k j vl wr) (hj : rowAt rs j = none) : ∃ A c, vl = .slice A E.length c ∧ wr.ownsRow w1.heap.size 3 1 (.slice A E.length c) E.length (iv E) ∧ Below w1.heap.size w1 wr := by
  obtain ⟨l, A, c, rfl, h1, h2, h3, _⟩ := h
  rw [pathL_none hj] at h2
  have h2 : l = E := h2
  subst h2
  exact ⟨A, c, rfl, h1, h3⟩
theorem RPathO.step {w1 wr : World} {rs : List TRow} {E : List Int} {k q : Nat} {x : TRow} {vl : Value} (h : RPathO w1 rs E k q vl wr) (hx : rs[q]? = some x) :
    ∃ (l : List Int) (A : Option Addr) (c : Nat), vl = .slice A l.length c ∧ wr.ownsRow w1.heap.size 3 1 (.slice A l.length c) l.length (iv l) ∧ l.length + 1 ≤ rs.length ∧ 0 < k ∧ Below w1.heap.size w1 wr ∧
      ∀ (w4 : World) (v4 : Value), Below wr.heap.size wr w4 → w4.ownsRow wr.heap.size 3 1 v4 (1 + l.length) ([.int .i64 q] ++ iv l) →
        ((q : Int) ≤ x.par → ∃ A c, v4 = .slice A E.length c ∧ w4.ownsRow w1.heap.size 3 1 (.slice A E.length c) E.length (iv E) ∧ Below w1.heap.size w1 w4) ∧ (x.par < q → RPathO w1 rs E (k - 1) x.par v4 w4) := by
  obtain ⟨l, A, c, rfl, h1, h2, h3, h4, h5, h6, h7⟩ := h
  have hr : rowAt rs (q : Int) = some x := by rw [rowAt_nat]; exact hx
  have h4 : (q : Int) < k := h4.resolve_right (by rw [hr]; simp)
  refine ⟨l, A, c, rfl, h1, by omega, by omega, h3, fun w4 v4 hb ho => ?_⟩
  obtain ⟨k, rfl⟩ : ∃ k', k = k' + 1 := ⟨k - 1, by omega⟩
  have e : pathL rs (k + 1) q = if 0 ≤ x.par ∧ x.par < q then pathL rs k x.par ++ [(q : Int)] else [(q : Int)] := by simp only [pathL, hr]
  obtain ⟨A4, c4, rfl⟩ := own_slice ho
  obtain ⟨hc4, hm4⟩ := own_caps ho
  have hr4 := own_low ho h3.size
  have hbw := h3.trans (hb.mono h3.size)
  refine ⟨fun hp => ?_, fun hp => ?_⟩
  · rw [e, if_neg (by omega)] at h2
    have h2 : (q : Int) :: l = E := h2
    have hl : E.length = 1 + l.length := by rw [← h2]; simp; omega
    refine ⟨A4, c4, by rw [hl], ?_, hbw⟩
    rw [hl, ← h2]; exact hr4
  · have h9 : pathL rs k x.par ++ ((q : Int) :: l) = E := by
      by_cases h0 : 0 ≤ x.par
      · rw [e, if_pos ⟨h0, hp⟩] at h2
        rw [← h2]; simp
      · rw [e, if_neg (by omega)] at h2
        have hn : rowAt rs x.par = none := by unfold rowAt; rw [if_neg h0]
        rw [pathL_none hn]; exact h2
    have hl : ((q : Int) :: l).length = 1 + l.length := by simp; omega
    exact ⟨(q : Int) :: l, A4, c4, by rw [hl], by rw [hl]; exact hr4, h9, hbw, .inl (by simp; omega), by simp; omega, by rw [hl]; exact hc4, hm4⟩
set_option maxRecDepth 100000 in
set_option maxHeartbeats 4000000 in
theorem rpath_own (T : TTab) (vk vkk vs vc : Value) (hn : T.states.length ≤ 1500000000000) (i : Int) (w : World) (h : TabX w T vk vkk vs vc) :
    Calls Try.prog 14 #[.agg #[.int .i64 T.strategy, vk, vkk, .int .i64 T.syms, .int .i64 T.runs, .int .i64 T.cells, vs, vc], .int .i64 i] w (PathO w (pathT T.states i)) := by
  obtain ⟨A, c, rfl, hc1, hc2⟩ := h.states.slice
  obtain ⟨E, hE⟩ : ∃ E, pathT T.states i = E := ⟨_, rfl⟩
  rw [hE]
  have HX := Lib.hid h
  have BX := Lib.hid (Blk.new w 27 #[.int .i64 T.strategy, vk, vkk, .int .i64 T.syms, .int .i64 T.runs, .int .i64 T.cells, .slice A T.states.length c, vc])
  have B0 := Lib.hid ((Below.refl w.heap.size w).alloc (Nat.le_refl _) (.cells #[.int .i64 T.strategy, vk, vkk, .int .i64 T.syms, .int .i64 T.runs, .int .i64 T.cells, .slice A T.states.length c, vc] 27))
  have R0 : Hid (RPathO (w.alloc (.cells #[.int .i64 T.strategy, vk, vkk, .int .i64 T.syms, .int .i64 T.runs, .int .i64 T.cells, .slice A T.states.length c, vc] 27)) T.states E T.states.length i (.slice none 0 0) (w.alloc (.cells #[.int .i64 T.strategy, vk, vkk, .int .i64 T.syms, .int .i64 T.runs, .int .i64 T.cells, .slice A T.states.length c, vc] 27))) := Lib.hid
    ⟨[], none, 0, rfl, World.ownsRow_nil _ _ _ _, by rw [List.append_nil]; exact hE, Below.refl _ _, by
      by_cases hi : i < T.states.length
      · exact .inl hi
      · refine .inr ?_
        unfold rowAt
        rw [if_pos (by omega)]
        exact List.getElem?_eq_none (by omega), by simp, by simp, by decide⟩
  unfold maxLen at hc2
  obtain ⟨i2, hi2, hz2, hs2, hb2⟩ := info_parts info_int
  clear h hE
  go_enter Try.func14, Try.ntmps14
  go_wp2_with fail
  go_loopg [1, 5] T.states.length (fun k i l wr => ∃ j, i = .int .i64 j ∧ RPathO (w.alloc (.cells #[.int .i64 T.strategy, vk, vkk, .int .i64 T.syms, .int .i64 T.runs, .int .i64 T.cells, .slice A T.states.length c, vc] 27)) T.states E k j l wr)
  case atStart => exact ⟨_, rfl, R0.out⟩
  case round =>
    clear R0
    obtain ⟨j, rfl, hR⟩ := hrel
    have hbw : Below (w.heap.size + 1) (w.alloc (.cells #[.int .i64 T.strategy, vk, vkk, .int .i64 T.syms, .int .i64 T.runs, .int .i64 T.cells, .slice A T.states.length c, vc] 27)) wr := by
      obtain ⟨_, _, _, _, _, _, hb, _⟩ := hR
      rw [World.size_alloc] at hb; exact hb
    have k6 := (BX.out.below hbw (by omega)).cell 6
    have X := HX.out.below (B0.out.trans (hbw.mono (by omega)))
    cases hj : rowAt T.states j with
    | none =>
      obtain ⟨A9, c9, rfl, h91, h92⟩ := hR.done hj
      have H9 := Lib.hid (And.intro (own_low h91 (show w.heap.size ≤ _ by simp)) (B0.out.trans (h92.mono (by simp))))
      clear hR X hbw h91 h92
      rcases rowAt_none hj with i0 | i0
      · clear hj
        go_wp2_with fail
        go_ret
        exact ⟨_, _, rfl, H9.out⟩
      · have i1 : (0 : Int) ≤ j := by omega
        clear hj
        go_wp2_with fail
        go_ret
        exact ⟨_, _, rfl, H9.out⟩
    | some x =>
      obtain ⟨q, rfl, hq, hx⟩ := rowAt_some hj
      obtain ⟨l, A2, c2, rfl, hL, hll, hk0, _, hst⟩ := hR.step hx
      obtain ⟨b, off, c5, vb, ve, hv, _, _, q0, _⟩ := rows_get X.states hx
      injection hv with hv1 hv2 hv3
      subst hv1
      have b1 : (0 : Int) ≤ (q : Int) := by omega
      have b2 : (q : Int) < (T.states.length : Int) := by omega
      obtain ⟨p, hp⟩ : ∃ p, x.par = p := ⟨_, rfl⟩
      rw [hp] at q0 hst
      obtain ⟨nl, hnl⟩ : ∃ nl, l.length = nl := ⟨_, rfl⟩
      rw [hnl] at hst hL hll ⊢
      have hle : nl ≤ 1500000000000 := by omega
      have ST := Lib.hid hst
      have HL := Lib.hid (Reads.of_own hL)
      have HBW := Lib.hid hbw
      have HXX := Lib.hid X
      have OL := Lib.hid (World.ownsRow_lit (base := wr.heap.size) (e := 3) (size := 1) wr #[.int .i64 q] 1 (Nat.le_refl _) (by decide) rfl)
      have BL := Lib.hid (fun o => (Below.refl wr.heap.size wr).alloc (Nat.le_refl _) o)
      have HQ0 := Lib.hid q0
      have HB9 := Lib.hid (fun w4 (hb4 : Below wr.heap.size wr w4) => And.intro ((BX.out.below hbw (by omega)).below hb4 (by have := hbw.size; rw [World.size_alloc] at this; omega)) ((KeepC.of_below hb4) _ _ q0))
      clear hR hj hx hst hL hbw X hv2 hv3 hp hnl q0
      go_wp2_with (at_builtin; refine wpList_append_any _ rfl (.tmp 17) (.tmp 18) 22 rfl wr.heap.size 3 i2 _ 1 8 Try.underlying22 hi2 hz2 hs2 hb2 rfl (by omega) (.slice (some ⟨wr.heap.size, 0, none⟩) 1 1) 1 [.int .i64 q] rfl OL.out wr.heap.size A2 nl c2 (iv l) rfl (HL.out.alloc (Nat.le_refl _) _) (iv_one l) ?c1 ?c2 ?c3 ?_; rotate_left 3; intro v4 w4 ho hg hat; have hb4 := Lib.hid ((BL.out (.cells #[.int .i64 q] 3)).grown hg (by simp) (fun g9 e9 => by simp [Value.ownBlock] at e9; omega)); have HO4 := Lib.hid ho; clear ho hg hat; have q0 := (HB9.out w4 hb4.out).2; have k6 := (HB9.out w4 hb4.out).1.cell 6)
      case c1 => unfold maxLen; omega
      case c2 => omega
      · have hpq : (q : Int) ≤ p := by assumption
        obtain ⟨A9, c9, rfl, h91, h92⟩ := (ST.out w4 v4 hb4.out HO4.out).1 hpq
        go_ret
        exact ⟨_, _, rfl, own_low h91 (by simp), B0.out.trans (h92.mono (by simp))⟩
      · have hpq : p < (q : Int) := by first | assumption | omega
        have HH := Lib.hid ((ST.out w4 v4 hb4.out HO4.out).2 hpq)
        go_roundg (gk - 1)
        case measure => omega
        case rel => exact ⟨_, rfl, HH.out⟩
end Go.Proofs.Ytioocaicmiggoaa

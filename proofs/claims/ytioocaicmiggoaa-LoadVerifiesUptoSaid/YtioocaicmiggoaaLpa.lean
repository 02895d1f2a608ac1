/-
  The walk of load.Path.
-/
import Derived.WalkKit
import Derived.WalkSpells
import Derived.Outline
import Derived.Deep.DrawnRows
import Derived.Deep.QuietTactic
import Derived.BigQuiet
import Derived.WalkLawsBesides
import Derived.Test.YtioocaicmiggoaaProg
import Derived.Test.YtioocaicmiggoaaDat
namespace Go.Proofs.Ytioocaicmiggoaa
set_option linter.unusedVariables false
set_option linter.unusedSimpArgs false
open Go.RowKit

/-- a table as a value, and what its slices read as -/
structure TabX (w : World) (T : TTab) (vk vkk vs vc : Value) : Prop where
  keys : SlR 1 IntC w vk T.keys
  kinds : SlR 1 IntsC w vkk T.kinds
  states : SlR 8 RowC w vs T.states
  codes : SlR 5 CodeC w vc T.codes
  ok : wfi T.strategy ∧ wfi T.syms ∧ wfi T.runs ∧ wfi T.cells
theorem TabX.of {w : World} {A : Array Value} {T : TTab} (h : TabC w A.toList T) : ∃ vk vkk vs vc, A = #[.int .i64 T.strategy, vk, vkk, .int .i64 T.syms, .int .i64 T.runs, .int .i64 T.cells, vs, vc] ∧ TabX w T vk vkk vs vc := by
  obtain ⟨vk, vkk, vs, vc, h1, h2, h3, h4, h5, h6⟩ := h
  exact ⟨vk, vkk, vs, vc, by cases A; simpa using h1, h2, h3, h4, h5, h6⟩
theorem TabX.keep {w w' : World} {T : TTab} {vk vkk vs vc : Value} (h : TabX w T vk vkk vs vc) (hk : KeepC w w') : TabX w' T vk vkk vs vc := ⟨keep_ints hk h.keys, keep_intss hk h.kinds, keep_rows hk h.states, keep_codes hk h.codes, h.ok⟩
theorem TabX.below {w w' : World} {T : TTab} {vk vkk vs vc : Value} (h : TabX w T vk vkk vs vc) (hb : Below w.heap.size w w') : TabX w' T vk vkk vs vc := h.keep (KeepC.of_below hb)
/-- a row's cells -/
theorem rows_get {w : World} {v : Value} {rs : List TRow} (h : SlR 8 RowC w v rs) {i : Nat} {x : TRow} (hx : rs[i]? = some x) :
    ∃ b off c vb ve, v = .slice (some ⟨b, off, none⟩) rs.length c ∧ rs.length ≤ c ∧ c ≤ maxLen ∧ w.cell? ⟨b, off + i * 8, none⟩ = some (.int .i64 x.par) ∧ w.cell? ⟨b, off + i * 8 + 1, none⟩ = some (.int .i64 x.ty) ∧ w.cell? ⟨b, off + i * 8 + 2, none⟩ = some (.bool x.many) ∧
      w.cell? ⟨b, off + i * 8 + 3, none⟩ = some (.int .i64 x.win) ∧ w.cell? ⟨b, off + i * 8 + 4, none⟩ = some vb ∧ w.cell? ⟨b, off + i * 8 + 5, none⟩ = some (.int .i64 x.leave) ∧ w.cell? ⟨b, off + i * 8 + 6, none⟩ = some (.int .i64 x.guard) ∧
      w.cell? ⟨b, off + i * 8 + 7, none⟩ = some ve ∧ SlR 2 StopC w vb x.bars ∧ SlR 3 TailC w ve x.ends ∧ wfi x.par ∧ wfi x.ty ∧ wfi x.win ∧ wfi x.leave ∧ wfi x.guard := by
  obtain ⟨b, off, c, hv, h1, h2, hi, cs, hl, ⟨vb, ve, rfl, hs, ht, hw⟩, hc⟩ := h.get hx
  exact ⟨b, off, c, vb, ve, hv, h1, h2, hc 0 _ rfl, hc 1 _ rfl, hc 2 _ rfl, hc 3 _ rfl, hc 4 _ rfl, hc 5 _ rfl, hc 6 _ rfl, hc 7 _ rfl, hs, ht, hw⟩
def rowAt (rs : List TRow) (i : Int) : Option TRow := if 0 ≤ i then rs[i.toNat]? else none
theorem rowAt_nat (rs : List TRow) (n : Nat) : rowAt rs (n : Int) = rs[n]? := by unfold rowAt; rw [if_pos (by omega), Int.toNat_natCast]
theorem rowAt_some {rs : List TRow} {i : Int} {x : TRow} (h : rowAt rs i = some x) : ∃ n : Nat, i = n ∧ n < rs.length ∧ rs[n]? = some x := by
  unfold rowAt at h
  by_cases hi : 0 ≤ i
  · rw [if_pos hi] at h; exact ⟨i.toNat, by omega, (List.getElem?_eq_some_iff.1 h).1, h⟩
  · rw [if_neg hi] at h; cases h
theorem rowAt_none {rs : List TRow} {i : Int} (h : rowAt rs i = none) : i < 0 ∨ (rs.length : Int) ≤ i := by
  unfold rowAt at h
  by_cases hi : 0 ≤ i
  · rw [if_pos hi] at h
    have := List.getElem?_eq_none_iff.1 h
    exact .inr (by omega)
  · exact .inl (by omega)
/-- the states up to one -/
def pathL (rs : List TRow) : Nat → Int → List Int
  | 0, _ => []
  | k + 1, i => match rowAt rs i with
    | none => []
    | some x => if 0 ≤ x.par ∧ x.par < i then pathL rs k x.par ++ [i] else [i]
theorem pathL_fuel (rs : List TRow) : ∀ (k k' : Nat) (i : Int), i < k → i < k' → pathL rs k i = pathL rs k' i := by
  intro k
  induction k with
  | zero =>
    intro k' i h _
    have hn : rowAt rs i = none := by unfold rowAt; rw [if_neg (by omega)]
    cases k' with
    | zero => rfl
    | succ k' => simp only [pathL, hn]
  | succ k ih =>
    intro k' i h h'
    cases k' with
    | zero =>
      have hn : rowAt rs i = none := by unfold rowAt; rw [if_neg (by omega)]
      simp only [pathL, hn]
    | succ k' =>
      simp only [pathL]
      cases hr : rowAt rs i with
      | none => rfl
      | some x =>
        simp only
        by_cases hp : 0 ≤ x.par ∧ x.par < i
        · rw [if_pos hp, if_pos hp, ih k' x.par (by omega) (by omega)]
        · rw [if_neg hp, if_neg hp]
def pathT (rs : List TRow) (i : Int) : List Int := pathL rs rs.length i
theorem pathL_len (rs : List TRow) : ∀ (k : Nat) (i : Int), (pathL rs k i).length ≤ k := by
  intro k
  induction k with
  | zero => intro i; simp [pathL]
  | succ k ih =>
    intro i
    simp only [pathL]
    cases rowAt rs i with
    | none => simp
    | some x =>
      simp only
      split
      · have := ih x.par; simp; omega
      · simp
theorem pathT_len (rs : List TRow) (i : Int) : (pathT rs i).length ≤ rs.length := pathL_len _ _ _
def iv (l : List Int) : List Value := l.map (Value.int .i64)
theorem info_int : (Try.prog.info? 3).map (fun i => (i.zero, i.size, i.bytes)) = some (some (.int .i64 0), 1, 8) := by kernel_rfl
theorem oneI {ev : Int} : ∀ u ∈ [Value.int .i64 ev], u.oneCell' = true := by
  intro u hu
  simp only [List.mem_cons, List.not_mem_nil, or_false] at hu
  subst hu; rfl
theorem own_slice {w : World} {base : Nat} {e : TypeId} {s n : Nat} {v : Value} {xs : List Value} (h : w.ownsRow base e s v n xs) : ∃ A c, v = .slice A n c := by
  rcases h.2 with ⟨rfl, rfl⟩ | ⟨g, cap, cur, rfl, _⟩
  · have := h.1; exact ⟨none, 0, rfl⟩
  · exact ⟨_, cap, rfl⟩
theorem own_caps {base : Nat} {w : World} {e : TypeId} {size n c : Nat} {A : Option Addr} {ys : List Value} (h : w.ownsRow base e size (.slice A n c) n ys) : n ≤ c ∧ c ≤ maxLen := by
  rcases h.2 with ⟨hv, hy⟩ | ⟨g, cap, cur, hv, _, _, hnc, hm, _⟩
  · injection hv with _ h2 h3
    subst h2 h3
    exact ⟨Nat.le_refl _, by decide⟩
  · injection hv with _ _ h3
    subst h3
    exact ⟨hnc, hm⟩
theorem own_lower {w : World} {B B' : Nat} {e : TypeId} {s n : Nat} {v : Value} {xs : List Value} (h : w.ownsRow B e s v n xs) (hB : B' ≤ B) : w.ownsRow B' e s v n xs := by
  refine ⟨h.1, ?_⟩
  rcases h.2 with h1 | ⟨g, cap, cur, hv, hb, hr⟩
  · exact .inl h1
  · exact .inr ⟨g, cap, cur, hv, by omega, hr⟩
def PathP (w : World) (l : List Int) (e : Ending) (w' : World) : Prop := ∃ v, e = .returned v ∧ w'.ownsRow w.heap.size 3 1 v l.length (iv l) ∧ Below w.heap.size w w'
theorem path_none (T : TTab) (vk vkk vs vc : Value) (w : World) (i : Int) (h : TabX w T vk vkk vs vc) (hi : rowAt T.states i = none) :
    Calls Try.prog 13 #[.agg #[.int .i64 T.strategy, vk, vkk, .int .i64 T.syms, .int .i64 T.runs, .int .i64 T.cells, vs, vc], .int .i64 i] w (PathP w []) := by
  obtain ⟨A, c, rfl, hc1, hc2⟩ := h.states.slice
  have HB := Lib.hid (fun o => (Below.refl w.heap.size w).alloc (Nat.le_refl _) o)
  unfold maxLen at hc2
  clear h
  rcases rowAt_none hi with i0 | i0
  · clear hi
    go_enter Try.func13, Try.ntmps13
    go_wp2_with fail
    go_ret
    exact ⟨_, rfl, World.ownsRow_nil _ _ _ _, HB.out _⟩
  · have i1 : ¬ i < 0 := by omega
    clear hi
    go_enter Try.func13, Try.ntmps13
    go_wp2_with fail
    go_ret
    exact ⟨_, rfl, World.ownsRow_nil _ _ _ _, HB.out _⟩
set_option maxRecDepth 100000 in
set_option maxHeartbeats 4000000 in
theorem path_fuel (T : TTab) (vk vkk vs vc : Value) (hn : T.states.length ≤ 1500000000000) (k : Nat) : ∀ (i : Int) (w : World), k ≤ 1500000000000 → i < k → TabX w T vk vkk vs vc →
    Calls Try.prog 13 #[.agg #[.int .i64 T.strategy, vk, vkk, .int .i64 T.syms, .int .i64 T.runs, .int .i64 T.cells, vs, vc], .int .i64 i] w (PathP w (pathL T.states k i)) := by
  induction k with
  | zero =>
    intro i w _ hi h
    exact path_none T vk vkk vs vc w i h (by unfold rowAt; rw [if_neg (by omega)])
  | succ k ih =>
    intro i w hk hi h
    cases hr : rowAt T.states i with
    | none =>
      have e : pathL T.states (k + 1) i = [] := by simp only [pathL, hr]
      rw [e]
      exact path_none T vk vkk vs vc w i h hr
    | some x =>
      obtain ⟨q, rfl, hq, hx⟩ := rowAt_some hr
      have e : pathL T.states (k + 1) q = if 0 ≤ x.par ∧ x.par < q then pathL T.states k x.par ++ [(q : Int)] else [(q : Int)] := by simp only [pathL, hr]
      rw [e]
      obtain ⟨b, off, c, vb, ve, rfl, hc1, hc2, q0, _⟩ := rows_get h.states hx
      have hbl := cell_in q0
      have HB := Lib.hid (fun o => (Below.refl w.heap.size w).alloc (Nat.le_refl _) o)
      have b1 : (0 : Int) ≤ (q : Int) := by omega
      have b2 : (q : Int) < (T.states.length : Int) := by omega
      have hll := pathL_len T.states k x.par
      have IH := Lib.hid (fun o => ih x.par (w.alloc o))
      have HX := Lib.hid (fun o => h.below ((Below.refl w.heap.size w).alloc (Nat.le_refl _) o))
      have HKQ := Lib.hid hi
      unfold maxLen at hc2
      obtain ⟨p, hp⟩ : ∃ p, x.par = p := ⟨_, rfl⟩
      rw [hp] at q0 IH hll ⊢
      clear h hr hx e hp ih
      by_cases hcond : 0 ≤ p ∧ p < q
      · rw [if_pos hcond]
        obtain ⟨h0, h1⟩ := hcond
        obtain ⟨L, hL⟩ : ∃ L, pathL T.states k p = L := ⟨_, rfl⟩
        rw [hL] at IH hll ⊢
        obtain ⟨i2, hi2, hz2, hs2, hb2⟩ := info_parts info_int
        have HI := Lib.hid (fun o => IH.out o (by omega) (by have := HKQ.out; omega) (HX.out o))
        clear hL IH HX
        go_enter Try.func13, Try.ntmps13
        go_wp2_with fail
        refine (HI.out _).mono ?_
        rintro e w2 ⟨v, rfl, ho, hb⟩
        rw [World.size_alloc] at ho hb
        have OL := Lib.hid (fun o => ho.alloc o)
        have B2 := Lib.hid ((HB.out _).trans (hb.mono (by omega)))
        have hle : L.length ≤ 1500000000000 := by omega
        have hs9 : w.heap.size + 1 ≤ w2.heap.size := by have := hb.size; simpa using this
        clear ho hb HI
        go_wp2_with (at_builtin; refine wpList_append_any _ rfl (.tmp 30) (.tmp 32) 22 rfl (w.heap.size + 1) 3 i2 _ 1 8 Try.underlying22 hi2 hz2 hs2 hb2 rfl (by omega) v L.length (iv L) rfl (OL.out _) (w2.heap.size + 1) (some ⟨w2.heap.size, 0, none⟩) 1 1 [.int .i64 q] rfl (reads_one _ _ _ _) oneI ?c1 ?c2 ?c3 ?_; rotate_left 3; intro v4 w4 ho4 hg hat)
        case c1 => unfold maxLen; omega
        case c2 => omega
        case c3 => simp; omega
        go_ret
        refine ⟨_, rfl, ?_, ?_⟩
        · have h1 := own_lower ho4 (Nat.le_succ w.heap.size)
          simpa [iv] using h1
        · exact (B2.out.alloc B2.out.size _).grown hg (by have := B2.out.size; simp; omega) (fun g e => by have := ((OL.out (.cells #[.int .i64 q] 3)).lt g e).1; omega)
      · rw [if_neg hcond]
        have OL := Lib.hid (fun o => World.ownsRow_lit (base := w.heap.size) (e := 3) (size := 1) (w.alloc o) #[.int .i64 q] 1 (by simp) (by decide) rfl)
        have B2 := Lib.hid (fun o o2 => ((Below.refl w.heap.size w).alloc (Nat.le_refl _) o).alloc (by simp) o2)
        have hd : p < 0 ∨ (q : Int) ≤ p := by omega
        clear IH HX hcond
        rcases hd with h0 | h1
        · go_enter Try.func13, Try.ntmps13
          go_wp2_with fail
          go_ret
          refine ⟨_, rfl, ?_, B2.out _ _⟩
          have h9 := OL.out (.cells #[.int .i64 T.strategy, vk, vkk, .int .i64 T.syms, .int .i64 T.runs, .int .i64 T.cells, .slice (some ⟨b, off, none⟩) T.states.length c, vc] 27)
          rw [World.size_alloc] at h9
          exact h9
        · by_cases h0 : p < 0
          · omega
          · go_enter Try.func13, Try.ntmps13
            go_wp2_with fail
            go_ret
            refine ⟨_, rfl, ?_, B2.out _ _⟩
            have h9 := OL.out (.cells #[.int .i64 T.strategy, vk, vkk, .int .i64 T.syms, .int .i64 T.runs, .int .i64 T.cells, .slice (some ⟨b, off, none⟩) T.states.length c, vc] 27)
            rw [World.size_alloc] at h9
            exact h9
theorem path_any (T : TTab) (vk vkk vs vc : Value) (hn : T.states.length ≤ 1500000000000) (i : Int) (w : World) (h : TabX w T vk vkk vs vc) :
    Calls Try.prog 13 #[.agg #[.int .i64 T.strategy, vk, vkk, .int .i64 T.syms, .int .i64 T.runs, .int .i64 T.cells, vs, vc], .int .i64 i] w (PathP w (pathT T.states i)) := by
  by_cases hi : i < T.states.length
  · exact path_fuel T vk vkk vs vc hn _ i w hn hi h
  · have hr : rowAt T.states i = none := by
      unfold rowAt
      rw [if_pos (by omega)]
      exact List.getElem?_eq_none (by omega)
    have e : pathT T.states i = [] := by
      unfold pathT
      cases T.states.length with
      | zero => rfl
      | succ k => simp only [pathL, hr]
    rw [e]
    exact path_none T vk vkk vs vc w i h hr
end Go.Proofs.Ytioocaicmiggoaa

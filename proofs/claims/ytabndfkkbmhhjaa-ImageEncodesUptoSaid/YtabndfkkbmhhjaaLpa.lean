/-
  The walk of load.Path.
-/
import Derived.WalkKit
import Derived.WalkSpells
import Derived.Outline
import Derived.Deep.DrawnRows
import Derived.Deep.QuietTactic
import Derived.BigQuiet
import Derived.WalkLawsBesides
import Derived.Test.YtabndfkkbmhhjaaProg
import Derived.Test.YtabndfkkbmhhjaaDat
namespace Go.Proofs.Ytabndfkkbmhhjaa
set_option linter.unusedVariables false
set_option linter.unusedSimpArgs false
open Go.RowKit

/-- a table as a value, and what its slices read as -/
structure TabX (w : World) (T : TTab) (vk vkk vs vc : Value) : Prop where
  keys : SlR 1 IntC w vk T.keys
  kinds : SlR 1 IntsC w vkk T.kinds
  states : SlR 8 RowC w vs T.states
  codes : SlR 5 CodeC w vc T.codes
  ok : wfi T.strategy ∧ wfi T.syms ∧ wfi T.runs ∧ wfi T.cells
theorem TabX.of {w : World} {A : Array Value} {T : TTab} (h : TabC w A.toList T) : ∃ vk vkk vs vc, A = #[.int .i64 T.strategy, vk, vkk, .int .i64 T.syms, .int .i64 T.runs, .int .i64 T.cells, vs, vc] ∧ TabX w T vk vkk vs vc := by
  obtain ⟨vk, vkk, vs, vc, h1, h2, h3, h4, h5, h6⟩ := h
  exact ⟨vk, vkk, vs, vc, by cases A; simpa using h1, h2, h3, h4, h5, h6⟩
theorem TabX.keep {w w' : World} {T : TTab} {vk vkk vs vc : Value} (h : TabX w T vk vkk vs vc) (hk : KeepC w w') : TabX w' T vk vkk vs vc := ⟨keep_ints hk h.keys, keep_intss hk h.kinds, keep_rows hk h.states, keep_codes hk h.codes, h.ok⟩
theorem TabX.below {w w' : World} {T : TTab} {vk vkk vs vc : Value} (h : TabX w T vk vkk vs vc) (hb : Below w.heap.size w w') : TabX w' T vk vkk vs vc := h.keep (KeepC.of_below hb)
/-- a row's cells -/
theorem rows_get {w : World} {v : Value} {rs : List TRow} (h : SlR 8 RowC w v rs) {i : Nat} {x : TRow} (hx : rs[i]? = some x) :
    ∃ b off c vb ve, v = .slice (some ⟨b, off, none⟩) rs.length c ∧ rs.length ≤ c ∧ c ≤ maxLen ∧ w.cell? ⟨b, off + i * 8, none⟩ = some (.int .i64 x.par) ∧ w.cell? ⟨b, off + i * 8 + 1, none⟩ = some (.int .i64 x.ty) ∧ w.cell? ⟨b, off + i * 8 + 2, none⟩ = some (.bool x.many) ∧
      w.cell? ⟨b, off + i * 8 + 3, none⟩ = some (.int .i64 x.win) ∧ w.cell? ⟨b, off + i * 8 + 4, none⟩ = some vb ∧ w.cell? ⟨b, off + i * 8 + 5, none⟩ = some (.int .i64 x.leave) ∧ w.cell? ⟨b, off + i * 8 + 6, none⟩ = some (.int .i64 x.guard) ∧
      w.cell? ⟨b, off + i * 8 + 7, none⟩ = some ve ∧ SlR 2 StopC w vb x.bars ∧ SlR 3 TailC w ve x.ends ∧ wfi x.par ∧ wfi x.ty ∧ wfi x.win ∧ wfi x.leave ∧ wfi x.guard := by
  obtain ⟨b, off, c, hv, h1, h2, hi, cs, hl, ⟨vb, ve, rfl, hs, ht, hw⟩, hc⟩ := h.get hx
  exact ⟨b, off, c, vb, ve, hv, h1, h2, hc 0 _ rfl, hc 1 _ rfl, hc 2 _ rfl, hc 3 _ rfl, hc 4 _ rfl, hc 5 _ rfl, hc 6 _ rfl, hc 7 _ rfl, hs, ht, hw⟩
def rowAt (rs : List TRow) (i : Int) : Option TRow := if 0 ≤ i then rs[i.toNat]? else none
theorem rowAt_nat (rs : List TRow) (n : Nat) : rowAt rs (n : Int) = rs[n]? := by unfold rowAt; rw [if_pos (by omega), Int.toNat_natCast]
theorem rowAt_some {rs : List TRow} {i : Int} {x : TRow} (h : rowAt rs i = some x) : ∃ n : Nat, i = n ∧ n < rs.length ∧ rs[n]? = some x := by
  unfold rowAt at h
  by_cases hi : 0 ≤ i
  · rw [if_pos hi] at h; exact ⟨i.toNat, by omega, (List.getElem?_eq_some_iff.1 h).1, h⟩
  · rw [if_neg hi] at h; cases h
theorem rowAt_none {rs : List TRow} {i : Int} (h : rowAt rs i = none) : i < 0 ∨ (rs.length : Int) ≤ i := by
  unfold rowAt at h
  by_cases hi : 0 ≤ i
  · rw [if_pos hi] at h
    have := List.getElem?_eq_none_iff.1 h
    exact .inr (by omega)
  · exact .inl (by omega)
/-- the states up to one -/
def pathL (rs : List TRow) : Nat → Int → List Int
  | 0, _ => []
  | k + 1, i => match rowAt rs i with
    | none => []
    | some x => if 0 ≤ x.par ∧ x.par < i then pathL rs k x.par ++ [i] else [i]
theorem pathL_fuel (rs : List TRow) : ∀ (k k' : Nat) (i : Int), i < k → i < k' → pathL rs k i = pathL rs k' i := by
  intro k
  induction k with
  | zero =>
    intro k' i h _
    have hn : rowAt rs i = none := by unfold rowAt; rw [if_neg (by omega)]
    cases k' with
    | zero => rfl
    | succ k' => simp only [pathL, hn]
  | succ k ih =>
    intro k' i h h'
    cases k' with
    | zero =>
      have hn : rowAt rs i = none := by unfold rowAt; rw [if_neg (by omega)]
      simp only [pathL, hn]
    | succ k' =>
      simp only [pathL]
      cases hr : rowAt rs i with
      | none => rfl
      | some x =>
        simp only
        by_cases hp : 0 ≤ x.par ∧ x.par < i
        · rw [if_pos hp, if_pos hp, ih k' x.par (by omega) (by omega)]
        · rw [if_neg hp, if_neg hp]
def pathT (rs : List TRow) (i : Int) : List Int := pathL rs rs.length i
theorem pathL_len (rs : List TRow) : ∀ (k : Nat) (i : Int), (pathL rs k i).length ≤ k := by
  intro k
  induction k with
  | zero => intro i; simp [pathL]
  | succ k ih =>
    intro i
    simp only [pathL]
    cases rowAt rs i with
    | none => simp
    | some x =>
      simp only
      split
      · have := ih x.par; simp; omega
      · simp
theorem pathT_len (rs : List TRow) (i : Int) : (pathT rs i).length ≤ rs.length := pathL_len _ _ _
def iv (l : List Int) : List Value := l.map (Value.int .i64)
theorem info_int : (Try.prog.info? 3).map (fun i => (i.zero, i.size, i.bytes)) = some (some (.int .i64 0), 1, 8) := by kernel_rfl
theorem oneI {ev : Int} : ∀ u ∈ [Value.int .i64 ev], u.oneCell' = true := by
  intro u hu
  simp only [List.mem_cons, List.not_mem_nil, or_false] at hu
  subst hu; rfl
theorem own_slice {w : World} {base : Nat} {e : TypeId} {s n : Nat} {v : Value} {xs : List Value} (h : w.ownsRow base e s v n xs) : ∃ A c, v = .slice A n c := by
  rcases h.2 with ⟨rfl, rfl⟩ | ⟨g, cap, cur, rfl, _⟩
  · have := h.1; exact ⟨none, 0, rfl⟩
  · exact ⟨_, cap, rfl⟩
theorem own_caps {base : Nat} {w : World} {e : TypeId} {size n c : Nat} {A : Option Addr} {ys : List Value} (h : w.ownsRow base e size (.slice A n c) n ys) : n ≤ c ∧ c ≤ maxLen := by
  rcases h.2 with ⟨hv, hy⟩ | ⟨g, cap, cur, hv, _, _, hnc, hm, _⟩
  · injection hv with _ h2 h3
    subst h2 h3
    exact ⟨Nat.le_refl _, by decide⟩
  · injection hv with _ _ h3
    subst h3
    exact ⟨hnc, hm⟩
theorem own_lower {w : World} {B B' : Nat} {e : TypeId} {s n : Nat} {v : Value} {xs : List Value} (h : w.ownsRow B e s v n xs) (hB : B' ≤ B) : w.ownsRow B' e s v n xs := by
  refine ⟨h.1, ?_⟩
  rcases h.2 with h1 | ⟨g, cap, cur, hv, hb, hr⟩
  · exact .inl h1
  · exact .inr ⟨g, cap, cur, hv, by omega, hr⟩
def PathP (w : World) (l : List Int) (e : Ending) (w' : World) : Prop := ∃ v, e = .returned v ∧ w'.ownsRow w.heap.size 3 1 v l.length (iv l) ∧ Below w.heap.size w w'
end Go.Proofs.Ytabndfkkbmhhjaa

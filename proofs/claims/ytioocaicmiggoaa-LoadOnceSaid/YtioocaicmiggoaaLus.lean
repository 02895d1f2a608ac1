/-
  The codes that a state tells: a plain list; what a call of asker.code keeps.
-/
import Derived.Test.YtioocaicmiggoaaLco
namespace Go.Proofs.Ytioocaicmiggoaa
set_option linter.unusedVariables false
set_option linter.unusedSimpArgs false
open Go.RowKit Go.Deep Go.Maps

structure TUse where
  code : Int
  path : List Int
  one : Int
  many : Int
  asked : Int
def useOk (T : TTab) (u : TUse) : Bool := codeT T u.path u.one u.many u.asked u.code
def useBar (p : List Int) (b : TStop) : TUse := ⟨b.gd, p, p.length, p.length, b.ty⟩
def useEnd (p : List Int) (e : TTail) : List TUse := ⟨e.cl, p, p.length, p.length, -1⟩ :: e.bars.map (useBar p)
def useTwo (T : TTab) (i : Nat) (x : TRow) : List TUse := [⟨x.guard, pathT T.states i, (pathT T.states i).length - 1, (pathT T.states i).length, x.ty⟩, ⟨x.leave, pathT T.states x.par, (pathT T.states x.par).length, (pathT T.states x.par).length, -1⟩]
/-- the codes that a state tells, in order -/
def usesRow (T : TTab) (i : Nat) (x : TRow) : List TUse := useTwo T i x ++ x.bars.map (useBar (pathT T.states x.par)) ++ x.ends.flatMap (useEnd (pathT T.states i))
def toldU (us : List TUse) (S : List Int) : List Int := us.foldl (fun S u => toldS u.code S) S
theorem toldS_len (n : Int) (S : List Int) : (toldS n S).length ≤ S.length + 1 := by
  unfold toldS addS
  split
  · omega
  · split
    · omega
    · simp
theorem toldU_len (us : List TUse) : ∀ S, (toldU us S).length ≤ S.length + us.length := by
  induction us with
  | nil => intro S; exact Nat.le_refl _
  | cons u us ih =>
    intro S
    have h1 := ih (toldS u.code S)
    have h2 := toldS_len u.code S
    simp only [toldU, List.foldl_cons, List.length_cons] at h1 ⊢
    omega
theorem toldU_snoc (us : List TUse) (u : TUse) (S : List Int) : toldU (us ++ [u]) S = toldS u.code (toldU us S) := by unfold toldU; rw [List.foldl_append]; rfl
theorem toldU_app (us vs : List TUse) (S : List Int) : toldU (us ++ vs) S = toldU vs (toldU us S) := by unfold toldU; rw [List.foldl_append]
theorem split_at {α : Type} {l : List α} {r : Nat} {y : α} (h : l[r]? = some y) : l = l.take r ++ y :: l.drop (r + 1) := by
  have hr := (List.getElem?_eq_some_iff.1 h).1
  rw [List.getElem?_eq_getElem hr] at h
  injection h with h
  rw [← h, ← List.drop_eq_getElem_cons hr, List.take_append_drop]
theorem take_one {α : Type} {l : List α} {r : Nat} {y : α} (h : l[r]? = some y) : l.take (r + 1) = l.take r ++ [y] := by rw [List.take_add_one, h]; rfl
theorem pathL_in (rs : List TRow) : ∀ (k : Nat) (i : Int), ∀ j ∈ pathL rs k i, 0 ≤ j ∧ j < (rs.length : Int) := by
  intro k
  induction k with
  | zero => intro i j hj; simp [pathL] at hj
  | succ k ih =>
    intro i j hj
    cases hr : rowAt rs i with
    | none => simp only [pathL, hr] at hj; cases hj
    | some x =>
      obtain ⟨n, rfl, hn, _⟩ := rowAt_some hr
      simp only [pathL, hr] at hj
      split at hj
      · rcases List.mem_append.1 hj with h | h
        · exact ih _ j h
        · have : j = (n : Int) := by simpa using h
          omega
      · have : j = (n : Int) := by simpa using hj
        omega
theorem pathT_in (rs : List TRow) (i : Int) : ∀ j ∈ pathT rs i, 0 ≤ j ∧ j < (rs.length : Int) := pathL_in rs _ i
theorem SetX.low {w : World} {b n : Nat} {S : List Int} (h : SetX w b n S) : SetX w b S.length S := by
  obtain ⟨D, ⟨es, clock, hh, F, hs, hD⟩, h2, h3⟩ := h
  refine ⟨D, ⟨es, clock, hh, F, ?_, hD⟩, h2, h3⟩
  have e1 : Maps.size D = es.size := by rw [hD]; simp [Maps.size, length_sorted]
  omega
theorem AskM.low {w : World} {T : TTab} {vk vkk vs vc : Value} {g bM n : Nat} {S : List Int} (h : AskM w T vk vkk vs vc g bM n S) : AskM w T vk vkk vs vc g bM S.length S := ⟨h.1, h.2.1.low, h.2.2⟩
/-- what stands while a state's codes are looked at -/
structure StW (w0 : World) (T : TTab) (vk vkk vs vc : Value) (g bM : Nat) (vo vu : Value) (own up : List Int) (hr : Nat) (cs : Array Value) (w : World) (S : List Int) : Prop where
  ask : AskM w T vk vkk vs vc g bM S.length S
  po : PathV w 0 vo own
  pu : PathV w 0 vu up
  row : Blk w hr 46 cs
  grown : w0.grownBy w (some bM)
section
variable {w0 : World} {T : TTab} {vk vkk vs vc : Value} {g bM : Nat} {vo vu : Value} {own up : List Int} {hr : Nat} {cs : Array Value} {w w' : World} {S : List Int}
theorem StW.below (h : StW w0 T vk vkk vs vc g bM vo vu own up hr cs w S) (hb : Below w.heap.size w w') : StW w0 T vk vkk vs vc g bM vo vu own up hr cs w' S :=
  ⟨h.ask.below hb, h.po.below hb, h.pu.below hb, h.row.below hb h.row.lt, h.grown.trans (only_of_below hb _)⟩
def UseP (w0 : World) (T : TTab) (vk vkk vs vc : Value) (g bM : Nat) (vo vu : Value) (own up : List Int) (hr : Nat) (cs : Array Value) (w : World) (b : Bool) (S : List Int) (e : Ending) (w' : World) : Prop :=
  e = .returned (.bool b) ∧ w0.grownBy w' (some bM) ∧ KeepC w w' ∧ w.heap.size ≤ w'.heap.size ∧ (b = true → StW w0 T vk vkk vs vc g bM vo vu own up hr cs w' S)
theorem st_code (h : StW w0 T vk vkk vs vc g bM vo vu own up hr cs w S) (hS : S.length < 1000000000) (hpos : ∀ c ∈ T.codes, ∀ x ∈ c.inputs, 0 ≤ x.pos) (hcs : cs.size = 8) (u : TUse) (hw : wfi u.code) (vp : Value) (hp : PathV w 0 vp u.path) (h1 : u.one ≤ u.path.length) (h2 : u.many ≤ u.path.length) (hin : ∀ j ∈ u.path, 0 ≤ j ∧ j < (T.states.length : Int)) :
    Calls Try.prog 44 #[.pointer (some ⟨g, 0, none⟩), .int .i64 u.code, .agg #[vp, .int .i64 u.one, .int .i64 u.many, .int .i64 u.asked]] w (UseP w0 T vk vkk vs vc g bM vo vu own up hr cs w (useOk T u) (toldS u.code S)) :=
  (code_any T vk vkk vs vc w g bM S.length S h.ask (by unfold maxLen; omega) u.code hw 0 vp u.path hp u.one u.many u.asked hpos h1 h2 hin).mono fun e w' ⟨he, hg, S', hA, hb⟩ => by
    have hk := keepC_of_set h.ask.2.1 hg
    refine ⟨he, h.grown.trans hg, hk, hg.size, fun hbt => ?_⟩
    have e := hb hbt
    subst e
    obtain ⟨a0, rest, hcs0⟩ : ∃ a0 rest, cs.toList = a0 :: rest := by
      cases hl : cs.toList with
      | nil => exfalso; have : cs.toList.length = 8 := by simpa using hcs
               rw [hl] at this; cases this
      | cons a r => exact ⟨a, r, rfl⟩
    have hc0 : w.cell? ⟨hr, 0, none⟩ = some a0 := by
      rw [h.row.cell 0, ← Array.getElem?_toList, hcs0]; rfl
    exact ⟨hA.low, h.po.keep hk hg.size, h.pu.keep hk hg.size, h.row.grown hg (fun e => by injection e with e; exact h.ask.2.1.noCell hc0 e), h.grown.trans hg⟩
end
def StInv (w0 : World) (T : TTab) (vk vkk vs vc : Value) (g bM : Nat) (vo vu : Value) (own up : List Int) (hr : Nat) (cs : Array Value) (S : List Int) (P : List TUse) (w : World) : Prop :=
  StW w0 T vk vkk vs vc g bM vo vu own up hr cs w (toldU P S) ∧ P.all (useOk T) = true
def stateT (T : TTab) (i : Nat) (x : TRow) : Bool := (usesRow T i x).all (useOk T)
theorem st_bad {T : TTab} {us P R : List TUse} {u : TUse} (he : us = P ++ u :: R) (h : useOk T u = false) : us.all (useOk T) = false := by
  subst he
  rw [List.all_eq_false]
  exact ⟨u, by simp, by rw [h]; simp⟩
/-- codes told: each once, each a code that is there -/
def CapS (T : TTab) (S : List Int) : Prop := S.Nodup ∧ ∀ j ∈ S, 0 ≤ j ∧ j < (T.codes.length : Int)
theorem nodup_len : ∀ (n : Nat) (l : List Int), l.Nodup → (∀ j ∈ l, 0 ≤ j ∧ j < (n : Int)) → l.length ≤ n := by
  intro n
  induction n with
  | zero =>
    intro l _ h
    cases l with
    | nil => exact Nat.le_refl _
    | cons a l => have := h a (by simp); omega
  | succ n ih =>
    intro l hn h
    have h1 := ih (l.erase (n : Int)) (hn.erase _) (fun j hj => by
      have h2 := h j (List.mem_of_mem_erase hj)
      have h3 : j ≠ (n : Int) := fun e => by subst e; exact (hn.not_mem_erase) hj
      omega)
    have h4 := List.le_length_erase (a := (n : Int)) (l := l)
    omega
theorem capS_len {T : TTab} {S : List Int} (h : CapS T S) : S.length ≤ T.codes.length := nodup_len _ _ h.1 h.2
theorem capS_told {T : TTab} {S : List Int} (h : CapS T S) {u : TUse} (hu : useOk T u = true) : CapS T (toldS u.code S) := by
  unfold toldS addS
  split
  · exact h
  · next hn =>
    split
    · exact h
    · next hm =>
      refine ⟨List.nodup_cons.2 ⟨hm, h.1⟩, fun j hj => ?_⟩
      rcases List.mem_cons.1 hj with rfl | hj
      · unfold useOk codeT at hu
        rw [decide_eq_false hn, Bool.false_or, Bool.and_eq_true, decide_eq_true_eq] at hu
        refine ⟨hu.1, ?_⟩
        rcases Nat.lt_or_ge u.code.toNat T.codes.length with h1 | h1
        · omega
        · have := hu.2
          rw [List.getElem?_eq_none h1] at this
          cases this
      · exact h.2 j hj
theorem capU {T : TTab} {S : List Int} (h : CapS T S) : ∀ P : List TUse, P.all (useOk T) = true → CapS T (toldU P S) := by
  intro P
  induction P generalizing S with
  | nil => intro _; exact h
  | cons u P ih =>
    intro hp
    rw [List.all_cons, Bool.and_eq_true] at hp
    exact ih (capS_told h hp.1) hp.2
end Go.Proofs.Ytioocaicmiggoaa

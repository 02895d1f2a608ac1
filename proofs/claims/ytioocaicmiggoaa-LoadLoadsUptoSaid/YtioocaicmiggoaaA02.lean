/- Dat, Lpa, Lpr, Lfe: texts merged for a claim by a program of mine. -/
import Derived.Test.YtioocaicmiggoaaA01
import Derived.WalkKit
import Derived.WalkSpells
import Derived.Outline
import Derived.Deep.DrawnRows
import Derived.Deep.QuietTactic
import Derived.BigQuiet
import Derived.WalkLawsBesides
import Derived.Test.YtioocaicmiggoaaProg
import Derived.Deep.LoopGhost
import Derived.Deep.DeepCutAuto
namespace Go.Proofs.Ytioocaicmiggoaa
set_option linter.unusedVariables false
open Go.RowKit
structure TStop where
 ty : Int
 gd : Int
structure TTail where
 br : Int
 cl : Int
 bars : List TStop
structure TRow where
 par : Int
 ty : Int
 many : Bool
 win : Int
 bars : List TStop
 leave : Int
 guard : Int
 ends : List TTail
structure TInp where
 op : Int
 kind : Int
 pos : Int
 attr : Int
structure TVal where
 kind : Int
 bits : Int
structure TIns where
 op : Int
 dst : Int
 a : Int
 b : Int
structure TCode where
 regs : Int
 slots : Int
 inputs : List TInp
 consts : List TVal
 list : List TIns
structure TTab where
 strategy : Int
 keys : List Int
 kinds : List (List Int)
 syms : Int
 runs : Int
 cells : Int
 states : List TRow
 codes : List TCode
def wfi (a : Int) : Prop := (Lit.int .i64 a).wf = true
def wfu (a : Int) : Prop := (Lit.int .u64 a).wf = true
def SlR {α : Type} (F : Nat) (R : World → List Value → α → Prop) (w : World) (v : Value) (xs : List α) : Prop :=
 ∃ (A : Option Addr) (c : Nat), v = .slice A xs.length c ∧ xs.length ≤ c ∧ c ≤ maxLen ∧
  (0 < xs.length → ∃ b off, A = some ⟨b, off, none⟩ ∧ ∀ (i : Nat) (x : α), xs[i]? = some x → ∃ cs : List Value, cs.length = F ∧ R w cs x ∧ ∀ (j : Nat) (u : Value), cs[j]? = some u → w.cell? ⟨b, off + i * F + j, none⟩ = some u)
def IntC (_ : World) (cs : List Value) (x : Int) : Prop := cs = [.int .i64 x] ∧ wfi x
def IntsC (w : World) (cs : List Value) (l : List Int) : Prop := ∃ v, cs = [v] ∧ SlR 1 IntC w v l
def StopC (_ : World) (cs : List Value) (x : TStop) : Prop := cs = [.int .i64 x.ty, .int .i64 x.gd] ∧ wfi x.ty ∧ wfi x.gd
def TailC (w : World) (cs : List Value) (x : TTail) : Prop := ∃ v, cs = [.int .i64 x.br, .int .i64 x.cl, v] ∧ SlR 2 StopC w v x.bars ∧ wfi x.br ∧ wfi x.cl
def RowC (w : World) (cs : List Value) (x : TRow) : Prop :=
 ∃ vb ve, cs = [.int .i64 x.par, .int .i64 x.ty, .bool x.many, .int .i64 x.win, vb, .int .i64 x.leave, .int .i64 x.guard, ve] ∧ SlR 2 StopC w vb x.bars ∧ SlR 3 TailC w ve x.ends ∧ wfi x.par ∧ wfi x.ty ∧ wfi x.win ∧ wfi x.leave ∧ wfi x.guard
def InpC (_ : World) (cs : List Value) (x : TInp) : Prop := cs = [.int .i64 x.op, .int .i64 x.kind, .int .i64 x.pos, .int .i64 x.attr] ∧ wfi x.op ∧ wfi x.kind ∧ wfi x.pos ∧ wfi x.attr
def ValC (_ : World) (cs : List Value) (x : TVal) : Prop := cs = [.int .i64 x.kind, .int .u64 x.bits] ∧ wfi x.kind ∧ wfu x.bits
def InsC (_ : World) (cs : List Value) (x : TIns) : Prop := cs = [.int .i64 x.op, .int .i64 x.dst, .int .i64 x.a, .int .i64 x.b] ∧ wfi x.op ∧ wfi x.dst ∧ wfi x.a ∧ wfi x.b
def CodeC (w : World) (cs : List Value) (x : TCode) : Prop :=
 ∃ vi vc vl, cs = [.int .i64 x.regs, .int .i64 x.slots, vi, vc, vl] ∧ SlR 4 InpC w vi x.inputs ∧ SlR 2 ValC w vc x.consts ∧ SlR 4 InsC w vl x.list ∧ wfi x.regs ∧ wfi x.slots
def TabC (w : World) (cs : List Value) (x : TTab) : Prop :=
 ∃ vk vkk vs vc, cs = [.int .i64 x.strategy, vk, vkk, .int .i64 x.syms, .int .i64 x.runs, .int .i64 x.cells, vs, vc] ∧ SlR 1 IntC w vk x.keys ∧ SlR 1 IntsC w vkk x.kinds ∧ SlR 8 RowC w vs x.states ∧ SlR 5 CodeC w vc x.codes ∧
  wfi x.strategy ∧ wfi x.syms ∧ wfi x.runs ∧ wfi x.cells
theorem cell_in {w : World} {p : Addr} {u : Value} (h : w.cell? p = some u) : p.block < w.heap.size := by
 rcases Nat.lt_or_ge p.block w.heap.size with hl | hl
 ·exact hl
 ·exfalso
  obtain ⟨b, off, spot⟩ := p
  have hs := World.cell?_spot h
  have hs : spot = none := hs
  subst hs
  unfold World.cell? at h
  rw [Array.getElem?_eq_none hl] at h
  simp at h
def KeepC (w w' : World) : Prop := ∀ (p : Addr) (u : Value), w.cell? p = some u → w'.cell? p = some u
theorem KeepC.of_below {w w' : World} (h : Below w.heap.size w w') : KeepC w w' := fun p u hp => (h.cell (cell_in hp)).trans hp
theorem KeepC.refl (w : World) : KeepC w w := fun _ _ h => h
theorem KeepC.trans {a b c : World} (h : KeepC a b) (k : KeepC b c) : KeepC a c := fun p u hp => k p u (h p u hp)
theorem SlR.keep {α : Type} {F : Nat} {R : World → List Value → α → Prop} {w w' : World} {v : Value} {xs : List α} (h : SlR F R w v xs) (hk : KeepC w w') (hR : ∀ cs x, R w cs x → R w' cs x) : SlR F R w' v xs := by
 obtain ⟨A, c, hv, h1, h2, h3⟩ := h
 refine ⟨A, c, hv, h1, h2, fun hn => ?_⟩
 obtain ⟨b, off, hA, hc⟩ := h3 hn
 refine ⟨b, off, hA, fun i x hx => ?_⟩
 obtain ⟨cs, hl, hr, hcs⟩ := hc i x hx
 exact ⟨cs, hl, hR cs x hr, fun j u hu => hk _ _ (hcs j u hu)⟩
section
variable {w w' : World} (hk : KeepC w w')
include hk
theorem keep_ints {v : Value} {l : List Int} (h : SlR 1 IntC w v l) : SlR 1 IntC w' v l := h.keep hk fun _ _ h => h
theorem keep_intss {v : Value} {l : List (List Int)} (h : SlR 1 IntsC w v l) : SlR 1 IntsC w' v l := h.keep hk fun _ _ ⟨v, h1, h2⟩ => ⟨v, h1, keep_ints hk h2⟩
theorem keep_stops {v : Value} {l : List TStop} (h : SlR 2 StopC w v l) : SlR 2 StopC w' v l := h.keep hk fun _ _ h => h
theorem keep_tailC {cs : List Value} {x : TTail} (h : TailC w cs x) : TailC w' cs x := by
 obtain ⟨v, h1, h2, h3⟩ := h
 exact ⟨v, h1, keep_stops hk h2, h3⟩
theorem keep_tails {v : Value} {l : List TTail} (h : SlR 3 TailC w v l) : SlR 3 TailC w' v l := h.keep hk fun _ _ h => keep_tailC hk h
theorem keep_rowC {cs : List Value} {x : TRow} (h : RowC w cs x) : RowC w' cs x := by
 obtain ⟨vb, ve, h1, h2, h3, h4⟩ := h
 exact ⟨vb, ve, h1, keep_stops hk h2, keep_tails hk h3, h4⟩
theorem keep_rows {v : Value} {l : List TRow} (h : SlR 8 RowC w v l) : SlR 8 RowC w' v l := h.keep hk fun _ _ h => keep_rowC hk h
theorem keep_inps {v : Value} {l : List TInp} (h : SlR 4 InpC w v l) : SlR 4 InpC w' v l := h.keep hk fun _ _ h => h
theorem keep_vals {v : Value} {l : List TVal} (h : SlR 2 ValC w v l) : SlR 2 ValC w' v l := h.keep hk fun _ _ h => h
theorem keep_inss {v : Value} {l : List TIns} (h : SlR 4 InsC w v l) : SlR 4 InsC w' v l := h.keep hk fun _ _ h => h
theorem keep_codeC {cs : List Value} {x : TCode} (h : CodeC w cs x) : CodeC w' cs x := by
 obtain ⟨vi, vc, vl, h1, h2, h3, h4, h5⟩ := h
 exact ⟨vi, vc, vl, h1, keep_inps hk h2, keep_vals hk h3, keep_inss hk h4, h5⟩
theorem keep_codes {v : Value} {l : List TCode} (h : SlR 5 CodeC w v l) : SlR 5 CodeC w' v l := h.keep hk fun _ _ h => keep_codeC hk h
end
theorem SlR.slice {α : Type} {F : Nat} {R : World → List Value → α → Prop} {w : World} {v : Value} {xs : List α} (h : SlR F R w v xs) : ∃ A c, v = .slice A xs.length c ∧ xs.length ≤ c ∧ c ≤ maxLen := by
 obtain ⟨A, c, hv, h1, h2, _⟩ := h
 exact ⟨A, c, hv, h1, h2⟩
theorem SlR.get {α : Type} {F : Nat} {R : World → List Value → α → Prop} {w : World} {v : Value} {xs : List α} (h : SlR F R w v xs) {i : Nat} {x : α} (hx : xs[i]? = some x) :
  ∃ b off c, v = .slice (some ⟨b, off, none⟩) xs.length c ∧ xs.length ≤ c ∧ c ≤ maxLen ∧ i < xs.length ∧ ∃ cs : List Value, cs.length = F ∧ R w cs x ∧ ∀ (j : Nat) (u : Value), cs[j]? = some u → w.cell? ⟨b, off + i * F + j, none⟩ = some u := by
 obtain ⟨A, c, hv, h1, h2, h3⟩ := h
 have hi : i < xs.length := (List.getElem?_eq_some_iff.1 hx).1
 obtain ⟨b, off, rfl, hc⟩ := h3 (by omega)
 exact ⟨b, off, c, hv, h1, h2, hi, hc i x hx⟩
theorem SlR.nil {α : Type} (F : Nat) (R : World → List Value → α → Prop) (w : World) : SlR F R w (.slice none 0 0) [] := ⟨none, 0, rfl, Nat.le_refl _, by decide, fun h => absurd h (by simp)⟩
def szL {α : Type} (f : α → Nat) (xs : List α) : Nat := (xs.map fun x => f x + 1).sum
def szTail (x : TTail) : Nat := szL (fun _ => 0) x.bars
def szRow (x : TRow) : Nat := szL (fun _ => 0) x.bars + szL szTail x.ends
def szCode (x : TCode) : Nat := szL (fun _ => 0) x.inputs + szL (fun _ => 0) x.consts + szL (fun _ => 0) x.list
def szTab (x : TTab) : Nat := szL (fun _ => 0) x.keys + szL (fun l : List Int => szL (fun _ => 0) l) x.kinds + szL szRow x.states + szL szCode x.codes
theorem szL_len {α : Type} (f : α → Nat) (xs : List α) : xs.length ≤ szL f xs := by
 induction xs with
 | nil => simp [szL]
 | cons x xs ih => simp only [szL, List.map_cons, List.sum_cons, List.length_cons] at ih ⊢; omega
theorem szL_mem {α : Type} (f : α → Nat) {xs : List α} {x : α} (h : x ∈ xs) : f x + 1 ≤ szL f xs := by
 induction xs with
 | nil => cases h
 | cons y xs ih =>
  simp only [szL, List.map_cons, List.sum_cons] at ih ⊢
  rcases List.mem_cons.1 h with rfl | h
  ·omega
  ·have := ih h; omega
end Go.Proofs.Ytioocaicmiggoaa
namespace Go.Proofs.Ytioocaicmiggoaa
set_option linter.unusedVariables false
set_option linter.unusedSimpArgs false
open Go.RowKit
structure TabX (w : World) (T : TTab) (vk vkk vs vc : Value) : Prop where
 keys : SlR 1 IntC w vk T.keys
 kinds : SlR 1 IntsC w vkk T.kinds
 states : SlR 8 RowC w vs T.states
 codes : SlR 5 CodeC w vc T.codes
 ok : wfi T.strategy ∧ wfi T.syms ∧ wfi T.runs ∧ wfi T.cells
theorem TabX.of {w : World} {A : Array Value} {T : TTab} (h : TabC w A.toList T) : ∃ vk vkk vs vc, A = #[.int .i64 T.strategy, vk, vkk, .int .i64 T.syms, .int .i64 T.runs, .int .i64 T.cells, vs, vc] ∧ TabX w T vk vkk vs vc := by
 obtain ⟨vk, vkk, vs, vc, h1, h2, h3, h4, h5, h6⟩ := h
 exact ⟨vk, vkk, vs, vc, by cases A; simpa using h1, h2, h3, h4, h5, h6⟩
theorem TabX.keep {w w' : World} {T : TTab} {vk vkk vs vc : Value} (h : TabX w T vk vkk vs vc) (hk : KeepC w w') : TabX w' T vk vkk vs vc := ⟨keep_ints hk h.keys, keep_intss hk h.kinds, keep_rows hk h.states, keep_codes hk h.codes, h.ok⟩
theorem TabX.below {w w' : World} {T : TTab} {vk vkk vs vc : Value} (h : TabX w T vk vkk vs vc) (hb : Below w.heap.size w w') : TabX w' T vk vkk vs vc := h.keep (KeepC.of_below hb)
theorem rows_get {w : World} {v : Value} {rs : List TRow} (h : SlR 8 RowC w v rs) {i : Nat} {x : TRow} (hx : rs[i]? = some x) :
  ∃ b off c vb ve, v = .slice (some ⟨b, off, none⟩) rs.length c ∧ rs.length ≤ c ∧ c ≤ maxLen ∧ w.cell? ⟨b, off + i * 8, none⟩ = some (.int .i64 x.par) ∧ w.cell? ⟨b, off + i * 8 + 1, none⟩ = some (.int .i64 x.ty) ∧ w.cell? ⟨b, off + i * 8 + 2, none⟩ = some (.bool x.many) ∧
   w.cell? ⟨b, off + i * 8 + 3, none⟩ = some (.int .i64 x.win) ∧ w.cell? ⟨b, off + i * 8 + 4, none⟩ = some vb ∧ w.cell? ⟨b, off + i * 8 + 5, none⟩ = some (.int .i64 x.leave) ∧ w.cell? ⟨b, off + i * 8 + 6, none⟩ = some (.int .i64 x.guard) ∧
   w.cell? ⟨b, off + i * 8 + 7, none⟩ = some ve ∧ SlR 2 StopC w vb x.bars ∧ SlR 3 TailC w ve x.ends ∧ wfi x.par ∧ wfi x.ty ∧ wfi x.win ∧ wfi x.leave ∧ wfi x.guard := by
 obtain ⟨b, off, c, hv, h1, h2, hi, cs, hl, ⟨vb, ve, rfl, hs, ht, hw⟩, hc⟩ := h.get hx
 exact ⟨b, off, c, vb, ve, hv, h1, h2, hc 0 _ rfl, hc 1 _ rfl, hc 2 _ rfl, hc 3 _ rfl, hc 4 _ rfl, hc 5 _ rfl, hc 6 _ rfl, hc 7 _ rfl, hs, ht, hw⟩
def rowAt (rs : List TRow) (i : Int) : Option TRow := if 0 ≤ i then rs[i.toNat]? else none
theorem rowAt_nat (rs : List TRow) (n : Nat) : rowAt rs (n : Int) = rs[n]? := by unfold rowAt; rw [if_pos (by omega), Int.toNat_natCast]
theorem rowAt_some {rs : List TRow} {i : Int} {x : TRow} (h : rowAt rs i = some x) : ∃ n : Nat, i = n ∧ n < rs.length ∧ rs[n]? = some x := by
 unfold rowAt at h
 by_cases hi : 0 ≤ i
 ·rw [if_pos hi] at h; exact ⟨i.toNat, by omega, (List.getElem?_eq_some_iff.1 h).1, h⟩
 ·rw [if_neg hi] at h; cases h
theorem rowAt_none {rs : List TRow} {i : Int} (h : rowAt rs i = none) : i < 0 ∨ (rs.length : Int) ≤ i := by
 unfold rowAt at h
 by_cases hi : 0 ≤ i
 ·rw [if_pos hi] at h
  have := List.getElem?_eq_none_iff.1 h
  exact .inr (by omega)
 ·exact .inl (by omega)
def pathL (rs : List TRow) : Nat → Int → List Int
 | 0, _ => []
 | k + 1, i => match rowAt rs i with
  | none => []
  | some x => if 0 ≤ x.par ∧ x.par < i then pathL rs k x.par ++ [i] else [i]
def pathT (rs : List TRow) (i : Int) : List Int := pathL rs rs.length i
theorem pathL_len (rs : List TRow) : ∀ (k : Nat) (i : Int), (pathL rs k i).length ≤ k := by
 intro k
 induction k with
 | zero => intro i; simp [pathL]
 | succ k ih =>
  intro i
  simp only [pathL]
  cases rowAt rs i with
  | none => simp
  | some x =>
   simp only
   split
   ·have := ih x.par; simp; omega
   ·simp
theorem pathT_len (rs : List TRow) (i : Int) : (pathT rs i).length ≤ rs.length := pathL_len _ _ _
def iv (l : List Int) : List Value := l.map (Value.int .i64)
theorem info_int : (Try.prog.info? 3).map (fun i => (i.zero, i.size, i.bytes)) = some (some (.int .i64 0), 1, 8) := by kernel_rfl
theorem oneI {ev : Int} : ∀ u ∈ [Value.int .i64 ev], u.oneCell' = true := by
 intro u hu
 simp only [List.mem_cons, List.not_mem_nil, or_false] at hu
 subst hu; rfl
theorem own_slice {w : World} {base : Nat} {e : TypeId} {s n : Nat} {v : Value} {xs : List Value} (h : w.ownsRow base e s v n xs) : ∃ A c, v = .slice A n c := by
 rcases h.2 with ⟨rfl, rfl⟩ | ⟨g, cap, cur, rfl, _⟩
 ·have := h.1; exact ⟨none, 0, rfl⟩
 ·exact ⟨_, cap, rfl⟩
theorem own_caps {base : Nat} {w : World} {e : TypeId} {size n c : Nat} {A : Option Addr} {ys : List Value} (h : w.ownsRow base e size (.slice A n c) n ys) : n ≤ c ∧ c ≤ maxLen := by
 rcases h.2 with ⟨hv, hy⟩ | ⟨g, cap, cur, hv, _, _, hnc, hm, _⟩
 ·injection hv with _ h2 h3
  subst h2 h3
  exact ⟨Nat.le_refl _, by decide⟩
 ·injection hv with _ _ h3
  subst h3
  exact ⟨hnc, hm⟩
theorem own_lower {w : World} {B B' : Nat} {e : TypeId} {s n : Nat} {v : Value} {xs : List Value} (h : w.ownsRow B e s v n xs) (hB : B' ≤ B) : w.ownsRow B' e s v n xs := by
 refine ⟨h.1, ?_⟩
 rcases h.2 with h1 | ⟨g, cap, cur, hv, hb, hr⟩
 ·exact .inl h1
 ·exact .inr ⟨g, cap, cur, hv, by omega, hr⟩
def PathP (w : World) (l : List Int) (e : Ending) (w' : World) : Prop := ∃ v, e = .returned v ∧ w'.ownsRow w.heap.size 3 1 v l.length (iv l) ∧ Below w.heap.size w w'
theorem path_none (T : TTab) (vk vkk vs vc : Value) (w : World) (i : Int) (h : TabX w T vk vkk vs vc) (hi : rowAt T.states i = none) :
  Calls Try.prog 13 #[.agg #[.int .i64 T.strategy, vk, vkk, .int .i64 T.syms, .int .i64 T.runs, .int .i64 T.cells, vs, vc], .int .i64 i] w (PathP w []) := by
 obtain ⟨A, c, rfl, hc1, hc2⟩ := h.states.slice
 have HB := Lib.hid (fun o => (Below.refl w.heap.size w).alloc (Nat.le_refl _) o)
 unfold maxLen at hc2
 clear h
 rcases rowAt_none hi with i0 | i0
 ·clear hi
  go_enter Try.func13, Try.ntmps13
  go_wp2_with fail
  go_ret
  exact ⟨_, rfl, World.ownsRow_nil _ _ _ _, HB.out _⟩
 ·have i1 : ¬ i < 0 := by omega
  clear hi
  go_enter Try.func13, Try.ntmps13
  go_wp2_with fail
  go_ret
  exact ⟨_, rfl, World.ownsRow_nil _ _ _ _, HB.out _⟩
set_option maxRecDepth 100000 in
set_option maxHeartbeats 4000000 in
theorem path_fuel (T : TTab) (vk vkk vs vc : Value) (hn : T.states.length ≤ 1500000000000) (k : Nat) : ∀ (i : Int) (w : World), k ≤ 1500000000000 → i < k → TabX w T vk vkk vs vc →
  Calls Try.prog 13 #[.agg #[.int .i64 T.strategy, vk, vkk, .int .i64 T.syms, .int .i64 T.runs, .int .i64 T.cells, vs, vc], .int .i64 i] w (PathP w (pathL T.states k i)) := by
 induction k with
 | zero =>
  intro i w _ hi h
  exact path_none T vk vkk vs vc w i h (by unfold rowAt; rw [if_neg (by omega)])
 | succ k ih =>
  intro i w hk hi h
  cases hr : rowAt T.states i with
  | none =>
   have e : pathL T.states (k + 1) i = [] := by simp only [pathL, hr]
   rw [e]
   exact path_none T vk vkk vs vc w i h hr
  | some x =>
   obtain ⟨q, rfl, hq, hx⟩ := rowAt_some hr
   have e : pathL T.states (k + 1) q = if 0 ≤ x.par ∧ x.par < q then pathL T.states k x.par ++ [(q : Int)] else [(q : Int)] := by simp only [pathL, hr]
   rw [e]
   obtain ⟨b, off, c, vb, ve, rfl, hc1, hc2, q0, _⟩ := rows_get h.states hx
   have hbl := cell_in q0
   have HB := Lib.hid (fun o => (Below.refl w.heap.size w).alloc (Nat.le_refl _) o)
   have b1 : (0 : Int) ≤ (q : Int) := by omega
   have b2 : (q : Int) < (T.states.length : Int) := by omega
   have hll := pathL_len T.states k x.par
   have IH := Lib.hid (fun o => ih x.par (w.alloc o))
   have HX := Lib.hid (fun o => h.below ((Below.refl w.heap.size w).alloc (Nat.le_refl _) o))
   have HKQ := Lib.hid hi
   unfold maxLen at hc2
   obtain ⟨p, hp⟩ : ∃ p, x.par = p := ⟨_, rfl⟩
   rw [hp] at q0 IH hll ⊢
   clear h hr hx e hp ih
   by_cases hcond : 0 ≤ p ∧ p < q
   ·rw [if_pos hcond]
    obtain ⟨h0, h1⟩ := hcond
    obtain ⟨L, hL⟩ : ∃ L, pathL T.states k p = L := ⟨_, rfl⟩
    rw [hL] at IH hll ⊢
    obtain ⟨i2, hi2, hz2, hs2, hb2⟩ := info_parts info_int
    have HI := Lib.hid (fun o => IH.out o (by omega) (by have := HKQ.out; omega) (HX.out o))
    clear hL IH HX
    go_enter Try.func13, Try.ntmps13
    go_wp2_with fail
    refine (HI.out _).mono ?_
    rintro e w2 ⟨v, rfl, ho, hb⟩
    rw [World.size_alloc] at ho hb
    have OL := Lib.hid (fun o => ho.alloc o)
    have B2 := Lib.hid ((HB.out _).trans (hb.mono (by omega)))
    have hle : L.length ≤ 1500000000000 := by omega
    have hs9 : w.heap.size + 1 ≤ w2.heap.size := by have := hb.size; simpa using this
    clear ho hb HI
    go_wp2_with (at_builtin; refine wpList_append_any _ rfl (.tmp 30) (.tmp 32) 22 rfl (w.heap.size + 1) 3 i2 _ 1 8 Try.underlying22 hi2 hz2 hs2 hb2 rfl (by omega) v L.length (iv L) rfl (OL.out _) (w2.heap.size + 1) (some ⟨w2.heap.size, 0, none⟩) 1 1 [.int .i64 q] rfl (reads_one _ _ _ _) oneI ?c1 ?c2 ?c3 ?_; rotate_left 3; intro v4 w4 ho4 hg hat)
    case c1 => unfold maxLen; omega
    case c2 => omega
    case c3 => simp; omega
    go_ret
    refine ⟨_, rfl, ?_, ?_⟩
    ·have h1 := own_lower ho4 (Nat.le_succ w.heap.size)
     simpa [iv] using h1
    ·exact (B2.out.alloc B2.out.size _).grown hg (by have := B2.out.size; simp; omega) (fun g e => by have := ((OL.out (.cells #[.int .i64 q] 3)).lt g e).1; omega)
   ·rw [if_neg hcond]
    have OL := Lib.hid (fun o => World.ownsRow_lit (base := w.heap.size) (e := 3) (size := 1) (w.alloc o) #[.int .i64 q] 1 (by simp) (by decide) rfl)
    have B2 := Lib.hid (fun o o2 => ((Below.refl w.heap.size w).alloc (Nat.le_refl _) o).alloc (by simp) o2)
    have hd : p < 0 ∨ (q : Int) ≤ p := by omega
    clear IH HX hcond
    rcases hd with h0 | h1
    ·go_enter Try.func13, Try.ntmps13
     go_wp2_with fail
     go_ret
     refine ⟨_, rfl, ?_, B2.out _ _⟩
     have h9 := OL.out (.cells #[.int .i64 T.strategy, vk, vkk, .int .i64 T.syms, .int .i64 T.runs, .int .i64 T.cells, .slice (some ⟨b, off, none⟩) T.states.length c, vc] 27)
     rw [World.size_alloc] at h9
     exact h9
    ·by_cases h0 : p < 0
     ·omega
     ·go_enter Try.func13, Try.ntmps13
      go_wp2_with fail
      go_ret
      refine ⟨_, rfl, ?_, B2.out _ _⟩
      have h9 := OL.out (.cells #[.int .i64 T.strategy, vk, vkk, .int .i64 T.syms, .int .i64 T.runs, .int .i64 T.cells, .slice (some ⟨b, off, none⟩) T.states.length c, vc] 27)
      rw [World.size_alloc] at h9
      exact h9
theorem path_any (T : TTab) (vk vkk vs vc : Value) (hn : T.states.length ≤ 1500000000000) (i : Int) (w : World) (h : TabX w T vk vkk vs vc) :
  Calls Try.prog 13 #[.agg #[.int .i64 T.strategy, vk, vkk, .int .i64 T.syms, .int .i64 T.runs, .int .i64 T.cells, vs, vc], .int .i64 i] w (PathP w (pathT T.states i)) := by
 by_cases hi : i < T.states.length
 ·exact path_fuel T vk vkk vs vc hn _ i w hn hi h
 ·have hr : rowAt T.states i = none := by
   unfold rowAt
   rw [if_pos (by omega)]
   exact List.getElem?_eq_none (by omega)
  have e : pathT T.states i = [] := by
   unfold pathT
   cases T.states.length with
   | zero => rfl
   | succ k => simp only [pathL, hr]
  rw [e]
  exact path_none T vk vkk vs vc w i h hr
end Go.Proofs.Ytioocaicmiggoaa
namespace Go.Proofs.Ytioocaicmiggoaa
set_option linter.unusedVariables false
set_option linter.unusedSimpArgs false
open Go.RowKit Go.Deep
theorem reads_up {w w' : World} {A : Option Addr} {n : Nat} {xs : List Value} (h : Reads w w.heap.size 1 A n xs) (hb : Below w.heap.size w w') : Reads w' w'.heap.size 1 A n xs := (h.below hb).more hb.size
theorem iv_one (l : List Int) : ∀ u ∈ iv l, u.oneCell' = true := by
 intro u hu
 unfold iv at hu
 rw [List.mem_map] at hu
 obtain ⟨a, _, rfl⟩ := hu
 rfl
theorem pathL_none {rs : List TRow} {i : Int} (h : rowAt rs i = none) (k : Nat) : pathL rs k i = [] := by
 cases k with
 | zero => rfl
 | succ k => simp only [pathL, h]
def RPathR (w1 : World) (rs : List TRow) (E : List Int) (k : Nat) (j : Int) (vl : Value) (wr : World) : Prop :=
 ∃ (l : List Int) (A : Option Addr) (c : Nat), vl = .slice A l.length c ∧ Reads wr wr.heap.size 1 A l.length (iv l) ∧ pathL rs k j ++ l = E ∧ Below w1.heap.size w1 wr ∧ (j < k ∨ rowAt rs j = none) ∧ l.length + k ≤ rs.length ∧ l.length ≤ c ∧ c ≤ maxLen
def PathQ (w : World) (E : List Int) (e : Ending) (w' : World) : Prop := ∃ A c, e = .returned (.slice A E.length c) ∧ Reads w' w'.heap.size 1 A E.length (iv E) ∧ Below w.heap.size w w'
theorem RPathR.done {w1 wr : World} {rs : List TRow} {E : List Int} {k : Nat} {j : Int} {vl : Value} (h : RPathR w1 rs E k j vl wr) (hj : rowAt rs j = none) : ∃ A c, vl = .slice A E.length c ∧ Reads wr wr.heap.size 1 A E.length (iv E) ∧ Below w1.heap.size w1 wr := by
 obtain ⟨l, A, c, rfl, h1, h2, h3, _⟩ := h
 rw [pathL_none hj] at h2
 have h2 : l = E := h2
 subst h2
 exact ⟨A, c, rfl, h1, h3⟩
theorem RPathR.step {w1 wr : World} {rs : List TRow} {E : List Int} {k q : Nat} {x : TRow} {vl : Value} (h : RPathR w1 rs E k q vl wr) (hx : rs[q]? = some x) :
  ∃ (l : List Int) (A : Option Addr) (c : Nat), vl = .slice A l.length c ∧ Reads wr wr.heap.size 1 A l.length (iv l) ∧ l.length + 1 ≤ rs.length ∧ 0 < k ∧ Below w1.heap.size w1 wr ∧
   ∀ (w4 : World) (v4 : Value), Below wr.heap.size wr w4 → w4.ownsRow wr.heap.size 3 1 v4 (1 + l.length) ([.int .i64 q] ++ iv l) →
    ((q : Int) ≤ x.par → ∃ A c, v4 = .slice A E.length c ∧ Reads w4 w4.heap.size 1 A E.length (iv E) ∧ Below w1.heap.size w1 w4) ∧ (x.par < q → RPathR w1 rs E (k - 1) x.par v4 w4) := by
 obtain ⟨l, A, c, rfl, h1, h2, h3, h4, h5, h6, h7⟩ := h
 have hr : rowAt rs (q : Int) = some x := by rw [rowAt_nat]; exact hx
 have h4 : (q : Int) < k := h4.resolve_right (by rw [hr]; simp)
 refine ⟨l, A, c, rfl, h1, by omega, by omega, h3, fun w4 v4 hb ho => ?_⟩
 obtain ⟨k, rfl⟩ : ∃ k', k = k' + 1 := ⟨k - 1, by omega⟩
 have e : pathL rs (k + 1) q = if 0 ≤ x.par ∧ x.par < q then pathL rs k x.par ++ [(q : Int)] else [(q : Int)] := by simp only [pathL, hr]
 obtain ⟨A4, c4, rfl⟩ := own_slice ho
 obtain ⟨hc4, hm4⟩ := own_caps ho
 have hr4 := Reads.of_own ho
 have hbw := h3.trans (hb.mono h3.size)
 refine ⟨fun hp => ?_, fun hp => ?_⟩
 ·rw [e, if_neg (by omega)] at h2
  have h2 : (q : Int) :: l = E := h2
  have hl : E.length = 1 + l.length := by rw [← h2]; simp; omega
  refine ⟨A4, c4, by rw [hl], ?_, hbw⟩
  rw [hl, ← h2]; exact hr4
 ·have h9 : pathL rs k x.par ++ ((q : Int) :: l) = E := by
   by_cases h0 : 0 ≤ x.par
   ·rw [e, if_pos ⟨h0, hp⟩] at h2
    rw [← h2]; simp
   ·rw [e, if_neg (by omega)] at h2
    have hn : rowAt rs x.par = none := by unfold rowAt; rw [if_neg h0]
    rw [pathL_none hn]; exact h2
  have hl : ((q : Int) :: l).length = 1 + l.length := by simp; omega
  exact ⟨(q : Int) :: l, A4, c4, by rw [hl], by rw [hl]; exact hr4, h9, hbw, .inl (by simp; omega), by simp; omega, by rw [hl]; exact hc4, hm4⟩
set_option maxRecDepth 100000 in
set_option maxHeartbeats 4000000 in
theorem rpath_any (T : TTab) (vk vkk vs vc : Value) (hn : T.states.length ≤ 1500000000000) (i : Int) (w : World) (h : TabX w T vk vkk vs vc) :
  Calls Try.prog 14 #[.agg #[.int .i64 T.strategy, vk, vkk, .int .i64 T.syms, .int .i64 T.runs, .int .i64 T.cells, vs, vc], .int .i64 i] w (PathQ w (pathT T.states i)) := by
 obtain ⟨A, c, rfl, hc1, hc2⟩ := h.states.slice
 obtain ⟨E, hE⟩ : ∃ E, pathT T.states i = E := ⟨_, rfl⟩
 rw [hE]
 have HX := Lib.hid h
 have BX := Lib.hid (Blk.new w 27 #[.int .i64 T.strategy, vk, vkk, .int .i64 T.syms, .int .i64 T.runs, .int .i64 T.cells, .slice A T.states.length c, vc])
 have B0 := Lib.hid ((Below.refl w.heap.size w).alloc (Nat.le_refl _) (.cells #[.int .i64 T.strategy, vk, vkk, .int .i64 T.syms, .int .i64 T.runs, .int .i64 T.cells, .slice A T.states.length c, vc] 27))
 have R0 : Hid (RPathR (w.alloc (.cells #[.int .i64 T.strategy, vk, vkk, .int .i64 T.syms, .int .i64 T.runs, .int .i64 T.cells, .slice A T.states.length c, vc] 27)) T.states E T.states.length i (.slice none 0 0) (w.alloc (.cells #[.int .i64 T.strategy, vk, vkk, .int .i64 T.syms, .int .i64 T.runs, .int .i64 T.cells, .slice A T.states.length c, vc] 27))) := Lib.hid
  ⟨[], none, 0, rfl, Reads.none_, by rw [List.append_nil]; exact hE, Below.refl _ _, by
   by_cases hi : i < T.states.length
   ·exact .inl hi
   ·refine .inr ?_
    unfold rowAt
    rw [if_pos (by omega)]
    exact List.getElem?_eq_none (by omega), by simp, by simp, by decide⟩
 unfold maxLen at hc2
 obtain ⟨i2, hi2, hz2, hs2, hb2⟩ := info_parts info_int
 clear h hE
 go_enter Try.func14, Try.ntmps14
 go_wp2_with fail
 go_loopg [1, 5] T.states.length (fun k i l wr => ∃ j, i = .int .i64 j ∧ RPathR (w.alloc (.cells #[.int .i64 T.strategy, vk, vkk, .int .i64 T.syms, .int .i64 T.runs, .int .i64 T.cells, .slice A T.states.length c, vc] 27)) T.states E k j l wr)
 case atStart => exact ⟨_, rfl, R0.out⟩
 case round =>
  clear R0
  obtain ⟨j, rfl, hR⟩ := hrel
  have hbw : Below (w.heap.size + 1) (w.alloc (.cells #[.int .i64 T.strategy, vk, vkk, .int .i64 T.syms, .int .i64 T.runs, .int .i64 T.cells, .slice A T.states.length c, vc] 27)) wr := by
   obtain ⟨_, _, _, _, _, _, hb, _⟩ := hR
   rw [World.size_alloc] at hb; exact hb
  have k6 := (BX.out.below hbw (by omega)).cell 6
  have X := HX.out.below (B0.out.trans (hbw.mono (by omega)))
  cases hj : rowAt T.states j with
  | none =>
   obtain ⟨A9, c9, rfl, h91, h92⟩ := hR.done hj
   have H9 := Lib.hid (And.intro h91 (B0.out.trans (h92.mono (by simp))))
   clear hR X hbw h91 h92
   rcases rowAt_none hj with i0 | i0
   ·clear hj
    go_wp2_with fail
    go_ret
    exact ⟨_, _, rfl, H9.out⟩
   ·have i1 : (0 : Int) ≤ j := by omega
    clear hj
    go_wp2_with fail
    go_ret
    exact ⟨_, _, rfl, H9.out⟩
  | some x =>
   obtain ⟨q, rfl, hq, hx⟩ := rowAt_some hj
   obtain ⟨l, A2, c2, rfl, hL, hll, hk0, _, hst⟩ := hR.step hx
   obtain ⟨b, off, c5, vb, ve, hv, _, _, q0, _⟩ := rows_get X.states hx
   injection hv with hv1 hv2 hv3
   subst hv1
   have b1 : (0 : Int) ≤ (q : Int) := by omega
   have b2 : (q : Int) < (T.states.length : Int) := by omega
   obtain ⟨p, hp⟩ : ∃ p, x.par = p := ⟨_, rfl⟩
   rw [hp] at q0 hst
   obtain ⟨nl, hnl⟩ : ∃ nl, l.length = nl := ⟨_, rfl⟩
   rw [hnl] at hst hL hll ⊢
   have hle : nl ≤ 1500000000000 := by omega
   have ST := Lib.hid hst
   have HL := Lib.hid hL
   have HBW := Lib.hid hbw
   have HXX := Lib.hid X
   have OL := Lib.hid (World.ownsRow_lit (base := wr.heap.size) (e := 3) (size := 1) wr #[.int .i64 q] 1 (Nat.le_refl _) (by decide) rfl)
   have BL := Lib.hid (fun o => (Below.refl wr.heap.size wr).alloc (Nat.le_refl _) o)
   have HQ0 := Lib.hid q0
   have HB9 := Lib.hid (fun w4 (hb4 : Below wr.heap.size wr w4) => And.intro ((BX.out.below hbw (by omega)).below hb4 (by have := hbw.size; rw [World.size_alloc] at this; omega)) ((KeepC.of_below hb4) _ _ q0))
   clear hR hj hx hst hL hbw X hv2 hv3 hp hnl q0
   go_wp2_with (at_builtin; refine wpList_append_any _ rfl (.tmp 17) (.tmp 18) 22 rfl wr.heap.size 3 i2 _ 1 8 Try.underlying22 hi2 hz2 hs2 hb2 rfl (by omega) (.slice (some ⟨wr.heap.size, 0, none⟩) 1 1) 1 [.int .i64 q] rfl OL.out wr.heap.size A2 nl c2 (iv l) rfl (HL.out.alloc (Nat.le_refl _) _) (iv_one l) ?c1 ?c2 ?c3 ?_; rotate_left 3; intro v4 w4 ho hg hat; have hb4 := Lib.hid ((BL.out (.cells #[.int .i64 q] 3)).grown hg (by simp) (fun g9 e9 => by simp [Value.ownBlock] at e9; omega)); have HO4 := Lib.hid ho; clear ho hg hat; have q0 := (HB9.out w4 hb4.out).2; have k6 := (HB9.out w4 hb4.out).1.cell 6)
   case c1 => unfold maxLen; omega
   case c2 => omega
   ·have hpq : (q : Int) ≤ p := by assumption
    obtain ⟨A9, c9, rfl, h91, h92⟩ := (ST.out w4 v4 hb4.out HO4.out).1 hpq
    go_ret
    exact ⟨_, _, rfl, h91, B0.out.trans (h92.mono (by simp))⟩
   ·have hpq : p < (q : Int) := by first | assumption | omega
    have HH := Lib.hid ((ST.out w4 v4 hb4.out HO4.out).2 hpq)
    go_roundg (gk - 1)
    case measure => omega
    case rel => exact ⟨_, rfl, HH.out⟩
end Go.Proofs.Ytioocaicmiggoaa
namespace Go.Proofs.Ytioocaicmiggoaa
set_option linter.unusedVariables false
set_option linter.unusedSimpArgs false
open Go.RowKit Go.Deep
theorem tails_get {w : World} {v : Value} {l : List TTail} (h : SlR 3 TailC w v l) {i : Nat} {x : TTail} (hx : l[i]? = some x) :
  ∃ b off c vb, v = .slice (some ⟨b, off, none⟩) l.length c ∧ l.length ≤ c ∧ c ≤ maxLen ∧ w.cell? ⟨b, off + i * 3, none⟩ = some (.int .i64 x.br) ∧ w.cell? ⟨b, off + i * 3 + 1, none⟩ = some (.int .i64 x.cl) ∧ w.cell? ⟨b, off + i * 3 + 2, none⟩ = some vb ∧ SlR 2 StopC w vb x.bars ∧ wfi x.br ∧ wfi x.cl := by
 obtain ⟨b, off, c, hv, h1, h2, hi, cs, hl, ⟨vb, rfl, hs, hw⟩, hc⟩ := h.get hx
 exact ⟨b, off, c, vb, hv, h1, h2, hc 0 _ rfl, hc 1 _ rfl, hc 2 _ rfl, hs, hw⟩
theorem codes_get {w : World} {v : Value} {l : List TCode} (h : SlR 5 CodeC w v l) {i : Nat} {x : TCode} (hx : l[i]? = some x) :
  ∃ b off c vi vc vl, v = .slice (some ⟨b, off, none⟩) l.length c ∧ l.length ≤ c ∧ c ≤ maxLen ∧ w.cell? ⟨b, off + i * 5, none⟩ = some (.int .i64 x.regs) ∧ w.cell? ⟨b, off + i * 5 + 1, none⟩ = some (.int .i64 x.slots) ∧ w.cell? ⟨b, off + i * 5 + 2, none⟩ = some vi ∧
   w.cell? ⟨b, off + i * 5 + 3, none⟩ = some vc ∧ w.cell? ⟨b, off + i * 5 + 4, none⟩ = some vl ∧ SlR 4 InpC w vi x.inputs ∧ SlR 2 ValC w vc x.consts ∧ SlR 4 InsC w vl x.list ∧ wfi x.regs ∧ wfi x.slots := by
 obtain ⟨b, off, c, hv, h1, h2, hi, cs, hl, ⟨vi, vc, vl, rfl, hs, ht, hu, hw⟩, hc⟩ := h.get hx
 exact ⟨b, off, c, vi, vc, vl, hv, h1, h2, hc 0 _ rfl, hc 1 _ rfl, hc 2 _ rfl, hc 3 _ rfl, hc 4 _ rfl, hs, ht, hu, hw⟩
set_option maxRecDepth 100000 in
set_option maxHeartbeats 4000000 in
theorem few_any (T : TTab) (vk vkk vs vc : Value) (w : World) (h : TabX w T vk vkk vs vc) :
  Calls Try.prog 7 #[.agg #[.int .i64 T.strategy, vk, vkk, .int .i64 T.syms, .int .i64 T.runs, .int .i64 T.cells, vs, vc]] w fun e w' => ∃ b, e = .returned (.bool b) ∧ Below w.heap.size w w' := by
 obtain ⟨A, c, rfl, hc1, hc2⟩ := h.states.slice
 obtain ⟨A2, c2, rfl, hc3, hc4⟩ := h.codes.slice
 obtain ⟨A3, c3, rfl, hc5, hc6⟩ := h.kinds.slice
 have HX := Lib.hid (fun W (hb : Below w.heap.size w W) => h.below hb)
 have B0 := Lib.hid (fun o => (Below.refl w.heap.size w).alloc (Nat.le_refl _) o)
 have BX := Lib.hid (Blk.new w 27 #[.int .i64 T.strategy, vk, .slice A3 T.kinds.length c3, .int .i64 T.syms, .int .i64 T.runs, .int .i64 T.cells, .slice A T.states.length c, .slice A2 T.codes.length c2])
 unfold maxLen at hc2 hc4 hc6
 have hnn : (0 : Int) ≤ (T.states.length : Int) := by omega
 clear h
 go_enter Try.func7, Try.ntmps7
 go_wp2_with fail
 go_loopw [3, 25] (fun s i wr => ∃ (r : Nat) (x : Int), r ≤ T.states.length ∧ i = .int .i64 r ∧ s = .int .i64 x ∧ Below (w.heap.size + 1) (w.alloc (.cells #[.int .i64 T.strategy, vk, .slice A3 T.kinds.length c3, .int .i64 T.syms, .int .i64 T.runs, .int .i64 T.cells, .slice A T.states.length c, .slice A2 T.codes.length c2] 27)) wr) (fun _ i _ => T.states.length - (intOf i).toNat)
 case atStart => exact ⟨0, _, Nat.zero_le _, rfl, rfl, Below.refl _ _⟩
 case round =>
  obtain ⟨r, x, hr, rfl, rfl, hb⟩ := hrel
  have hb0 := Lib.hid ((B0.out _).trans (hb.mono (by omega)))
  have X := Lib.hid (HX.out wr hb0.out)
  by_cases hlt : r < T.states.length
  ·obtain ⟨y, hy⟩ : ∃ y, T.states[r]? = some y := ⟨_, List.getElem?_eq_getElem hlt⟩
   obtain ⟨b, off, c5, vb, ve, hv, _, _, q0, q1, q2, q3, q4, q5, q6, q7, hbars, hends, _⟩ := rows_get X.out.states hy
   injection hv with hv1 hv2 hv3
   subst hv1
   obtain ⟨A6, c6, rfl, hc7, hc8⟩ := hbars.slice
   obtain ⟨A7, c7, rfl, hc9, hc10⟩ := hends.slice
   unfold maxLen at hc8 hc10
   have b1 : (0 : Int) ≤ (r : Int) := by omega
   have b2 : (r : Int) < (T.states.length : Int) := by omega
   have hwr : w.heap.size + 1 ≤ wr.heap.size := by have := hb.size; simpa using this
   have HE := Lib.hid hends
   clear hy hv2 hv3 hbars hends
   go_upto_region 5 with fail
   go_cut [3] from 29 to 39 (fun s wx => (∃ x : Int, s = .int .i64 x) ∧ wx = wr.alloc (.cells #[.int .i64 y.par, .int .i64 y.ty, .bool y.many, .int .i64 y.win, .slice A6 y.bars.length c6, .int .i64 y.leave, .int .i64 y.guard, .slice A7 y.ends.length c7] 46))
   case first =>
    go_wp2_with fail
    all_goals (go_meet; exact ⟨⟨_, rfl⟩, rfl⟩)
   case rest =>
    obtain ⟨⟨x2, rfl⟩, rfl⟩ := hcut
    have B1 := Lib.hid (fun o => (Below.refl wr.heap.size wr).alloc (Nat.le_refl _) o)
    have HB := Lib.hid hb
    have n7 : (0 : Int) ≤ (y.ends.length : Int) := by omega
    clear hb q0 q1 q2 q3 q4 q5 q6 q7
    go_wp2_with fail
    go_loopw [3, 43] (fun s i wx => ∃ (r2 : Nat) (x : Int), r2 ≤ y.ends.length ∧ i = .int .i64 r2 ∧ s = .int .i64 x ∧ Below wr.heap.size wr wx) (fun _ i _ => y.ends.length - (intOf i).toNat)
    case atStart => exact ⟨0, _, Nat.zero_le _, rfl, rfl, B1.out _⟩
    case round =>
     obtain ⟨r2, x3, hr2, rfl, rfl, hbx⟩ := hrel
     by_cases hlt2 : r2 < y.ends.length
     ·obtain ⟨z, hz⟩ : ∃ z, y.ends[r2]? = some z := ⟨_, List.getElem?_eq_getElem hlt2⟩
      obtain ⟨b7, off7, c8, vb8, hv, _, _, t0, t1, t2, hb8, _⟩ := tails_get (keep_tails (KeepC.of_below hbx) HE.out) hz
      injection hv with hv1 hv2 hv3
      subst hv1
      obtain ⟨A8, c9, rfl, hc11, hc12⟩ := hb8.slice
      unfold maxLen at hc12
      have d1 : (0 : Int) ≤ (r2 : Int) := by omega
      have d2 : (r2 : Int) < (y.ends.length : Int) := by omega
      have HBX := Lib.hid (fun o => hbx.alloc hbx.size o)
      clear hz hv2 hv3 hb8 hbx
      by_cases h99 : (z.bars.length : Int) < 9999
      ·go_wp2_with fail
       go_roundw
       case rel => first | exact ⟨r2 + 1, _, by omega, by go_num, rfl, HBX.out _⟩ | ((repeat apply Exists.intro); exact ⟨⟨r2 + 1, _, by omega, by go_num, rfl, HBX.out _⟩, rfl⟩)
       case measure => simp [intOf]; omega
      ·have h98 : (9999 : Int) ≤ (z.bars.length : Int) := by omega
       go_wp2_with fail
       go_roundw
       case rel => first | exact ⟨r2 + 1, _, by omega, by go_num, rfl, HBX.out _⟩ | ((repeat apply Exists.intro); exact ⟨⟨r2 + 1, _, by omega, by go_num, rfl, HBX.out _⟩, rfl⟩)
       case measure => simp [intOf]; omega
     ·have hge : (y.ends.length : Int) ≤ (r2 : Int) := by omega
      have HO := Lib.hid (HB.out.trans (hbx.mono (by omega)))
      clear hbx
      go_wp2_with fail
      go_roundw
      case rel => first | exact ⟨r + 1, _, by omega, by go_num, rfl, HO.out⟩ | ((repeat apply Exists.intro); exact ⟨⟨r + 1, _, by omega, by go_num, rfl, HO.out⟩, rfl⟩)
      case measure => simp [intOf]; omega
  ·have hge : (T.states.length : Int) ≤ (r : Int) := by omega
   have k7 := (BX.out.below hb (by omega)).cell 7
   have n9 : (0 : Int) ≤ (T.codes.length : Int) := by omega
   have HCO := Lib.hid X.out.codes
   have HB0 := Lib.hid hb0.out
   clear hb X
   go_wp2_with fail
   go_loopw [3, 58] (fun s i wx => ∃ (r2 : Nat) (x : Int), r2 ≤ T.codes.length ∧ i = .int .i64 r2 ∧ s = .int .i64 x ∧ Below wr.heap.size wr wx) (fun _ i _ => T.codes.length - (intOf i).toNat)
   case atStart => exact ⟨0, _, Nat.zero_le _, rfl, rfl, Below.refl _ _⟩
   case round =>
    obtain ⟨r2, x3, hr2, rfl, rfl, hbx⟩ := hrel
    by_cases hlt2 : r2 < T.codes.length
    ·obtain ⟨z, hz⟩ : ∃ z, T.codes[r2]? = some z := ⟨_, List.getElem?_eq_getElem hlt2⟩
     obtain ⟨b7, off7, c8, vi, vc8, vl, hv, _, _, t0, t1, t2, t3, t4, hi8, hcc8, hl8, _⟩ := codes_get (keep_codes (KeepC.of_below hbx) HCO.out) hz
     injection hv with hv1 hv2 hv3
     subst hv1
     obtain ⟨A8, c9, rfl, hc11, hc12⟩ := hi8.slice
     obtain ⟨A9, c10, rfl, hc13, hc14⟩ := hl8.slice
     obtain ⟨A5, c11, rfl, hc15, hc16⟩ := hcc8.slice
     unfold maxLen at hc12 hc14
     have d1 : (0 : Int) ≤ (r2 : Int) := by omega
     have d2 : (r2 : Int) < (T.codes.length : Int) := by omega
     have HBX := Lib.hid (fun o => hbx.alloc hbx.size o)
     clear hz hv2 hv3 hi8 hcc8 hl8 hbx
     by_cases h99 : (z.inputs.length : Int) < 9999
     ·by_cases h89 : (z.list.length : Int) < 9999
      ·have h00 := h99
       go_wp2_with fail
       go_roundw
       case rel => first | exact ⟨r2 + 1, _, by omega, by go_num, rfl, HBX.out _⟩ | ((repeat apply Exists.intro); exact ⟨⟨r2 + 1, _, by omega, by go_num, rfl, HBX.out _⟩, rfl⟩)
       case measure => simp [intOf]; omega
      ·have h88 : (9999 : Int) ≤ (z.list.length : Int) := by omega
       go_wp2_with fail
       go_roundw
       case rel => first | exact ⟨r2 + 1, _, by omega, by go_num, rfl, HBX.out _⟩ | ((repeat apply Exists.intro); exact ⟨⟨r2 + 1, _, by omega, by go_num, rfl, HBX.out _⟩, rfl⟩)
       case measure => simp [intOf]; omega
     ·have h98 : (9999 : Int) ≤ (z.inputs.length : Int) := by omega
      by_cases h89 : (z.list.length : Int) < 9999
      ·have h00 := h98
       go_wp2_with fail
       go_roundw
       case rel => first | exact ⟨r2 + 1, _, by omega, by go_num, rfl, HBX.out _⟩ | ((repeat apply Exists.intro); exact ⟨⟨r2 + 1, _, by omega, by go_num, rfl, HBX.out _⟩, rfl⟩)
       case measure => simp [intOf]; omega
      ·have h88 : (9999 : Int) ≤ (z.list.length : Int) := by omega
       go_wp2_with fail
       go_roundw
       case rel => first | exact ⟨r2 + 1, _, by omega, by go_num, rfl, HBX.out _⟩ | ((repeat apply Exists.intro); exact ⟨⟨r2 + 1, _, by omega, by go_num, rfl, HBX.out _⟩, rfl⟩)
       case measure => simp [intOf]; omega
    ·have hge2 : (T.codes.length : Int) ≤ (r2 : Int) := by omega
     have HO := Lib.hid (HB0.out.trans (hbx.mono HB0.out.size))
     clear hbx
     go_wp2_with fail
     go_ret
     exact ⟨_, rfl, HO.out⟩
end Go.Proofs.Ytioocaicmiggoaa

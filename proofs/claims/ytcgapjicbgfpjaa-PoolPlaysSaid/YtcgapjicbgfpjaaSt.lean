/-
  A pool's state as a list of cells that are there or not, what its map then holds, and how it lies in memory.
-/
import Derived.Test.YtcgapjicbgfpjaaKey
namespace Go.Proofs.Ytcgapjicbgfpjaa
set_option linter.unusedVariables false
set_option linter.unusedSimpArgs false
open Go.RowKit Go.Maps

/-- a cell -/
structure Cl where
  prev : Int
  event : Int
  fresh : Bool
  own : Int
  behind : Int
def Cl.cells (c : Cl) : List Value := [.int .i64 c.prev, .int .i64 c.event, .bool c.fresh, .int .i64 c.own, .int .i64 c.behind]
abbrev St := List (Option Cl)
def isKey (p e : Int) (f : Bool) : Option Cl → Bool
  | some c => decide (c.prev = p) && decide (c.event = e) && (c.fresh == f)
  | none => false
def idx (S : St) (p e : Int) (f : Bool) : Option Nat := S.findIdx? (isKey p e f)
def cnt (S : St) : Nat := S.countP Option.isSome
def at? (S : St) (i : Nat) : Option Cl := (S[i]?).join
def hasB (S : St) (i : Int) : Bool := decide (0 ≤ i) && (at? S i.toNat).isSome
def DOk (D : DataW Unit) (S : St) : Prop :=
  (∀ p e f, wfi p → wfi e → Maps.has D (kl p e f) = (idx S p e f).isSome ∧ D.atKey (kl p e f) (.lit (.int .i64 0)) = .lit (.int .i64 ((idx S p e f).getD 0 : Nat))) ∧ Maps.size D = cnt S

theorem at_some {S : St} {i : Nat} {c : Cl} : at? S i = some c ↔ S[i]? = some (some c) := by
  unfold at?
  cases h : S[i]? with
  | none => simp
  | some o => cases o <;> simp
theorem at_lt {S : St} {i : Nat} {c : Cl} (h : at? S i = some c) : i < S.length := by
  rw [at_some] at h
  exact (List.getElem?_eq_some_iff.1 h).1
theorem isKey_iff {p e : Int} {f : Bool} {o : Option Cl} : isKey p e f o = true ↔ ∃ c, o = some c ∧ c.prev = p ∧ c.event = e ∧ c.fresh = f := by
  cases o with
  | none => simp [isKey]
  | some c => simp [isKey, and_assoc]
theorem idx_some {S : St} {p e : Int} {f : Bool} {i : Nat} (h : idx S p e f = some i) : ∃ c, at? S i = some c ∧ c.prev = p ∧ c.event = e ∧ c.fresh = f := by
  unfold idx at h
  rw [List.findIdx?_eq_some_iff_getElem] at h
  obtain ⟨hi, hk, _⟩ := h
  obtain ⟨c, hc, h1⟩ := isKey_iff.1 hk
  exact ⟨c, at_some.2 (by rw [List.getElem?_eq_getElem hi, hc]), h1⟩
theorem idx_none {S : St} {p e : Int} {f : Bool} (h : idx S p e f = none) {i : Nat} {c : Cl} (hc : at? S i = some c) : ¬ (c.prev = p ∧ c.event = e ∧ c.fresh = f) := by
  unfold idx at h
  rw [List.findIdx?_eq_none_iff] at h
  intro h1
  have h2 := at_some.1 hc
  have h3 := h (some c) (List.mem_of_getElem? h2)
  have := isKey_iff.2 ⟨c, rfl, h1⟩
  rw [this] at h3; cases h3
/-- no two cells that are there have one key -/
def Uniq (S : St) : Prop := ∀ i j c d, at? S i = some c → at? S j = some d → c.prev = d.prev → c.event = d.event → c.fresh = d.fresh → i = j
theorem idx_of {S : St} (hu : Uniq S) {i : Nat} {c : Cl} (hc : at? S i = some c) : idx S c.prev c.event c.fresh = some i := by
  rcases h : idx S c.prev c.event c.fresh with _ | j
  · exact absurd ⟨rfl, rfl, rfl⟩ (idx_none h hc)
  · obtain ⟨d, hd, h1, h2, h3⟩ := idx_some h
    rw [hu j i d c hd hc h1 h2 h3]

/-- what is not looked at stays -/
def KeptT (T : Nat → Prop) (w w' : World) : Prop :=
  w'.os = w.os ∧ w'.tape = w.tape ∧ w'.output = w.output ∧ w.heap.size ≤ w'.heap.size ∧ ∀ g, g < w.heap.size → T g → w'.heap[g]? = w.heap[g]?
theorem KeptT.refl (T : Nat → Prop) (w : World) : KeptT T w w := ⟨rfl, rfl, rfl, Nat.le_refl _, fun _ _ _ => rfl⟩
theorem KeptT.trans {T : Nat → Prop} {a b c : World} (h : KeptT T a b) (k : KeptT T b c) : KeptT T a c :=
  ⟨k.1.trans h.1, k.2.1.trans h.2.1, k.2.2.1.trans h.2.2.1, Nat.le_trans h.2.2.2.1 k.2.2.2.1, fun g hg ht => (k.2.2.2.2 g (Nat.lt_of_lt_of_le hg h.2.2.2.1) ht).trans (h.2.2.2.2 g hg ht)⟩
theorem KeptT.drewN {T : Nat → Prop} {a b : World} (h : KeptT T a b) (n : Nat) : KeptT T a (b.drewN n) := h
theorem KeptT.drew {T : Nat → Prop} {a b : World} (h : KeptT T a b) : KeptT T a b.drew := h
theorem KeptT.alloc {T : Nat → Prop} {a b : World} (h : KeptT T a b) (o : Obj) : KeptT T a (b.alloc o) :=
  ⟨h.1, h.2.1, h.2.2.1, Nat.le_trans h.2.2.2.1 (by simp), fun g hg ht => (Below.heap_alloc b o g (Nat.lt_of_lt_of_le hg h.2.2.2.1)).trans (h.2.2.2.2 g hg ht)⟩
theorem KeptT.setCell {T : Nat → Prop} {a b : World} (h : KeptT T a b) {p : Addr} (hp : ¬ T p.block) (u : Value) : KeptT T a (b.setCell p u) :=
  ⟨h.1, h.2.1, h.2.2.1, by simpa [World.setCell] using h.2.2.2.1, fun g hg ht => (Below.heap_setCell b p u g (fun e => hp (e ▸ ht))).trans (h.2.2.2.2 g hg ht)⟩
theorem KeptT.grown {T : Nat → Prop} {a b c : World} {row : Option Nat} (h : KeptT T a b) (k : b.grownBy c row) (hr : ∀ g, row = some g → ¬ T g ∨ a.heap.size ≤ g) : KeptT T a c :=
  ⟨k.os.trans h.1, k.tape.trans h.2.1, k.output.trans h.2.2.1, Nat.le_trans h.2.2.2.1 k.size, fun g hg ht => (k.block g (Nat.lt_of_lt_of_le hg h.2.2.2.1) (fun e => by
    rcases hr g e.symm with h1 | h1
    · exact h1 ht
    · omega)).trans (h.2.2.2.2 g hg ht)⟩
theorem KeptT.below {T : Nat → Prop} {B : Nat} {a b : World} (h : KeptT T a b) (hT : ∀ g, g < B → T g) (hB : B ≤ a.heap.size) : Below B a b :=
  ⟨h.1, h.2.1, h.2.2.1, h.2.2.2.1, fun g hg => h.2.2.2.2 g (Nat.lt_of_lt_of_le hg hB) (hT g hg)⟩

/-- how a pool lies: everything by name -/
structure PoolX (T : Nat → Prop) (w : World) (P : Nat) (S : St) (m : Int) (A1 A2 : Option Addr) (c1 c2 M : Nat) (xs : List Cl) (D : DataW Unit) : Prop where
  blk : Blk w P 57 #[.slice A1 S.length c1, .slice A2 S.length c2, .map (some M), .int .i64 m]
  all : w.ownsRow 0 61 5 (.slice A1 S.length c1) S.length (xs.flatMap Cl.cells)
  free : w.ownsRow 0 4 1 (.slice A2 S.length c2) S.length (S.map fun o => .bool o.isNone)
  at_ : w.ownsMap Try.prog 59 (plainElem Try.prog 3) M (Maps.size D) D
  len : xs.length = S.length
  live : ∀ i c, at? S i = some c → xs[i]? = some c
  tP : ¬ T P
  tM : ¬ T M
  tA : ∀ a, A1 = some a → ¬ T a.block
  tB : ∀ a, A2 = some a → ¬ T a.block
def PoolW (T : Nat → Prop) (w : World) (P : Nat) (S : St) (m : Int) : Prop := ∃ A1 A2 c1 c2 M xs D, PoolX T w P S m A1 A2 c1 c2 M xs D ∧ DOk D S

theorem PoolX.keep {T : Nat → Prop} {w w' : World} {P : Nat} {S : St} {m : Int} {A1 A2 : Option Addr} {c1 c2 M : Nat} {xs : List Cl} {D : DataW Unit} (h : PoolX T w P S m A1 A2 c1 c2 M xs D)
    (hk : ∀ g, g < w.heap.size → ¬ T g → w'.heap[g]? = w.heap[g]?) : PoolX T w' P S m A1 A2 c1 c2 M xs D where
  blk := (hk P h.blk.lt h.tP).trans h.blk
  all := ⟨h.all.1, by
    rcases h.all.2 with h1 | ⟨g, cap, cur, hv, hb, hh, hr⟩
    · exact .inl h1
    · refine .inr ⟨g, cap, cur, hv, hb, (hk g ?_ ?_).trans hh, hr⟩
      · rcases Nat.lt_or_ge g w.heap.size with hl | hl
        · exact hl
        · rw [Array.getElem?_eq_none hl] at hh; cases hh
      · injection hv with hv; exact h.tA _ hv⟩
  free := ⟨h.free.1, by
    rcases h.free.2 with h1 | ⟨g, cap, cur, hv, hb, hh, hr⟩
    · exact .inl h1
    · refine .inr ⟨g, cap, cur, hv, hb, (hk g ?_ ?_).trans hh, hr⟩
      · rcases Nat.lt_or_ge g w.heap.size with hl | hl
        · exact hl
        · rw [Array.getElem?_eq_none hl] at hh; cases hh
      · injection hv with hv; exact h.tB _ hv⟩
  at_ := by
    have hM := h.at_.lt
    obtain ⟨es, clock, hb, F, hs, e⟩ := h.at_
    exact ⟨es, clock, (hk M hM h.tM).trans hb, F, hs, e⟩
  len := h.len
  live := h.live
  tP := h.tP
  tM := h.tM
  tA := h.tA
  tB := h.tB
theorem PoolW.keep {T : Nat → Prop} {w w' : World} {P : Nat} {S : St} {m : Int} (h : PoolW T w P S m) (hk : ∀ g, g < w.heap.size → ¬ T g → w'.heap[g]? = w.heap[g]?) : PoolW T w' P S m := by
  obtain ⟨A1, A2, c1, c2, M, xs, D, h, hd⟩ := h
  exact ⟨A1, A2, c1, c2, M, xs, D, h.keep hk, hd⟩
theorem PoolW.drewN {T : Nat → Prop} {w : World} {P : Nat} {S : St} {m : Int} (h : PoolW T w P S m) (n : Nat) : PoolW T (w.drewN n) P S m := h.keep fun _ _ _ => rfl
theorem PoolW.alloc {T : Nat → Prop} {w : World} {P : Nat} {S : St} {m : Int} (h : PoolW T w P S m) (o : Obj) : PoolW T (w.alloc o) P S m := h.keep fun g hg _ => Below.heap_alloc w o g hg
theorem PoolW.below {T : Nat → Prop} {w w' : World} {P : Nat} {S : St} {m : Int} (h : PoolW T w P S m) (hb : Below w.heap.size w w') : PoolW T w' P S m := h.keep fun g hg _ => hb.block g hg
/-- another word for what is not its own -/
theorem PoolW.turn {T T' : Nat → Prop} {w : World} {P : Nat} {S : St} {m : Int} (h : PoolW T w P S m) (hT : ∀ g, g < w.heap.size → T' g → T g) : PoolW T' w P S m := by
  obtain ⟨A1, A2, c1, c2, M, xs, D, h, hd⟩ := h
  refine ⟨A1, A2, c1, c2, M, xs, D, ⟨h.blk, h.all, h.free, h.at_, h.len, h.live, fun t => h.tP (hT _ h.blk.lt t), fun t => h.tM (hT _ h.at_.lt t), fun a e t => h.tA a e (hT _ ?_ t), fun a e t => h.tB a e (hT _ ?_ t)⟩, hd⟩
  · subst e; exact (h.all.lt a.block rfl).2
  · subst e; exact (h.free.lt a.block rfl).2
theorem map_tight {w : World} {P : Program} {k : TypeId} {R : Value → Option (DataW Unit × List MemPlace)} {b n : Nat} {D : DataW Unit} (h : w.ownsMap P k R b n D) : w.ownsMap P k R b (Maps.size D) D := by
  obtain ⟨es, clock, hb, F, _, rfl⟩ := h
  exact ⟨es, clock, hb, F, by simp [Maps.size, length_sorted], rfl⟩
end Go.Proofs.Ytcgapjicbgfpjaa

/- Mem, Row, Var, Num: texts merged for a claim by a program of mine. -/
import Derived.Below
import Derived.Laws.OwnMore
import Derived.Deep.AppendLies
import Derived.Deep.Draws
import Derived.Laws.Rows
import Derived.Maps.AppendAt
import Derived.RegionTactic
import Derived.OwnWalk
import Derived.Deep.OwnRows
import Derived.Laws.AppendOwn
import Derived.Deep.QuietTactic
import Derived.Deep.DeepMust
import Derived.Deep.DeepFit
import Derived.Lib.Hide
import Derived.OpenShut
import Derived.Laws.IdiomStrings
import Derived.WalkKit
import Derived.ProofKit
import Derived.ShutString
import Derived.ChangeOld
import Derived.SizedLaws
import Derived.Laws.BitsAllLaws
import Derived.Test.YtioocaicmiggoaaRows
import Derived.WalkSpells
import Derived.WalkLawsBesides
namespace Go.Proofs.Ytioocaicmiggoaa
set_option linter.unusedVariables false
open Go.RowKit
theorem block_of_add (a : Addr) (n : Nat) : (a.add n).block = a.block := by unfold Addr.add; split <;> rfl
theorem add_of_add (a : Addr) (i j : Nat) : (a.add i).add j = a.add (i + j) := by
 unfold Addr.add
 by_cases hi : i = 0 <;> by_cases hj : j = 0 <;> simp [hi, hj, Nat.add_assoc]
def Reads (w : World) (B size : Nat) (A : Option Addr) (n : Nat) (xs : List Value) : Prop :=
 xs.length = n * size ∧ (0 < n → ∃ ad, A = some ad ∧ ad.block < B ∧ ∀ j u, xs[j]? = some u → w.cell? (ad.add j) = some u)
section
variable {w w' : World} {B B' size n : Nat} {A : Option Addr} {xs : List Value}
theorem Reads.none_ : Reads w B size A 0 [] := ⟨by simp, fun h => absurd h (by omega)⟩
theorem Reads.at_ {k : Nat} (h : Reads w B 1 A n xs) (hk : k < n) : ∃ ad u, A = some ad ∧ ad.block < B ∧ xs[k]? = some u ∧ w.cell? (ad.add k) = some u := by
 obtain ⟨ad, e, hb, hc⟩ := h.2 (by omega)
 have hl : k < xs.length := by have := h.1; omega
 exact ⟨ad, xs[k], e, hb, List.getElem?_eq_getElem hl, hc k _ (List.getElem?_eq_getElem hl)⟩
theorem Reads.keep (h : Reads w B size A n xs) (hk : ∀ p : Addr, p.block < B → w'.cell? p = w.cell? p) : Reads w' B size A n xs :=
 ⟨h.1, fun hn => by
  obtain ⟨ad, e, hb, hc⟩ := h.2 hn
  exact ⟨ad, e, hb, fun j u hu => (hk _ (by rw [block_of_add]; exact hb)).trans (hc j u hu)⟩⟩
theorem Reads.more (h : Reads w B size A n xs) (hB : B ≤ B') : Reads w B' size A n xs :=
 ⟨h.1, fun hn => by
  obtain ⟨ad, e, hb, hc⟩ := h.2 hn
  exact ⟨ad, e, by omega, hc⟩⟩
theorem Reads.below (h : Reads w B size A n xs) (hb : Below B w w') : Reads w' B size A n xs := h.keep fun _ hp => hb.cell hp
theorem Reads.drew (h : Reads w B size A n xs) : Reads w.drew B size A n xs := h
theorem Reads.drewN (h : Reads w B size A n xs) (k : Nat) : Reads (w.drewN k) B size A n xs := h
theorem Reads.alloc (h : Reads w B size A n xs) (hB : B ≤ w.heap.size) (o : Obj) : Reads (w.alloc o) B size A n xs := h.keep fun p hp => World.cell?_alloc_lt w o p (by omega)
theorem Reads.setCell (h : Reads w B size A n xs) {p : Addr} (hB : B ≤ p.block) (u : Value) : Reads (w.setCell p u) B size A n xs :=
 h.keep fun q hq => World.cell?_setCell_other w p q u (fun e => by subst e; omega)
theorem Reads.grown (h : Reads w B size A n xs) {row : Option Nat} (hg : w.grownBy w' row) (hB : B ≤ w.heap.size) (hr : ∀ g, row = some g → B ≤ g) : Reads w' B size A n xs :=
 h.keep fun p hp => World.cell?_of_block (hg.block p.block (by omega) (fun e => by have := hr _ e.symm; omega))
theorem Reads.cut (h : Reads w B size A n xs) {k cap : Nat} (hk : k ≤ n) (hc : n ≤ cap) :
  Reads w B size (if cap = k then A else A.map (·.add (k * size))) (n - k) (xs.drop (k * size)) := by
 refine ⟨by rw [List.length_drop, h.1, Nat.sub_mul], fun hn => ?_⟩
 obtain ⟨ad, rfl, hb, hcell⟩ := h.2 (by omega)
 rw [if_neg (by omega)]
 refine ⟨ad.add (k * size), rfl, by rw [block_of_add]; exact hb, fun j u hu => ?_⟩
 rw [add_of_add]
 exact hcell _ u (by rw [← hu, List.getElem?_drop])
theorem Reads.of_own {base : Nat} {e : TypeId} {c : Nat} (h : w.ownsRow base e size (.slice A n c) n xs) : Reads w w.heap.size size A n xs := by
 refine ⟨h.1, fun hn => ?_⟩
 obtain ⟨g, cap, hv, _, hlt⟩ := h.form hn
 have hA : A = some ⟨g, 0, none⟩ := by injection hv
 subst hA
 exact ⟨_, rfl, hlt, h.cells (g := g) rfl⟩
end
def Blk (w : World) (g : Nat) (t : TypeId) (cs : Array Value) : Prop := w.heap[g]? = some (.cells cs t (0, 0))
section
variable {w w' : World} {g : Nat} {t : TypeId} {cs : Array Value}
theorem Blk.lt (h : Blk w g t cs) : g < w.heap.size := by
 rcases Nat.lt_or_ge g w.heap.size with hlt | hge
 ·exact hlt
 ·unfold Blk at h; rw [Array.getElem?_eq_none hge] at h; cases h
theorem Blk.cell (h : Blk w g t cs) (i : Nat) : w.cell? ⟨g, i, none⟩ = cs[i]? := cell_of_row w g i cs t (0, 0) h
theorem Blk.frozen (h : Blk w g t cs) (i : Nat) : w.frozen? ⟨g, i, none⟩ = false := by
 unfold Blk at h
 simp [World.frozen?, h]
theorem Blk.new (w : World) (t : TypeId) (cs : Array Value) : Blk (w.alloc (.cells cs t)) w.heap.size t cs := heap_alloc_new w _
theorem Blk.drew (h : Blk w g t cs) : Blk w.drew g t cs := h
theorem Blk.drewN (h : Blk w g t cs) (n : Nat) : Blk (w.drewN n) g t cs := h
theorem Blk.alloc (h : Blk w g t cs) (o : Obj) : Blk (w.alloc o) g t cs := (Below.heap_alloc w o g h.lt).trans h
theorem Blk.set_ (h : Blk w g t cs) (i : Nat) (u : Value) : Blk (w.setCell ⟨g, i, none⟩ u) g t (cs.setIfInBounds i u) := by
 unfold Blk at h ⊢
 simp [World.setCell, Array.getElem?_modify, h]
theorem Blk.far (h : Blk w g t cs) {p : Addr} (hp : g ≠ p.block) (u : Value) : Blk (w.setCell p u) g t cs := (Below.heap_setCell w p u g hp).trans h
theorem Blk.below {B : Nat} (h : Blk w g t cs) (hb : Below B w w') (hg : g < B) : Blk w' g t cs := (hb.block g hg).trans h
theorem Blk.grown {row : Option Nat} (h : Blk w g t cs) (hb : w.grownBy w' row) (hg : some g ≠ row) : Blk w' g t cs := (hb.block g h.lt hg).trans h
theorem Blk.ne_ {g' : Nat} {t' : TypeId} {cs' : Array Value} (h : Blk w g t cs) (h' : Blk w g' t' cs') (hne : t ≠ t') : g ≠ g' := by
 rintro rfl
 unfold Blk at h h'
 rw [h] at h'
 injection h' with h'
 injection h' with _ ht
 exact hne ht
theorem own_blk_ne {base : Nat} {e : TypeId} {size n : Nat} {v : Value} {xs : List Value} (h : w.ownsRow base e size v n xs) (hg : Blk w g t cs) (hne : e ≠ t) : v.ownBlock ≠ some g := by
 rcases h.2 with ⟨rfl, _⟩ | ⟨g', cap, cur, rfl, _, hh, _⟩
 ·simp [Value.ownBlock]
 ·intro he
  have : g' = g := by simpa [Value.ownBlock] using he
  subst this
  exact Blk.ne_ (t := e) hh hg hne rfl
end
section
variable {P : Program} (w : World)
theorem run_append_of_nil (base : Nat) (t ty e : TypeId) (i : TypeInfo) (size : Nat) (ht : P.underlying t = some (.slice e)) (hi : P.info? e = some i)
  (v : Value) (n : Nat) (xs : List Value) (hown : w.ownsRow base e size v n xs) (c : Nat) : (Builtin.append_ #[t, t] ty #[v, .slice none 0 c]).run P w = .ok v w := by
 rcases hown.2 with ⟨rfl, rfl⟩ | ⟨g, cap, cur, rfl, _, _, hnc, _⟩
 ·simp [Builtin.append_, run_underlying ht, sizeOf, typeInfo, hi, Builtin.lenOf, Builtin.firstCells]
 ·simp [Builtin.append_, run_underlying ht, sizeOf, typeInfo, hi, Builtin.lenOf, Builtin.firstCells, hnc, storeCells]
theorem run_append_any (base : Nat) (t ty e : TypeId) (i : TypeInfo) (z : Value) (size bytes : Nat) (ht : P.underlying t = some (.slice e)) (hi : P.info? e = some i) (hz : i.zero = some z)
  (hsize : i.size = size) (hby : i.bytes = bytes) (hzs : z.cells.size = size) (hsz : 0 < size)
  (v : Value) (n : Nat) (xs : List Value) (hown : w.ownsRow base e size v n xs)
  (B : Nat) (A : Option Addr) (m c : Nat) (news : List Value) (hr : Reads w B size A m news) (h1 : ∀ u ∈ news, u.oneCell' = true)
  (h63 : n + m ≤ maxLen) (hbytes : (n + m) * bytes ≤ 140737488355328) (hbase : base ≤ w.heap.size) :
  ∃ v' w', (Builtin.append_ #[t, t] ty #[v, .slice A m c]).run P w = .ok v' w' ∧ w'.ownsRow base e size v' (n + m) (xs ++ news) ∧ w.grownBy w' v.ownBlock ∧
   (v'.ownBlock = v.ownBlock ∨ v'.ownBlock = some w.heap.size) := by
 rcases A with _ | ad
 ·have hm : m = 0 := by
   rcases Nat.eq_zero_or_pos m with h0 | h0
   ·exact h0
   ·obtain ⟨ad, h, _⟩ := hr.2 h0
    cases h
  subst hm
  have hn : news = [] := List.eq_nil_of_length_eq_zero (by simpa using hr.1)
  subst hn
  exact ⟨v, w, run_append_of_nil w base t ty e i size ht hi v n xs hown c, by simpa using hown, World.grownBy.refl w _, .inl rfl⟩
 ·have hcells : ∀ j u, news[j]? = some u → w.cell? (ad.add j) = some u := by
   intro j u hu
   rcases Nat.eq_zero_or_pos m with h0 | h0
   ·subst h0
    have hn : news = [] := List.eq_nil_of_length_eq_zero (by simpa using hr.1)
    subst hn
    simp at hu
   ·obtain ⟨ad', h, _, hc⟩ := hr.2 h0
    injection h with h
    subst h
    exact hc j u hu
  obtain ⟨v', w', hrun, h2, h3, _, h5⟩ := run_append_own_at (P := P) w base t ty e i z size bytes ht hi hz hsize hby hzs hsz v n xs hown ad m c news hr.1 hcells h1 h63 hbytes hbase
  exact ⟨v', w', hrun, h2, h3, h5⟩
theorem wp_append_any {o : Oper} {a : Act} {K : Act → World → Prop} {Q : Exit → Act → World → Prop} (s x : Operand) (t : TypeId)
  (ho : o.op = .call { callee := .builtin .append, args := #[s, x], argTypes := #[t, t] })
  (base : Nat) (e : TypeId) (i : TypeInfo) (z : Value) (size bytes : Nat) (ht : P.underlying t = some (.slice e)) (hi : P.info? e = some i) (hz : i.zero = some z)
  (hsize : i.size = size) (hby : i.bytes = bytes) (hzs : z.cells.size = size) (hsz : 0 < size)
  (v : Value) (n : Nat) (xs : List Value) (hs : a.eval s = v) (hown : w.ownsRow base e size v n xs)
  (B : Nat) (A : Option Addr) (m c : Nat) (news : List Value) (hx : a.eval x = .slice A m c) (hr : Reads w B size A m news) (h1 : ∀ u ∈ news, u.oneCell' = true)
  (h63 : n + m ≤ maxLen) (hbytes : (n + m) * bytes ≤ 140737488355328) (hbase : base ≤ w.heap.size)
  (h : ∀ v' w', w'.ownsRow base e size v' (n + m) (xs ++ news) → w.grownBy w' v.ownBlock → (v'.ownBlock = v.ownBlock ∨ v'.ownBlock = some w.heap.size) → K (a.put o.dst v') w') : o.wp P a w K Q := by
 obtain ⟨v', w', hrun, h2, h3, h4⟩ := run_append_any (P := P) w base t o.type e i z size bytes ht hi hz hsize hby hzs hsz v n xs hown B A m c news hr h1 h63 hbytes hbase
 unfold Oper.wp execOp
 simp only [ho, resolve, invoke, builtin, Sem.run_bind, Sem.run_pure, Result.andThen_ok, List.map_toArray, List.map_cons, List.map_nil, hs, hx, hrun]
 exact h v' w' h2 h3 h4
theorem wpList_append_any {ops : Array Oper} {rest : List Oper} {o : Oper} {a : Act} {Q : Exit → Act → World → Prop} (hgd : o.guard = none) (s x : Operand) (t : TypeId)
  (ho : o.op = .call { callee := .builtin .append, args := #[s, x], argTypes := #[t, t] })
  (base : Nat) (e : TypeId) (i : TypeInfo) (z : Value) (size bytes : Nat) (ht : P.underlying t = some (.slice e)) (hi : P.info? e = some i) (hz : i.zero = some z)
  (hsize : i.size = size) (hby : i.bytes = bytes) (hzs : z.cells.size = size) (hsz : 0 < size)
  (v : Value) (n : Nat) (xs : List Value) (hs : a.eval s = v) (hown : w.ownsRow base e size v n xs)
  (B : Nat) (A : Option Addr) (m c : Nat) (news : List Value) (hx : a.eval x = .slice A m c) (hr : Reads w B size A m news) (h1 : ∀ u ∈ news, u.oneCell' = true)
  (h63 : n + m ≤ maxLen) (hbytes : (n + m) * bytes ≤ 140737488355328) (hbase : base ≤ w.heap.size)
  (h : ∀ v' w', w'.ownsRow base e size v' (n + m) (xs ++ news) → w.grownBy w' v.ownBlock → (v'.ownBlock = v.ownBlock ∨ v'.ownBlock = some w.heap.size) → wpList P ops Q rest (a.put o.dst v') w') : wpList P ops Q (o :: rest) a w :=
 wpList_plain hgd fun _ hK => wp_append_any w s x t ho base e i z size bytes ht hi hz hsize hby hzs hsz v n xs hs hown B A m c news hx hr h1 h63 hbytes hbase fun v' w' h2 h3 h4 => hK _ _ (h v' w' h2 h3 h4)
theorem step_append_any {ops : Array Oper} {o : Oper} {a : Act} {K : Act → World → Prop} {Q : Exit → Act → World → Prop} {E : Prop} (hgd : o.guard = none) (s x : Operand) (t : TypeId)
  (ho : o.op = .call { callee := .builtin .append, args := #[s, x], argTypes := #[t, t] })
  (base : Nat) (e : TypeId) (i : TypeInfo) (z : Value) (size bytes : Nat) (ht : P.underlying t = some (.slice e)) (hi : P.info? e = some i) (hz : i.zero = some z)
  (hsize : i.size = size) (hby : i.bytes = bytes) (hzs : z.cells.size = size) (hsz : 0 < size)
  (v : Value) (n : Nat) (xs : List Value) (hs : a.eval s = v) (hown : w.ownsRow base e size v n xs)
  (B : Nat) (A : Option Addr) (m c : Nat) (news : List Value) (hx : a.eval x = .slice A m c) (hr : Reads w B size A m news) (h1 : ∀ u ∈ news, u.oneCell' = true)
  (h63 : n + m ≤ maxLen) (hbytes : (n + m) * bytes ≤ 140737488355328) (hbase : base ≤ w.heap.size)
  (h : ∀ v' w', w'.ownsRow base e size v' (n + m) (xs ++ news) → w.grownBy w' v.ownBlock → (v'.ownBlock = v.ownBlock ∨ v'.ownBlock = some w.heap.size) → K (a.put o.dst v') w') :
  if Region.wanted o (yielded ops a.tmps) = true then Oper.wp P o a w K Q else E := by
 have hw : Region.wanted o (yielded ops a.tmps) = true := by simp [Region.wanted, hgd]
 rw [if_pos hw]
 exact wp_append_any w s x t ho base e i z size bytes ht hi hz hsize hby hzs hsz v n xs hs hown B A m c news hx hr h1 h63 hbytes hbase h
end
theorem below_drewN {B : Nat} {a w : World} (h : Below B a w) (n : Nat) : Below B a (w.drewN n) := ⟨h.os, h.tape, h.output, h.size, h.block⟩
theorem only_drewN {a w : World} {row : Option Nat} (h : a.grownBy w row) (n : Nat) : a.grownBy (w.drewN n) row := ⟨h.os, h.tape, h.output, h.size, h.block⟩
theorem only_alloc {a w : World} {row : Option Nat} (h : a.grownBy w row) (o : Obj) : a.grownBy (w.alloc o) row :=
 ⟨h.os, h.tape, h.output, Nat.le_trans h.size (by simp), fun i hi hne => (Below.heap_alloc w o i (Nat.lt_of_lt_of_le hi h.size)).trans (h.block i hi hne)⟩
theorem only_setCell {a w : World} {g : Nat} (h : a.grownBy w (some g)) {p : Addr} (hp : p.block = g ∨ a.heap.size ≤ p.block) (u : Value) : a.grownBy (w.setCell p u) (some g) :=
 ⟨h.os, h.tape, h.output, by simpa [World.setCell] using h.size, fun i hi hne => (Below.heap_setCell w p u i (by
  rintro rfl
  rcases hp with hp | hp
  ·exact hne (by rw [hp])
  ·omega)).trans (h.block i hi hne)⟩
theorem only_of_below {a w : World} (h : Below a.heap.size a w) (row : Option Nat) : a.grownBy w row := ⟨h.os, h.tape, h.output, h.size, fun i hi _ => h.block i hi⟩
theorem reads_one (w : World) (v : Value) (e : TypeId) (m : Nat × Nat) : Reads (w.alloc (.cells #[v] e m)) (w.heap.size + 1) 1 (some ⟨w.heap.size, 0, none⟩) 1 [v] := by
 refine ⟨rfl, fun _ => ⟨_, rfl, Nat.lt_succ_self _, fun j u hu => ?_⟩⟩
 match j, hu with
 | 0, hu =>
  simp at hu; subst hu
  exact cell_of_row _ w.heap.size 0 _ e m (heap_alloc_new w _)
theorem own_shape {w : World} {base : Nat} {e : TypeId} {size n : Nat} {v : Value} {xs : List Value} (h : w.ownsRow base e size v n xs) (hn : 0 < n) :
  ∃ g cap, v = .slice (some ⟨g, 0, none⟩) n cap ∧ base ≤ g ∧ g < w.heap.size ∧ n ≤ cap ∧ cap ≤ maxLen ∧ (∀ j u, xs[j]? = some u → w.cell? ⟨g, j, none⟩ = some u) ∧ (∀ j, w.frozen? ⟨g, j, none⟩ = false) := by
 rcases h.2 with ⟨_, rfl⟩ | ⟨g, cap, cur, rfl, hb, hh, hnc, hm, hs, ht⟩
 ·omega
 ·refine ⟨g, cap, rfl, hb, ?_, hnc, hm, ?_, ?_⟩
  ·rcases Nat.lt_or_ge g w.heap.size with h1 | h1
   ·exact h1
   ·rw [Array.getElem?_eq_none h1] at hh; cases hh
  ·intro j u hu
   have h2 := h.cells (g := g) rfl j u hu
   unfold Addr.add at h2
   by_cases hj : j = 0
   ·subst hj; simpa using h2
   ·simpa [hj] using h2
  ·intro j; simp [World.frozen?, hh]
theorem Reads.shape {w : World} {B n : Nat} {A : Option Addr} {xs : List Value} (h : Reads w B 1 A n xs) (hn : 0 < n) :
  ∃ b off, A = some ⟨b, off, none⟩ ∧ b < B ∧ ∀ j u, xs[j]? = some u → w.cell? ⟨b, off + j, none⟩ = some u := by
 obtain ⟨⟨b, off, spot⟩, e, hb, hc⟩ := h.2 hn
 have hl : 0 < xs.length := by have := h.1; omega
 have h0 := hc 0 xs[0] (List.getElem?_eq_getElem hl)
 have hspot : spot = none := by simpa [Addr.add] using World.cell?_spot h0
 subst hspot
 exact ⟨b, off, e, hb, fun j u hu => by rw [← Go.WideShapes.add_plain]; exact hc j u hu⟩
theorem own_text {P : Program} {w : World} {src dst e g cap : Nat} (l : List UInt8) (hs : P.underlying src = some (.slice e)) (he : P.underlying e = some (.int .u8)) (hd : P.underlying dst = some .string)
  (h : ∀ j u, (l.map fun b => Value.int .u8 b.toNat)[j]? = some u → w.cell? ⟨g, j, none⟩ = some u) {n : Nat} (hn : l.length = n) :
  (convert src dst (.slice (some ⟨g, 0, none⟩) n cap)).run P w = .ok (.string ⟨l.toArray⟩) w := by
 subst hn
 refine run_convert_bytes_back w src dst e _ cap l hs he hd (fun j hj => ?_)
 rw [Go.WideShapes.add_plain, Nat.zero_add]
 exact h j _ (by rw [List.getElem?_map, List.getElem?_eq_getElem hj]; rfl)
end Go.Proofs.Ytioocaicmiggoaa
namespace Go.Proofs.Ytioocaicmiggoaa
set_option linter.unusedVariables false
open Go.ChangeShapes Go.WideShapes Go.ChangeAt Go.RowKit
structure InRow (k : IntKind) (bytes : Nat) (w : World) (A : Option Addr) (n c : Nat) (zs : List Int) : Prop where
 len : n ≤ c
 cap : c ≤ maxLen
 reach : c * bytes ≤ 140737488351232
 num : zs.length = n
 reads : Reads w w.heap.size 1 A n (zs.map (Value.int k))
 wf : ∀ z ∈ zs, (Lit.int k z).wf = true
theorem InRow.nil (k : IntKind) (bytes : Nat) (w : World) : InRow k bytes w none 0 0 [] :=
 ⟨by omega, by decide, by omega, rfl, Reads.none_, fun z hz => by cases hz⟩
theorem InRow.of_open {k : IntKind} {bytes : Nat} {w : World} {x : Addr} {l c : Nat} {zs : List Int} (hl : l ≤ c) (hm : c ≤ maxLen) (hz : zs.length = c) (hr : c * bytes ≤ 140737488351232)
  (hcell : ∀ i, i < zs.length → w.cell? (x.add i) = some (.int k (zs.getD i 0))) (hwz : ∀ z ∈ zs, (Lit.int k z).wf = true) (hlt : ∀ y ∈ MemPlace.row x zs.length, y.block < w.heap.size) :
  InRow k bytes w (some x) l c (zs.take l) := by
 refine ⟨hl, hm, hr, by simp; omega, ⟨by simp; omega, fun hn => ⟨x, rfl, ?_, fun j u hu => ?_⟩⟩, fun z hz' => hwz z (List.mem_of_mem_take hz')⟩
 ·have := hlt (.cell x.block x.off) (MemPlace.mem_row.2 ⟨0, by omega, by simp⟩)
  exact this
 ·rw [List.getElem?_map, List.getElem?_take] at hu
  by_cases hj : j < l
  ·rw [if_pos hj] at hu
   have hjl : j < zs.length := by omega
   rw [hcell j hjl]
   rw [List.getElem?_eq_getElem hjl] at hu
   simp at hu
   rw [← hu]
   simp [hjl]
  ·rw [if_neg hj] at hu; cases hu
end Go.Proofs.Ytioocaicmiggoaa
namespace Go.Proofs.Ytioocaicmiggoaa
set_option linter.unusedVariables false
set_option linter.unusedSimpArgs false
open Go
def vbF : Nat → Nat → List UInt8
 | 0, n => [n.toUInt8]
 | k + 1, n => if n < 128 then [n.toUInt8] else (n % 128 + 128).toUInt8 :: vbF k (n / 128)
def vb (n : Nat) : List UInt8 := vbF 9 n
theorem vbF_len (k n : Nat) : 1 ≤ (vbF k n).length ∧ (vbF k n).length ≤ k + 1 := by
 induction k generalizing n with
 | zero => simp [vbF]
 | succ k ih =>
  unfold vbF; split
  ·simp
  ·have := ih (n / 128); simp; omega
theorem vb_len (n : Nat) : 1 ≤ (vb n).length ∧ (vb n).length ≤ 10 := vbF_len 9 n
theorem vbF_small (k n : Nat) (h : n < 128) : vbF k n = [n.toUInt8] := by cases k <;> unfold vbF <;> simp [h]
theorem vbF_fuel (k : Nat) : ∀ n, n < 128 ^ (k + 1) → vbF (k + 1) n = vbF k n := by
 induction k with
 | zero => intro n h; rw [vbF_small 1 n (by simpa using h), vbF_small 0 n (by simpa using h)]
 | succ k ih =>
  intro n h
  by_cases hs : n < 128
  ·rw [vbF_small _ n hs, vbF_small _ n hs]
  ·have hd : n / 128 < 128 ^ (k + 1) := by
    rw [Nat.pow_succ] at h
    exact Nat.div_lt_of_lt_mul (by rw [Nat.mul_comm]; exact h)
   show (if n < 128 then [n.toUInt8] else (n % 128 + 128).toUInt8 :: vbF (k + 1) (n / 128)) = (if n < 128 then [n.toUInt8] else (n % 128 + 128).toUInt8 :: vbF k (n / 128))
   rw [ih _ hd]
def dcF : Nat → Nat → Nat → List UInt8 → Option (Nat × Nat)
 | 0, _, _, _ => none
 | _ + 1, _, _, [] => none
 | k + 1, i, n, b :: l =>
  if (i = 9 ∧ 1 < b.toNat) ∨ (0 < i ∧ b.toNat = 0) then none
  else if b.toNat < 128 then some (n + b.toNat % 128 * 128 ^ i, i + 1) else dcF k (i + 1) (n + b.toNat % 128 * 128 ^ i) l
def dec (l : List UInt8) : Option (Nat × Nat) := dcF 10 0 0 l
theorem toU8 (x : Nat) (h : x < 256) : x.toUInt8.toNat = x := by
 rw [Nat.toUInt8_eq, UInt8.toNat_ofNat']; omega
theorem dcF_vbF (k : Nat) : ∀ (i m n : Nat) (t : List UInt8), i + k = 9 → m < 128 ^ (k + 1) → (k = 0 → m < 2) → (0 < i → 0 < m) → (∀ q, i + q = 9 → m / 128 ^ q < 2) →
  dcF (k + 1) i n (vbF k m ++ t) = some (n + m * 128 ^ i, i + (vbF k m).length) := by
 induction k with
 | zero =>
  intro i m n t hik hm h0 hi _
  have hm2 := h0 rfl
  unfold vbF dcF
  simp only [List.cons_append, List.nil_append]
  rw [toU8 m (by omega), if_neg (by omega), if_pos (by omega), Nat.mod_eq_of_lt (by omega)]; rfl
 | succ k ih =>
  intro i m n t hik hm h0 hi hq
  by_cases hs : m < 128
  ·rw [vbF_small _ m hs]
   unfold dcF
   simp only [List.cons_append, List.nil_append]
   rw [toU8 m (by omega), if_neg (by omega), if_pos hs, Nat.mod_eq_of_lt hs]; rfl
  ·have e : vbF (k + 1) m = (m % 128 + 128).toUInt8 :: vbF k (m / 128) := by
    show (if m < 128 then _ else _) = _
    rw [if_neg hs]
   rw [e]
   unfold dcF
   simp only [List.cons_append]
   rw [toU8 (m % 128 + 128) (by omega), if_neg (by omega), if_neg (by omega)]
   have hd : m / 128 < 128 ^ (k + 1) := by
    rw [Nat.pow_succ] at hm
    exact Nat.div_lt_of_lt_mul (by rw [Nat.mul_comm]; exact hm)
   rw [ih (i + 1) (m / 128) _ t (by omega) hd ?_ (fun _ => by omega) ?_]
   ·congr 2
    ·have : (m % 128 + 128) % 128 = m % 128 := by omega
     rw [this, Nat.pow_succ, Nat.add_assoc]
     congr 1
     have h2 : m = m / 128 * 128 + m % 128 := by omega
     conv => rhs; rw [h2]
     rw [Nat.add_mul, Nat.mul_assoc, Nat.mul_comm 128, Nat.mul_comm (128 ^ i) 128, Nat.add_comm]
    ·simp; omega
   ·intro hk0; subst hk0
    have := hq 1 (by omega)
    simpa using this
   ·intro q hq9
    have := hq (q + 1) (by omega)
    rw [Nat.pow_succ, Nat.mul_comm, ← Nat.div_div_eq_div_mul] at this
    exact this
theorem vb_top (n : Nat) (h : n < 18446744073709551616) (q : Nat) (hq : 0 + q = 9) : n / 128 ^ q < 2 := by
 obtain rfl : q = 9 := by omega
 exact Nat.div_lt_of_lt_mul (by omega)
theorem dec_vb (n : Nat) (h : n < 18446744073709551616) (t : List UInt8) : dec (vb n ++ t) = some (n, (vb n).length) := by
 have := dcF_vbF 9 0 n 0 t rfl (by omega) (by omega) (by omega) (vb_top n h)
 simpa [dec, vb] using this
theorem dcF_take (k : Nat) : ∀ (i n v j : Nat) (l : List UInt8), i + k = 9 → dcF (k + 1) i n l = some (v, j) →
  ∃ m, v = n + m * 128 ^ i ∧ j = i + (vbF k m).length ∧ l.take (vbF k m).length = vbF k m ∧ (vbF k m).length ≤ l.length ∧ m < 128 ^ (k + 1) ∧ (0 < i → 0 < m) ∧ (∀ q, i + q = 9 → m / 128 ^ q < 2) := by
 have one : ∀ (b : UInt8), b.toNat.toUInt8 = b := fun b => by
  apply UInt8.toNat_inj.1; rw [toU8 _ (UInt8.toNat_lt b)]
 induction k with
 | zero =>
  intro i n v j l hik h
  cases l with
  | nil => simp [dcF] at h
  | cons b l =>
   unfold dcF at h
   by_cases c1 : (i = 9 ∧ 1 < b.toNat) ∨ (0 < i ∧ b.toNat = 0)
   ·rw [if_pos c1] at h; cases h
   ·rw [if_neg c1] at h
    have hb : b.toNat < 128 := by omega
    rw [if_pos hb] at h
    simp only [Option.some.injEq, Prod.mk.injEq] at h
    rw [Nat.mod_eq_of_lt hb] at h
    have e : vbF 0 b.toNat = [b] := by unfold vbF; rw [one]
    refine ⟨b.toNat, h.1.symm, ?_, ?_, ?_, by omega, by omega, ?_⟩
    ·rw [e]; exact h.2.symm
    ·rw [e]; rfl
    ·rw [e]; simp
    ·intro q hq
     obtain rfl : q = 0 := by omega
     simp; omega
 | succ k ih =>
  intro i n v j l hik h
  cases l with
  | nil => simp [dcF] at h
  | cons b l =>
   unfold dcF at h
   by_cases c1 : (i = 9 ∧ 1 < b.toNat) ∨ (0 < i ∧ b.toNat = 0)
   ·rw [if_pos c1] at h; cases h
   ·rw [if_neg c1] at h
    by_cases hb : b.toNat < 128
    ·rw [if_pos hb] at h
     simp only [Option.some.injEq, Prod.mk.injEq] at h
     rw [Nat.mod_eq_of_lt hb] at h
     have e : vbF (k + 1) b.toNat = [b] := by rw [vbF_small _ _ hb, one]
     refine ⟨b.toNat, h.1.symm, ?_, ?_, ?_, ?_, by omega, ?_⟩
     ·rw [e]; exact h.2.symm
     ·rw [e]; rfl
     ·rw [e]; simp
     ·exact Nat.lt_of_lt_of_le hb (Nat.le_trans (by decide : 128 ≤ 128 ^ 1) (Nat.pow_le_pow_right (by decide) (by omega)))
     ·intro q hq
      rw [Nat.div_eq_of_lt]
      ·decide
      ·exact Nat.lt_of_lt_of_le hb (Nat.le_trans (by decide : 128 ≤ 128 ^ 1) (Nat.pow_le_pow_right (by decide) (by omega)))
    ·rw [if_neg hb] at h
     have hb2 := UInt8.toNat_lt b
     obtain ⟨m, h1, h2, h3, h4, h5, h6, h7⟩ := ih (i + 1) _ v j l (by omega) h
     have hm := h6 (by omega)
     have e : vbF (k + 1) (m * 128 + b.toNat % 128) = b :: vbF k m := by
      show (if m * 128 + b.toNat % 128 < 128 then _ else ((m * 128 + b.toNat % 128) % 128 + 128).toUInt8 :: vbF k ((m * 128 + b.toNat % 128) / 128)) = _
      rw [if_neg (by omega), show (m * 128 + b.toNat % 128) / 128 = m by omega, show (m * 128 + b.toNat % 128) % 128 + 128 = b.toNat by omega, one]
     refine ⟨m * 128 + b.toNat % 128, ?_, ?_, ?_, ?_, ?_, by omega, ?_⟩
     ·rw [h1, Nat.pow_succ, Nat.add_mul, Nat.mul_assoc m 128, Nat.mul_comm 128 (128 ^ i)]; omega
     ·rw [h2, e]; simp; omega
     ·rw [e]; simp [h3]
     ·rw [e]; simp; exact h4
     ·rw [Nat.pow_succ]
      generalize 128 ^ (k + 1) = P at h5 ⊢
      omega
     ·intro q hq
      cases q with
      | zero => omega
      | succ q =>
       rw [Nat.pow_succ, Nat.mul_comm (128 ^ q) 128, ← Nat.div_div_eq_div_mul, show (m * 128 + b.toNat % 128) / 128 = m by omega]
       exact h7 q (by omega)
theorem dec_take {l : List UInt8} {v k : Nat} (h : dec l = some (v, k)) : k ≤ l.length ∧ l.take k = vb v ∧ k = (vb v).length ∧ v < 18446744073709551616 := by
 obtain ⟨m, h1, h2, h3, h4, h5, _, h7⟩ := dcF_take 9 0 0 v k l rfl h
 have hv : v = m := by simpa using h1
 subst hv
 have hk : k = (vb v).length := by unfold vb; omega
 refine ⟨by unfold vb at hk; omega, by rw [hk]; exact h3, hk, ?_⟩
 have := h7 9 rfl
 have h8 : v < 2 * 128 ^ 9 := by
  rw [Nat.div_lt_iff_lt_mul (by decide)] at this; exact this
 omega
def zig (n : Int) : Nat := if n < 0 then (-2 * n - 1).toNat else (2 * n).toNat
def zag (n : Nat) : Int := if n % 2 = 1 then -((n / 2 : Nat) : Int) - 1 else ((n / 2 : Nat) : Int)
theorem zig_lt (n : Int) (h0 : -9223372036854775808 ≤ n) (h1 : n ≤ 9223372036854775807) : zig n < 18446744073709551616 := by unfold zig; split <;> omega
theorem zag_zig (n : Int) : zag (zig n) = n := by unfold zig zag; split <;> split <;> omega
theorem zig_zag (n : Nat) : zig (zag n) = n := by unfold zig zag; split <;> split <;> omega
theorem dcF_step {l : List UInt8} {j N : Nat} (h : j < l.length) (h10 : j < 10) (hD : dcF (10 - j) j N (l.drop j) = dec l) :
  dec l = if (j = 9 ∧ 1 < l[j].toNat) ∨ (0 < j ∧ l[j].toNat = 0) then none else if l[j].toNat < 128 then some (N + l[j].toNat % 128 * 128 ^ j, j + 1) else dcF (10 - (j + 1)) (j + 1) (N + l[j].toNat % 128 * 128 ^ j) (l.drop (j + 1)) := by
 rw [← hD, List.drop_eq_getElem_cons h, show 10 - j = (9 - j) + 1 by omega, show 10 - (j + 1) = 9 - j by omega]
 rfl
theorem dcF_stop {l : List UInt8} {j N C : Nat} (h : j < l.length) (h10 : j < 10) (hC : C = l[j].toNat) (hD : dcF (10 - j) j N (l.drop j) = dec l) (hs : (j = 9 ∧ 1 < C) ∨ (0 < j ∧ C = 0)) : dec l = none := by
 subst hC; rw [dcF_step h h10 hD, if_pos hs]
theorem dcF_done {l : List UInt8} {j N C : Nat} (h : j < l.length) (h10 : j < 10) (hC : C = l[j].toNat) (hD : dcF (10 - j) j N (l.drop j) = dec l) (hs : ¬ ((j = 9 ∧ 1 < C) ∨ (0 < j ∧ C = 0))) (h128 : C < 128) : dec l = some (N + C % 128 * 128 ^ j, j + 1) := by
 subst hC; rw [dcF_step h h10 hD, if_neg hs, if_pos h128]
theorem dcF_more {l : List UInt8} {j N C : Nat} (h : j < l.length) (h10 : j < 10) (hC : C = l[j].toNat) (hD : dcF (10 - j) j N (l.drop j) = dec l) (hs : ¬ ((j = 9 ∧ 1 < C) ∨ (0 < j ∧ C = 0))) (h128 : ¬ C < 128) : dcF (10 - (j + 1)) (j + 1) (N + C % 128 * 128 ^ j) (l.drop (j + 1)) = dec l := by
 subst hC; rw [dcF_step h h10 hD, if_neg hs, if_neg h128]
theorem dcF_ends {l : List UInt8} {j N : Nat} (h : l.length ≤ j) (h10 : j < 10) (hD : dcF (10 - j) j N (l.drop j) = dec l) : dec l = none := by
 rw [← hD, List.drop_eq_nil_of_le h, show 10 - j = (9 - j) + 1 by omega]; rfl
theorem digit_add {j N C : Nat} (h10 : j < 10) (hN : N < 128 ^ j) (hC : C < 256) (h9 : j = 9 → C ≤ 1) : N + C % 128 * 128 ^ j < 18446744073709551616 ∧ N + C % 128 * 128 ^ j < 128 ^ (j + 1) := by
 have h2 : C % 128 < 128 := Nat.mod_lt _ (by decide)
 have h3 : N + C % 128 * 128 ^ j < 128 ^ (j + 1) := by
  rw [Nat.pow_succ]
  have : C % 128 * 128 ^ j ≤ 127 * 128 ^ j := Nat.mul_le_mul_right _ (by omega)
  omega
 refine ⟨?_, h3⟩
 by_cases e : j = 9
 ·subst e
  have := h9 rfl
  have h4 : C % 128 ≤ 1 := by omega
  have : C % 128 * 128 ^ 9 ≤ 1 * 128 ^ 9 := Nat.mul_le_mul_right _ h4
  omega
 ·have : (128 : Nat) ^ (j + 1) ≤ 128 ^ 9 := Nat.pow_le_pow_right (by decide) (by omega)
  omega
theorem shl_wrap {j C S : Nat} (hS : S = C % 128 * 128 ^ j) (hl : S < 18446744073709551616) : IntKind.u64.wrap ((C : Int) % 128 * 2 ^ (7 * j)) = (S : Int) := by
 have e : ((C : Int) % 128 * 2 ^ (7 * j)) = (S : Int) := by
  rw [hS, show (128 : Nat) ^ j = 2 ^ (7 * j) by rw [Nat.pow_mul]]
  rw [Int.natCast_mul, Int.natCast_pow]; rfl
 rw [e, IntKind.wrap_u64]; omega
theorem and_127 (C : Nat) (h : C < 256) : bits BinOp.and IntKind.u8 (C : Int) 127 = ((C % 128 : Nat) : Int) := by
 rw [show (127 : Int) = ((127 : Nat) : Int) from rfl, u8_and_nat C 127 h (by omega)]
 congr 1
 exact Nat.and_two_pow_sub_one_eq_mod C 7
theorem or_add {j N C S : Nat} (hN : N < 128 ^ j) (hS : C % 128 * 128 ^ j = S) (h : N + S < 18446744073709551616) : bits BinOp.or IntKind.u64 (N : Int) (S : Int) = ((N + S : Nat) : Int) := by
 rw [u64_or_nat _ _ (by omega) (by omega)]
 congr 1
 have e : (128 : Nat) ^ j = 2 ^ (7 * j) := by rw [Nat.pow_mul]
 rw [Nat.or_comm, Nat.add_comm]
 exact nat_join (7 * j) S N (by rw [← hS, e]; exact Nat.mul_mod_left _ _) (by rw [← e]; exact hN)
end Go.Proofs.Ytioocaicmiggoaa
namespace Go.Proofs.Ytioocaicmiggoaa
set_option linter.unusedVariables false
set_option linter.unusedSimpArgs false
open Go.RowKit
theorem infoU8 : (Try.prog.info? 5).map (fun i => (i.zero, i.size, i.bytes)) = some (some (.int .u8 0), 1, 1) := by kernel_rfl
def bv (l : List UInt8) : List Value := l.map fun b => Value.int .u8 b.toNat
theorem bv_len (l : List UInt8) : (bv l).length = l.length := by simp [bv]
theorem bv_one (l : List UInt8) : ∀ u ∈ bv l, u.oneCell' = true := by
 intro u hu; simp [bv] at hu; obtain ⟨a, _, rfl⟩ := hu; rfl
theorem bv_get (l : List UInt8) (j : Nat) (h : j < l.length) : (bv l)[j]? = some (.int .u8 (l[j]).toNat) := by
 unfold bv; rw [List.getElem?_map, List.getElem?_eq_getElem h]; rfl
theorem bv_app (l m : List UInt8) : bv (l ++ m) = bv l ++ bv m := by simp [bv]
theorem bv_u8 (x : Nat) (h : x < 256) : bv [x.toUInt8] = [.int .u8 (x : Int)] := by unfold bv; simp only [List.map]; rw [toU8 x h]
def Made (w : World) (l : List UInt8) (e : Ending) (w' : World) : Prop :=
 ∃ g cap, e = .returned (.slice (some ⟨g, 0, none⟩) l.length cap) ∧ w'.ownsRow w.heap.size 5 1 (.slice (some ⟨g, 0, none⟩) l.length cap) l.length (bv l) ∧ Below w.heap.size w w'
theorem made_of {w w' : World} {l : List UInt8} {v : Value} {n : Nat} (hn : n = l.length) (h0 : 0 < l.length) (ho : w'.ownsRow w.heap.size 5 1 v n (bv l)) (hb : Below w.heap.size w w') : Made w l (.returned v) w' := by
 subst hn
 obtain ⟨g, cap, rfl, _⟩ := own_shape ho h0
 exact ⟨g, cap, rfl, ho, hb⟩
theorem own_base {w : World} {B B' : Nat} {e : TypeId} {s n : Nat} {v : Value} {xs : List Value} (h : w.ownsRow B e s v n xs) (hB : B' ≤ B) : w.ownsRow B' e s v n xs := by
 refine ⟨h.1, ?_⟩
 rcases h.2 with h0 | ⟨g, cap, cur, h1, h2, h3⟩
 ·exact .inl h0
 ·exact .inr ⟨g, cap, cur, h1, by omega, h3⟩
theorem vb_small (n : Nat) (h : n < 128) : vb n = [n.toUInt8] := vbF_small 9 n h
theorem vb_big (n : Nat) (h : n < 18446744073709551616) (hs : ¬ n < 128) : vb n = (n % 128 + 128).toUInt8 :: vb (n / 128) := by
 have e : vbF 9 n = (n % 128 + 128).toUInt8 :: vbF 8 (n / 128) := by
  show (if n < 128 then _ else _) = _
  rw [if_neg hs]
 unfold vb
 rw [e, vbF_fuel 8 (n / 128) (by
  have : (128 : Nat) ^ (8 + 1) = 9223372036854775808 := by decide
  rw [this]; omega)]
set_option maxRecDepth 100000 in
set_option maxHeartbeats 1000000 in
theorem ruint_any (k : Nat) : ∀ (n : Nat) (w : World), n < 18446744073709551616 → n < 128 ^ (k + 1) → Calls Try.prog 60 #[.int .u64 n] w (Made w (vb n)) := by
 obtain ⟨i0, hi, hz0, hz1, hz2⟩ := info_parts infoU8
 have small : ∀ (n : Nat) (w : World), n < 128 → Calls Try.prog 60 #[.int .u64 n] w (Made w (vb n)) := by
  intro n w hs
  have V := Lib.hid (vb_small n hs)
  have hc : (n : Int) % 256 = n := by omega
  go_enter Try.func60, Try.ntmps60
  go_wp2_with fail
  go_ret
  refine ⟨w.heap.size, 1, by rw [V.out]; rfl, ?_, (Below.refl _ _).alloc (Nat.le_refl _) _⟩
  rw [V.out, bv_u8 n (by omega)]
  exact ⟨rfl, .inr ⟨w.heap.size, 1, #[.int .u8 n], rfl, Nat.le_refl _, heap_alloc_new w _, Nat.le_refl 1, by decide, rfl, rfl⟩⟩
 induction k with
 | zero => intro n w h1 h2; exact small n w (by omega)
 | succ k ih =>
  intro n w h1 h2
  by_cases hs : n < 128
  ·exact small n w hs
  ·have V := Lib.hid (vb_big n h1 hs)
   have hd : n / 128 < 128 ^ (k + 1) := by
    rw [Nat.pow_succ] at h2
    exact Nat.div_lt_of_lt_mul (by rw [Nat.mul_comm]; exact h2)
   have IH := Lib.hid (fun W => ih (n / 128) W (by omega) hd)
   clear ih h2 hd small
   have hl := vb_len (n / 128)
   obtain ⟨Q, hQ⟩ : ∃ Q, n / 128 = Q := ⟨_, rfl⟩
   have hq : (n : Int) / 128 = Q := by omega
   obtain ⟨M, hM⟩ : ∃ M, n % 128 + 128 = M := ⟨_, rfl⟩
   have hM2 : M < 256 := by omega
   have hc2 : (n : Int) % 128 + 128 = M := by omega
   obtain ⟨l, hl2⟩ : ∃ l, vb (n / 128) = l := ⟨_, rfl⟩
   rw [hM, hl2] at V
   rw [hl2] at hl
   have IH2 := Lib.hid (fun W => by have := IH.out W; rw [hl2, hQ] at this; exact this)
   clear IH hM hl2 hQ
   go_enter Try.func60, Try.ntmps60
   go_wp2_with fail
   refine (IH2.out (w.alloc (.cells #[.int .u8 M] 5))).mono ?_
   rintro e w1 ⟨g, cap, rfl, ho, hb⟩
   have hb0 : Below w.heap.size w w1 := ((Below.refl _ w).alloc (Nat.le_refl _) _).trans (hb.mono (by simp))
   have hbase : w1.ownsRow w.heap.size 5 1 (.slice (some ⟨w.heap.size, 0, none⟩) 1 1) 1 [.int .u8 M] :=
    ⟨rfl, .inr ⟨w.heap.size, 1, #[.int .u8 M], rfl, Nat.le_refl _, (hb.block w.heap.size (by simp)).trans (heap_alloc_new w _), Nat.le_refl 1, by decide, rfl, rfl⟩⟩
   have hrd : Reads w1 w1.heap.size 1 (some ⟨g, 0, none⟩) l.length (bv l) := Reads.of_own ho
   have hsz := hb0.size
   have hl3 : l.length ≤ 10 := hl.2
   clear ho hb
   go_wp2_with (at_builtin; refine wpList_append_any _ rfl (.tmp 12) (.tmp 15) _ rfl w.heap.size 5 i0 _ 1 1 Try.underlying47 hi hz0 hz1 hz2 rfl (by omega) _ 1 _ rfl hbase w1.heap.size (some ⟨g, 0, none⟩) l.length cap _ rfl hrd (bv_one l) ?c2 ?c3 hsz ?_; rotate_left 2; intro v1 w2 hown2 hg2 hat2)
   case c2 => unfold maxLen; omega
   case c3 => omega
   go_ret
   have hlen : 1 + l.length = (vb n).length := by rw [V.out]; simp; omega
   have ho : w2.ownsRow w.heap.size 5 1 v1 (1 + l.length) (bv (vb n)) := by
    rw [V.out, show M.toUInt8 :: l = [M.toUInt8] ++ l from rfl, bv_app, bv_u8 M hM2]; exact hown2
   exact made_of hlen (by omega) ho (hb0.grown hg2 hsz (fun q hq => by have h : some w.heap.size = some q := hq; injection h with h; omega))
set_option maxRecDepth 100000 in
set_option maxHeartbeats 1000000 in
theorem rint_any (n : Int) (w : World) (h0 : -9223372036854775808 ≤ n) (h1 : n ≤ 9223372036854775807) : Calls Try.prog 58 #[.int .i64 n] w (Made w (vb (zig n))) := by
 have hz := zig_lt n h0 h1
 have C := Lib.hid (ruint_any 9 (zig n) w hz (by omega))
 by_cases hn : n < 0
 ·obtain ⟨Z, hZ⟩ : ∃ Z, zig n = Z := ⟨_, rfl⟩
  have e : 2 * -(n + 1) + 1 = (Z : Int) := by rw [← hZ]; unfold zig; rw [if_pos hn]; omega
  rw [hZ] at hz C ⊢
  clear hZ
  go_enter Try.func58, Try.ntmps58
  go_wp2_with fail
  refine C.out.mono ?_
  rintro e w' ⟨g, cap, rfl, ho, hb⟩
  go_wp2_with fail
  go_ret
  exact ⟨g, cap, rfl, ho, hb⟩
 ·obtain ⟨Z, hZ⟩ : ∃ Z, zig n = Z := ⟨_, rfl⟩
  have e : 2 * n = (Z : Int) := by rw [← hZ]; unfold zig; rw [if_neg hn]; omega
  rw [hZ] at hz C ⊢
  clear hZ
  go_enter Try.func58, Try.ntmps58
  go_wp2_with fail
  refine C.out.mono ?_
  rintro e w' ⟨g, cap, rfl, ho, hb⟩
  go_wp2_with fail
  go_ret
  exact ⟨g, cap, rfl, ho, hb⟩
end Go.Proofs.Ytioocaicmiggoaa

/-
  How PoolBalances' pool and its list of numbers lie in memory; the calls of its rounds.
-/
import Derived.Test.YtcgapjicbgfpjaaFall
import Derived.Test.YtcgapjicbgfpjaaTree
namespace Go.Proofs.Ytcgapjicbgfpjaa
set_option linter.unusedVariables false
set_option linter.unusedSimpArgs false
open Go.RowKit Go.Maps

/-- an owned row of integers is none of a pool's blocks -/
theorem pool_row_ne {T : Nat → Prop} {wr : World} {P : Nat} {S : St} {m : Int} {base n : Nat} {v : Value} {xs : List Value} (h : PoolW T wr P S m) (hr : wr.ownsRow base 3 1 v n xs) : PoolW (fun g => T g ∨ v.ownBlock = some g) wr P S m := by
  obtain ⟨A1, A2, c1, c2, M, ys, D, h, hd⟩ := h
  refine ⟨A1, A2, c1, c2, M, ys, D, ⟨h.blk, h.all, h.free, h.at_, h.len, h.live, fun t => t.elim h.tP (fun e => own_blk_ne hr h.blk (by decide) e), fun t => t.elim h.tM (fun e => own_map_ne hr h.at_ e),
    fun a e t => t.elim (h.tA a e) (fun e2 => ?_), fun a e t => t.elim (h.tB a e) (fun e2 => ?_)⟩, hd⟩
  · subst e; exact own_ne hr h.all (by decide) e2 rfl
  · subst e; exact own_ne hr h.free (by decide) e2 rfl
structure BalR (w : World) (P : Nat) (S : St) (cs : List Nat) (v : Value) (wr : World) : Prop where
  pool : PoolW (fun g => g < w.heap.size ∨ v.ownBlock = some g) wr P S 400
  row : wr.ownsRow w.heap.size 3 1 v cs.length (cs.map fun c : Nat => Value.int .i64 c)
  below : Below w.heap.size w wr
def AddI (S : St) (cs : List Nat) : Prop := BInv S cs ∧ TightBut (-1) S ∧ NoFree S ∧ S.length ≤ cs.length
def DropI (S : St) (cs : List Nat) : Prop := BInv S cs ∧ TightBut (-1) S ∧ S.length ≤ 150 ∧ cs.length ≤ 150
section
variable {w wr : World} {P : Nat} {S : St} {cs : List Nat} {v : Value}
theorem BalR.tlt (h : BalR w P S cs v wr) : ∀ g, (g < w.heap.size ∨ v.ownBlock = some g) → g < wr.heap.size := fun g hg => hg.elim (fun h1 => Nat.lt_of_lt_of_le h1 h.below.size) (fun e => (h.row.lt g e).2)
theorem BalR.stay {w' : World} (h : BalR w P S cs v wr) (hb : Below wr.heap.size wr w') : BalR w P S cs v w' :=
  ⟨h.pool.below hb, h.row.kept (only_of_below hb none) (by cases v.ownBlock <;> simp), h.below.trans (hb.mono h.below.size)⟩
theorem BalR.start (hp : PoolW (fun g => g < w.heap.size) wr P [] 400) (hb : Below w.heap.size w wr) : BalR w P [] [] (.slice none 0 0) wr :=
  ⟨hp.turn (fun g _ h => h.elim id (fun e => by cases e)), World.ownsRow_nil _ _ _ _, hb⟩
/-- what leaves the blocks that T names -/
theorem BalR.kept {w' : World} {S' : St} (h : BalR w P S cs v wr) (hp : PoolW (fun g => g < w.heap.size ∨ v.ownBlock = some g) w' P S' 400) (hk : KeptT (fun g => g < w.heap.size ∨ v.ownBlock = some g) wr w') : BalR w P S' cs v w' := by
  refine ⟨hp, ⟨h.row.1, ?_⟩, h.below.trans (hk.below (fun g hg => .inl hg) h.below.size)⟩
  rcases h.row.2 with hn | ⟨g, cap, cur, rfl, hb, hgg, rest⟩
  · exact .inl hn
  · refine .inr ⟨g, cap, cur, rfl, hb, ?_, rest⟩
    rw [hk.2.2.2.2 g (Array.getElem?_eq_some_iff.1 hgg).1 (.inr rfl)]
    exact hgg
theorem BalR.add (h : BalR w P S cs v wr) (hI : AddI S cs) (hc : cs.length ≤ 150) {p : Int} (hp : p = -1 ∨ ∃ c : Nat, c ∈ cs ∧ p = (c : Int)) {e : Int} (he : 0 ≤ e) (he5 : e < 5) (f : Bool) :
    Calls Try.prog 10 #[.pointer (some ⟨P, 0, none⟩), .int .i64 p, .int .i64 e, .bool f] wr fun en w' => ∃ (S' : St) (i : Nat), en = .returned (.tuple #[.int .i64 i, .bool true]) ∧ AddI S' (cs ++ [i]) ∧ BalR w P S' cs v w' := by
  obtain ⟨h1, h2, h3, h4⟩ := hI
  have hpw : wfi p := by
    rcases hp with rfl | ⟨c, hc2, rfl⟩
    · exact wf_small _ (by decide) (by decide)
    · obtain ⟨d, hd⟩ := Option.isSome_iff_exists.1 (h1.2.2.2.2 c hc2)
      have := at_lt hd
      exact wf_small _ (by omega) (by omega)
  have hew : wfi e := wf_small _ (by omega) (by omega)
  obtain ⟨S', i, ha, k1, k2, k3, k4⟩ := add_inv h1 h2 h3 h4 hc hp hpw he hew f
  have A := add_any _ wr P S 400 h.pool h.tlt (by omega) h1.1.1 (bnd_of h1 (by omega) (by omega)) p e f hpw hew
  rw [ha] at A
  refine A.mono ?_
  rintro en w' ⟨rfl, hW, hK⟩
  exact ⟨S', i, rfl, ⟨k1, k2, k3, by simpa using k4⟩, h.kept hW hK⟩
/-- a number more in the list -/
theorem BalR.more {w' w2 : World} {v' : Value} {i : Nat} (h : BalR w P S cs v w') (hr : w2.ownsRow w.heap.size 3 1 v' (cs.length + 1) ((cs.map fun c : Nat => Value.int .i64 c) ++ [.int .i64 i])) (hg : w'.grownBy w2 v.ownBlock) (ha : v'.ownBlock = v.ownBlock ∨ v'.ownBlock = some w'.heap.size) : BalR w P S (cs ++ [i]) v' w2 := by
  refine ⟨?_, by simpa using hr, h.below.grown hg h.below.size (fun g e => (h.row.lt g e).1)⟩
  have h1 : PoolW (fun g => (g < w.heap.size ∨ v.ownBlock = some g) ∨ v'.ownBlock = some g) w' P S 400 := h.pool.turn fun g hl hg => hg.elim id fun e => by
    rcases ha with ha | ha
    · rw [ha] at e; exact .inr e
    · rw [ha] at e; injection e with e; omega
  have h2 : PoolW (fun g => (g < w.heap.size ∨ v.ownBlock = some g) ∨ v'.ownBlock = some g) w2 P S 400 := h1.keep fun g hl hn => hg.block g hl (fun e => hn (.inl (.inr e.symm)))
  exact h2.turn fun g _ hg => hg.elim (fun h => .inl (.inl h)) .inr
theorem BalR.cell (h : BalR w P S cs v wr) {k : Nat} (hk : k < cs.length) : ∃ g cap, v = .slice (some ⟨g, 0, none⟩) cs.length cap ∧ cs.length ≤ cap ∧ cap ≤ maxLen ∧ wr.cell? ⟨g, k, none⟩ = some (.int .i64 (cs[k] : Nat)) := by
  obtain ⟨g, cap, hv, _, _, h1, h2, hc, _⟩ := own_shape h.row (by omega)
  exact ⟨g, cap, hv, h1, h2, hc k _ (by rw [List.getElem?_map, List.getElem?_eq_getElem hk]; rfl)⟩
theorem BalR.slice (h : BalR w P S cs v wr) : ∃ A cap, v = .slice A cs.length cap ∧ cs.length ≤ cap ∧ cap ≤ maxLen := by
  obtain ⟨A, c, rfl⟩ := own_slice h.row
  exact ⟨A, c, rfl, own_caps h.row⟩
theorem BalR.held {ds : List Nat} (h : BalR w P S cs v wr) (hI : DropI S ds) {c : Nat} (hc : c ∈ ds) :
    Calls Try.prog 14 #[.pointer (some ⟨P, 0, none⟩), .int .i64 c] wr fun e w' => ∃ (n k : Nat), e = .returned (.int .i64 n) ∧ 0 < n ∧ n ≤ 1000000000 ∧ w' = wr.drewN k := by
  obtain ⟨h1, h2, h3, h4⟩ := hI
  obtain ⟨d, hd⟩ := Option.isSome_iff_exists.1 (h1.2.2.2.2 c hc)
  obtain ⟨A1, A2, c1, c2, M, ys, D, hx, hdd⟩ := h.pool
  have hb := bnd_of h1 (by omega) (by omega) c d hd
  have ho := h1.2.2.2.1 c d hd
  have hb1 := h1.1.2.2.2 c d hd
  have h5 : ds.count c ≤ ds.length := List.count_le_length
  have h6 : kids S (c : Int) ≤ S.length := List.countP_le_length
  have h7 : 0 < ds.count c := List.count_pos_iff.2 hc
  refine (held_yes hx c d (by omega) hd (by omega) (by omega)).mono ?_
  rintro e w' ⟨rfl, k, rfl⟩
  exact ⟨(d.own + d.behind).toNat, k, by rw [show (((d.own + d.behind).toNat : Nat) : Int) = d.own + d.behind by omega], by omega, by omega, rfl⟩
theorem BalR.path {ds : List Nat} (h : BalR w P S cs v wr) (hI : DropI S ds) {c : Nat} (hc : c ∈ ds) :
    Calls Try.prog 13 #[.pointer (some ⟨P, 0, none⟩), .int .i64 c] wr fun e w' => ∃ (A : Option Addr) (n cap : Nat), e = .returned (.slice A n cap) ∧ 0 < n ∧ BalR w P S cs v w' := by
  obtain ⟨h1, h2, h3, h4⟩ := hI
  obtain ⟨d, hd⟩ := Option.isSome_iff_exists.1 (h1.2.2.2.2 c hc)
  obtain ⟨A1, A2, c1, c2, M, ys, D, hx, hdd⟩ := h.pool
  have hl := at_lt hd
  have hch := chain_of h1.1.2.2.1 h1.2.1 h1.2.2.1 (c + 1) (c : Int) (by omega)
  refine (path_any (by omega) (c + 1) (c : Int) wr (by omega) hx hch).mono ?_
  rintro e w' ⟨u, rfl, hR, hB⟩
  have hne := pathF_ne _ _ _ hch (by rw [cellAt_nat, hd]; rfl)
  obtain ⟨A, cap, rfl, _, _⟩ := hR.slice
  exact ⟨A, _, cap, rfl, List.length_pos_iff.2 hne, h.stay hB⟩
theorem BalR.drop {c : Nat} {ds : List Nat} (h : BalR w P S cs v wr) (hI : DropI S (c :: ds)) :
    Calls Try.prog 15 #[.pointer (some ⟨P, 0, none⟩), .int .i64 c] wr fun e w' => ∃ S', e = .returned (.bool true) ∧ DropI S' ds ∧ BalR w P S' cs v w' := by
  obtain ⟨h1, h2, h3, h4⟩ := hI
  obtain ⟨d, hd, ho, k1, k2, k3⟩ := drop_inv h1 h2
  obtain ⟨A1, A2, c1, c2, M, ys, D, hx, hdd⟩ := h.pool
  have hB : OwnB S := fun i c' hc' => by
    have := bnd_of h1 (by omega) (by omega) i c' hc'
    omega
  refine (drop_some hx hdd h1.1 hB (by omega) c d hd ho).mono ?_
  rintro e w' ⟨rfl, hW, hK⟩
  exact ⟨_, rfl, ⟨k1, k2, by omega, by simp at h4; omega⟩, h.kept hW hK⟩
theorem BalR.empty (h : BalR w P S cs v wr) (hI : DropI S []) :
    Calls Try.prog 11 #[.pointer (some ⟨P, 0, none⟩)] wr (fun e w' => e = .returned (.int .i64 0) ∧ wr = w') ∧ Calls Try.prog 15 #[.pointer (some ⟨P, 0, none⟩), .int .i64 0] wr (fun e w' => e = .returned (.bool false) ∧ wr = w') := by
  obtain ⟨h1, h2, h3, h4⟩ := hI
  obtain ⟨A1, A2, c1, c2, M, ys, D, hx, hdd⟩ := h.pool
  have hn := none_left h1 h2
  refine ⟨?_, drop_no hx 0 (by omega) ?_⟩
  · have := used_any hx hdd
    rw [cnt_none hn] at this
    exact this
  · rw [show (0 : Int) = ((0 : Nat) : Int) from rfl, has_nat, hn]; rfl
/-- the adding rounds: r numbers told -/
def BalA (w : World) (P r : Nat) (v : Value) (wr : World) : Prop := ∃ (S : St) (cs : List Nat), cs.length = r ∧ AddI S cs ∧ BalR w P S cs v wr
def BalN (w : World) (P r i : Nat) (v : Value) (wr : World) : Prop := ∃ (S : St) (cs : List Nat), cs.length = r ∧ AddI S (cs ++ [i]) ∧ BalR w P S cs v wr
theorem BalA.below {r : Nat} (h : BalA w P r v wr) : Below w.heap.size w wr := by obtain ⟨S, cs, _, _, h⟩ := h; exact h.below
theorem BalA.slice {r : Nat} (h : BalA w P r v wr) : ∃ A cap, v = .slice A r cap ∧ r ≤ cap ∧ cap ≤ maxLen := by obtain ⟨S, cs, rfl, _, h⟩ := h; exact h.slice
theorem BalA.add {r : Nat} (h : BalA w P r v wr) (hr : r ≤ 150) {e : Int} (he : 0 ≤ e) (he5 : e < 5) (f : Bool) :
    Calls Try.prog 10 #[.pointer (some ⟨P, 0, none⟩), .int .i64 (-1), .int .i64 e, .bool f] wr fun en w' => ∃ i : Nat, en = .returned (.tuple #[.int .i64 i, .bool true]) ∧ BalN w P r i v w' := by
  obtain ⟨S, cs, rfl, hI, h⟩ := h
  exact (h.add hI hr (.inl rfl) he he5 f).mono fun en w' ⟨S', i, h1, h2, h3⟩ => ⟨i, h1, S', cs, rfl, h2, h3⟩
theorem BalA.pick {r K : Nat} (h : BalA w P r v wr) (hr : r ≤ 150) (hK : K < r) : ∃ g cap pn, v = .slice (some ⟨g, 0, none⟩) r cap ∧ wr.cell? ⟨g, K, none⟩ = some (.int .i64 (pn : Nat)) ∧ ∀ (e : Int) (f : Bool), 0 ≤ e → e < 5 →
    Calls Try.prog 10 #[.pointer (some ⟨P, 0, none⟩), .int .i64 pn, .int .i64 e, .bool f] wr fun en w' => ∃ i : Nat, en = .returned (.tuple #[.int .i64 i, .bool true]) ∧ BalN w P r i v w' := by
  obtain ⟨S, cs, rfl, hI, h⟩ := h
  obtain ⟨g, cap, hv, _, _, hc⟩ := h.cell hK
  exact ⟨g, cap, cs[K], hv, hc, fun e f he he5 => (h.add hI hr (.inr ⟨cs[K], List.getElem_mem _, rfl⟩) he he5 f).mono fun en w' ⟨S', i, h1, h2, h3⟩ => ⟨i, h1, S', cs, rfl, h2, h3⟩⟩
theorem BalN.own {r i : Nat} (h : BalN w P r i v wr) (o : Obj) : ∃ xs, (wr.alloc o).ownsRow w.heap.size 3 1 v r xs ∧ w.heap.size ≤ (wr.alloc o).heap.size ∧
    ∀ (v' : Value) (w2 : World), w2.ownsRow w.heap.size 3 1 v' (r + 1) (xs ++ [.int .i64 i]) → (wr.alloc o).grownBy w2 v.ownBlock → (v'.ownBlock = v.ownBlock ∨ v'.ownBlock = some (wr.alloc o).heap.size) → BalA w P (r + 1) v' w2 := by
  obtain ⟨S, cs, rfl, hI, h⟩ := h
  have h1 := h.stay ((Below.refl wr.heap.size wr).alloc (Nat.le_refl _) o)
  exact ⟨_, h1.row, h1.below.size, fun v' w2 ho hg ha => ⟨S, cs ++ [i], by simp, hI, h1.more ho hg ha⟩⟩
theorem BalA.start (hp : PoolW (fun g => g < w.heap.size) wr P [] 400) (hb : Below w.heap.size w wr) : BalA w P 0 (.slice none 0 0) wr :=
  ⟨[], [], rfl, ⟨binv_nil.1, binv_nil.2.1, binv_nil.2.2, Nat.le_refl _⟩, BalR.start hp hb⟩
/-- the dropping rounds: n told, i dropped; in the inner rounds all from j on are held -/
def BalD (w : World) (P n i : Nat) (v : Value) (wr : World) : Prop := ∃ (S : St) (cs : List Nat), cs.length = n ∧ DropI S (cs.drop i) ∧ BalR w P S cs v wr
theorem BalA.turn {r : Nat} (h : BalA w P r v wr) (hr : r ≤ 150) : BalD w P r 0 v wr := by
  obtain ⟨S, cs, rfl, hI, h⟩ := h
  exact ⟨S, cs, rfl, ⟨hI.1, hI.2.1, Nat.le_trans hI.2.2.2 hr, hr⟩, h⟩
theorem BalD.below {n i : Nat} (h : BalD w P n i v wr) : Below w.heap.size w wr := by obtain ⟨S, cs, _, _, h⟩ := h; exact h.below
theorem BalD.drewN {n i : Nat} (h : BalD w P n i v wr) (k : Nat) : BalD w P n i v (wr.drewN k) := by
  obtain ⟨S, cs, h1, h2, h3⟩ := h
  exact ⟨S, cs, h1, h2, h3.stay (below_drewN (Below.refl _ _) k)⟩
theorem BalD.slice {n i : Nat} (h : BalD w P n i v wr) : ∃ A cap, v = .slice A n cap ∧ n ≤ cap ∧ cap ≤ maxLen := by obtain ⟨S, cs, rfl, _, h⟩ := h; exact h.slice
/-- the number at j, held -/
theorem BalD.held {n i j : Nat} (h : BalD w P n i v wr) (hi : i ≤ j) (hj : j < n) : ∃ g cap pn, v = .slice (some ⟨g, 0, none⟩) n cap ∧ wr.cell? ⟨g, j, none⟩ = some (.int .i64 (pn : Nat)) ∧
    Calls Try.prog 14 #[.pointer (some ⟨P, 0, none⟩), .int .i64 pn] wr fun e w' => ∃ (m k : Nat), e = .returned (.int .i64 m) ∧ 0 < m ∧ m ≤ 1000000000 ∧ w' = wr.drewN k := by
  obtain ⟨S, cs, rfl, hI, h⟩ := h
  obtain ⟨g, cap, hv, _, _, hc⟩ := h.cell hj
  refine ⟨g, cap, cs[j], hv, hc, h.held hI ?_⟩
  have h1 : (cs.drop i)[j - i]? = some cs[j] := by rw [List.getElem?_drop, show i + (j - i) = j by omega, List.getElem?_eq_getElem hj]
  exact List.mem_of_getElem? h1
/-- one round: its path, how often it is held, its drop -/
theorem BalD.round {n i : Nat} (h : BalD w P n i v wr) (hi : i < n) : ∃ g cap pn, v = .slice (some ⟨g, 0, none⟩) n cap ∧ wr.cell? ⟨g, i, none⟩ = some (.int .i64 (pn : Nat)) ∧
    Calls Try.prog 13 #[.pointer (some ⟨P, 0, none⟩), .int .i64 pn] wr fun e w' => ∃ (A : Option Addr) (n2 cap2 : Nat), e = .returned (.slice A n2 cap2) ∧ 0 < n2 ∧
      Calls Try.prog 14 #[.pointer (some ⟨P, 0, none⟩), .int .i64 pn] w' fun e w2 => ∃ (m k : Nat), e = .returned (.int .i64 m) ∧ 0 < m ∧ m ≤ 1000000000 ∧ w2 = w'.drewN k ∧
        Calls Try.prog 15 #[.pointer (some ⟨P, 0, none⟩), .int .i64 pn] w2 fun e w3 => e = .returned (.bool true) ∧ BalD w P n (i + 1) v w3 := by
  obtain ⟨S, cs, rfl, hI, h⟩ := h
  obtain ⟨g, cap, hv, _, _, hc⟩ := h.cell hi
  have hd : cs.drop i = cs[i] :: cs.drop (i + 1) := List.drop_eq_getElem_cons hi
  rw [hd] at hI
  have hm : cs[i] ∈ cs[i] :: cs.drop (i + 1) := .head _
  refine ⟨g, cap, cs[i], hv, hc, (h.path hI hm).mono ?_⟩
  rintro e w' ⟨A, n2, cap2, rfl, h2, h3⟩
  refine ⟨A, n2, cap2, rfl, h2, (h3.held hI hm).mono ?_⟩
  rintro e w2 ⟨m, k, rfl, m0, m1, rfl⟩
  refine ⟨m, k, rfl, m0, m1, rfl, ((h3.stay (below_drewN (Below.refl _ _) k)).drop hI).mono ?_⟩
  rintro e w3 ⟨S', rfl, h4, h5⟩
  exact ⟨rfl, S', cs, rfl, h4, h5⟩
theorem BalD.used {n : Nat} (h : BalD w P n n v wr) : Calls Try.prog 11 #[.pointer (some ⟨P, 0, none⟩)] wr fun e w' => e = .returned (.int .i64 0) ∧ wr = w' := by
  obtain ⟨S, cs, rfl, hI, h⟩ := h
  rw [List.drop_length] at hI
  exact (h.empty hI).1
theorem BalD.last {n : Nat} (h : BalD w P n n v wr) : Calls Try.prog 15 #[.pointer (some ⟨P, 0, none⟩), .int .i64 0] wr fun e w' => e = .returned (.bool false) ∧ wr = w' := by
  obtain ⟨S, cs, rfl, hI, h⟩ := h
  rw [List.drop_length] at hI
  exact (h.empty hI).2
theorem addI_nil : AddI [] [] := ⟨binv_nil.1, binv_nil.2.1, binv_nil.2.2, Nat.le_refl _⟩
theorem AddI.done (h : AddI S cs) (hc : cs.length ≤ 150) : DropI S cs := ⟨h.1, h.2.1, Nat.le_trans h.2.2.2 hc, hc⟩
end
end Go.Proofs.Ytcgapjicbgfpjaa

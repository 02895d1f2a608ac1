/-
  PoolPlays in memory: the two pools and a step; the calls of a round.
-/
import Derived.Test.YtcgapjicbgfpjaaPlayp
import Derived.Test.YtcgapjicbgfpjaaStru
namespace Go.Proofs.Ytcgapjicbgfpjaa
set_option linter.unusedVariables false
set_option linter.unusedSimpArgs false
open Go.RowKit Go.Maps Go.Deep

/-- the pool at one state, the document's at another; L: the block of the step at hand -/
structure PlayX (w : World) (P B L : Nat) (ss : Array Value) (Sp Sr : St) (m : Int) (v : Value) (wr : World) : Prop where
  pool : PoolW (fun g => g < w.heap.size ∨ g = B ∨ v.ownBlock = some g ∨ g = L) wr P Sp m
  ref : RefX wr w.heap.size B Sr m v
  stp : Blk wr L 45 ss
  below : Below w.heap.size w wr
  hL : w.heap.size ≤ L
structure PlayR (w : World) (P B : Nat) (S : St) (m : Int) (v : Value) (wr : World) : Prop where
  pool : PoolW (fun g => g < w.heap.size ∨ g = B ∨ v.ownBlock = some g) wr P S m
  ref : RefX wr w.heap.size B S m v
  below : Below w.heap.size w wr
section
variable {w wr : World} {P B L : Nat} {ss : Array Value} {S Sp Sr : St} {m : Int} {v : Value}
theorem PlayR.stay {w' : World} (h : PlayR w P B S m v wr) (hb : Below wr.heap.size wr w') : PlayR w P B S m v w' :=
  ⟨h.pool.below hb, h.ref.stay hb, h.below.trans (hb.mono h.below.size)⟩
theorem PlayX.stay {w' : World} (h : PlayX w P B L ss Sp Sr m v wr) (hb : Below wr.heap.size wr w') : PlayX w P B L ss Sp Sr m v w' :=
  ⟨h.pool.below hb, h.ref.stay hb, h.stp.below hb h.stp.lt, h.below.trans (hb.mono h.below.size), h.hL⟩
theorem PlayR.begin (h : PlayR w P B S m v wr) (ss : Array Value) : PlayX w P B wr.heap.size ss S S m v (wr.alloc (.cells ss 45)) := by
  have hb := (Below.refl wr.heap.size wr).alloc (Nat.le_refl _) (.cells ss 45)
  exact ⟨(h.pool.turn fun g hg ht => by
    rcases ht with h1 | h1 | h1 | h1
    · exact .inl h1
    · exact .inr (.inl h1)
    · exact .inr (.inr h1)
    · omega).below hb, h.ref.stay hb, Blk.new _ _ _, h.below.trans (hb.mono h.below.size), h.below.size⟩
theorem PlayX.finish (h : PlayX w P B L ss S S m v wr) : PlayR w P B S m v wr :=
  ⟨h.pool.turn fun g _ ht => by
    rcases ht with h1 | h1 | h1
    · exact .inl h1
    · exact .inr (.inl h1)
    · exact .inr (.inr (.inl h1)), h.ref, h.below⟩
/-- the pool's call went through -/
theorem PlayX.poolMoved {w' : World} {S' : St} (h : PlayX w P B L ss Sp Sr m v wr) (hp : PoolW (fun g => g < w.heap.size ∨ g = B ∨ v.ownBlock = some g ∨ g = L) w' P S' m)
    (hk : KeptT (fun g => g < w.heap.size ∨ g = B ∨ v.ownBlock = some g ∨ g = L) wr w') : PlayX w P B L ss S' Sr m v w' := by
  refine ⟨hp, ⟨?_, ⟨h.ref.row.1, ?_⟩, h.ref.hB⟩, ?_, h.below.trans (hk.below (fun g hg => .inl hg) h.below.size), h.hL⟩
  · exact (hk.2.2.2.2 B h.ref.blk.lt (.inr (.inl rfl))).trans h.ref.blk
  · rcases h.ref.row.2 with hn | ⟨g, cap, cur, hv, hb, hgg, rest⟩
    · exact .inl hn
    · refine .inr ⟨g, cap, cur, hv, hb, ?_, rest⟩
      rw [hk.2.2.2.2 g (Array.getElem?_eq_some_iff.1 hgg).1 (.inr (.inr (.inl (by rw [hv]; rfl))))]
      exact hgg
  · exact (hk.2.2.2.2 L h.stp.lt (.inr (.inr (.inr rfl)))).trans h.stp
/-- the document's call went through -/
theorem PlayX.refMoved {w' : World} {S' : St} {v' : Value} (h : PlayX w P B L ss Sp Sr m v wr) (hr : RefX w' w.heap.size B S' m v') (hm : Moved wr w' B v v') : PlayX w P B L ss Sp S' m v' w' := by
  have hLB : L ≠ B := Blk.ne_ h.stp h.ref.blk (by decide)
  have hLv : v.ownBlock ≠ some L := own_blk_ne h.ref.row h.stp (by decide)
  have h1 : PoolW (fun g => (g < w.heap.size ∨ g = B ∨ v.ownBlock = some g ∨ g = L) ∨ v'.ownBlock = some g) wr P Sp m := h.pool.turn fun g hl hg => hg.elim id fun e => by
    rcases hm.2 with ha | ha
    · rw [ha] at e; exact .inr (.inr (.inl e))
    · have := ha g e; omega
  have h2 := h1.keep (w' := w') fun g hl hn => hm.1.2.2.2.2 g hl ⟨fun e => hn (.inl (.inr (.inl e))), fun e => hn (.inl (.inr (.inr (.inl e))))⟩
  refine ⟨h2.turn fun g _ hg => ?_, hr, (hm.1.2.2.2.2 L h.stp.lt ⟨hLB, hLv⟩).trans h.stp, ?_, h.hL⟩
  · rcases hg with h3 | h3 | h3 | h3
    · exact .inl (.inl h3)
    · exact .inl (.inr (.inl h3))
    · exact .inr h3
    · exact .inl (.inr (.inr (.inr h3)))
  · refine ⟨hm.1.1.trans h.below.os, hm.1.2.1.trans h.below.tape, hm.1.2.2.1.trans h.below.output, Nat.le_trans h.below.size hm.1.2.2.2.1, fun g hg => ?_⟩
    refine (hm.1.2.2.2.2 g (Nat.lt_of_lt_of_le hg h.below.size) ⟨fun e => ?_, fun e => ?_⟩).trans (h.below.block g hg)
    · have := h.ref.hB; omega
    · have := (h.ref.row.lt g e).1; omega
theorem PlayX.tlt (h : PlayX w P B L ss Sp Sr m v wr) : ∀ g, (g < w.heap.size ∨ g = B ∨ v.ownBlock = some g ∨ g = L) → g < wr.heap.size := fun g hg => by
  rcases hg with h1 | h1 | h1 | h1
  · exact Nat.lt_of_lt_of_le h1 h.below.size
  · rw [h1]; exact h.ref.blk.lt
  · exact (h.ref.row.lt g h1).2
  · rw [h1]; exact h.stp.lt
theorem PlayX.addP {t : Nat} (h : PlayX w P B L ss S S m v wr) (hI : PInv S t) (ht : t ≤ 1000) (p e : Int) (f : Bool) (hp : wfi p) (he : wfi e) :
    Calls Try.prog 10 #[.pointer (some ⟨P, 0, none⟩), .int .i64 p, .int .i64 e, .bool f] wr fun en w' => en = .returned (.tuple #[.int .i64 (addS S m p e f).2.1, .bool (addS S m p e f).2.2]) ∧ PlayX w P B L ss (addS S m p e f).1 S m v w' := by
  have := hI.2.2.2.2
  refine (add_any _ wr P S m h.pool h.tlt (by omega) hI.1.1 (hI.bnd ht) p e f hp he).mono ?_
  rintro en w' ⟨rfl, hW, hK⟩
  exact ⟨rfl, h.poolMoved hW hK⟩
theorem PlayX.addR {t : Nat} (h : PlayX w P B L ss Sp S m v wr) (hI : PInv S t) (ht : t ≤ 1000) (p e : Int) (f : Bool) :
    Calls Try.prog 17 #[.pointer (some ⟨B, 0, none⟩), .int .i64 p, .int .i64 e, .bool f] wr fun en w' => en = .returned (.tuple #[.int .i64 (addS S m p e f).2.1, .bool (addS S m p e f).2.2]) ∧ ∃ v', PlayX w P B L ss Sp (addS S m p e f).1 m v' w' := by
  have := hI.2.2.2.2
  refine (ref_add_any h.ref (by omega) hI.1.1 (hI.bnd ht) p e f).mono ?_
  rintro en w' ⟨rfl, v', hr, hm⟩
  exact ⟨rfl, v', h.refMoved hr hm⟩
theorem PlayX.holdP {t : Nat} (h : PlayX w P B L ss S Sr m v wr) (hI : PInv S t) (ht : t ≤ 1000) (i : Int) :
    Calls Try.prog 18 #[.pointer (some ⟨P, 0, none⟩), .int .i64 i] wr fun en w' => en = .returned (.bool (hasB S i)) ∧ PlayX w P B L ss (holdS S i) Sr m v w' := by
  have hl := hI.2.2.2.2
  obtain ⟨A1, A2, c1, c2, M, ys, D, hx, hdd⟩ := h.pool
  cases hc : cellAt S i with
  | none =>
    have e : holdS S i = S := by unfold holdS; rw [hc]
    have e2 : hasB S i = false := by rw [cellAt_has, hc]; rfl
    rw [e, e2]
    refine (hold_no hx i (by omega) e2).mono ?_
    rintro en w' ⟨rfl, rfl⟩
    exact ⟨rfl, h⟩
  | some c =>
    obtain ⟨q, rfl, hat⟩ := cellAt_some hc
    have e : holdS S q = S.set q (some { c with own := c.own + 1 }) := by unfold holdS; rw [hc]; simp only [Int.toNat_natCast]
    have e2 : hasB S q = true := by rw [cellAt_has, hc]; rfl
    have ho := hI.2.2.2.1 q c hat
    rw [e, e2]
    refine (hold_yes hx hdd hI.1.1 q c (by omega) hat (by omega) (by omega)).mono ?_
    rintro en w' ⟨rfl, hW, hK⟩
    exact ⟨rfl, h.poolMoved hW hK⟩
theorem PlayX.hasR {t : Nat} (h : PlayX w P B L ss Sp S m v wr) (hI : PInv S t) (ht : t ≤ 1000) (i : Int) :
    Calls Try.prog 19 #[.pointer (some ⟨B, 0, none⟩), .int .i64 i] wr fun en w' => en = .returned (.bool (hasB S i)) ∧ wr = w' := by
  have := hI.2.2.2.2
  exact ref_has h.ref i (by omega)
theorem PlayX.dropP {t : Nat} (h : PlayX w P B L ss S Sr m v wr) (hI : PInv S t) (ht : t ≤ 1000) (i : Int) :
    Calls Try.prog 15 #[.pointer (some ⟨P, 0, none⟩), .int .i64 i] wr fun en w' => en = .returned (.bool (dropS (cnt S) S i).2) ∧ PlayX w P B L ss (dropS (cnt S) S i).1 Sr m v w' := by
  have hl := hI.2.2.2.2
  obtain ⟨A1, A2, c1, c2, M, ys, D, hx, hdd⟩ := h.pool
  cases hc : cellAt S i with
  | none =>
    have e : dropS (cnt S) S i = (S, false) := by unfold dropS; rw [hc]
    have e2 : hasB S i = false := by rw [cellAt_has, hc]; rfl
    rw [e]
    refine (drop_no hx i (by omega) e2).mono ?_
    rintro en w' ⟨rfl, rfl⟩
    exact ⟨rfl, h⟩
  | some c =>
    obtain ⟨q, rfl, hat⟩ := cellAt_some hc
    have ho := hI.2.2.2.1 q c hat
    by_cases h0 : c.own = 0
    · have e : dropS (cnt S) S q = (S, false) := by unfold dropS; rw [hc]; simp only; rw [if_pos h0]
      rw [e]
      refine (drop_zero hx q c (by omega) hat h0).mono ?_
      rintro en w' ⟨rfl, rfl⟩
      exact ⟨rfl, h⟩
    · have e : (dropS (cnt S) S q).2 = true := by unfold dropS; rw [hc]; simp only; rw [if_neg h0]
      rw [e]
      refine (drop_some hx hdd hI.1 (hI.ownB ht) (by omega) q c hat (by omega)).mono ?_
      rintro en w' ⟨rfl, hW, hK⟩
      exact ⟨rfl, h.poolMoved hW hK⟩
theorem PlayX.dropR {t : Nat} (h : PlayX w P B L ss Sp S m v wr) (hI : PInv S t) (ht : t ≤ 1000) (i : Int) :
    Calls Try.prog 20 #[.pointer (some ⟨B, 0, none⟩), .int .i64 i] wr fun en w' => en = .returned (.bool (dropS (cnt S) S i).2) ∧ PlayX w P B L ss Sp (dropS (cnt S) S i).1 m v w' := by
  have hl := hI.2.2.2.2
  cases hc : cellAt S i with
  | none =>
    have e : dropS (cnt S) S i = (S, false) := by unfold dropS; rw [hc]
    have e2 : hasB S i = false := by rw [cellAt_has, hc]; rfl
    rw [e]
    refine (ref_drop_no h.ref i (by omega) e2).mono ?_
    rintro en w' ⟨rfl, rfl⟩
    exact ⟨rfl, h⟩
  | some c =>
    obtain ⟨q, rfl, hat⟩ := cellAt_some hc
    have ho := hI.2.2.2.1 q c hat
    by_cases h0 : c.own = 0
    · have e : dropS (cnt S) S q = (S, false) := by unfold dropS; rw [hc]; simp only; rw [if_pos h0]
      rw [e]
      refine (ref_drop_zero h.ref q c (by omega) hat h0).mono ?_
      rintro en w' ⟨rfl, rfl⟩
      exact ⟨rfl, h⟩
    · have e : (dropS (cnt S) S q).2 = true := by unfold dropS; rw [hc]; simp only; rw [if_neg h0]
      rw [e]
      refine (ref_drop_some h.ref hI.1 (hI.ownB ht) (by omega) q c hat (by omega)).mono ?_
      rintro en w' ⟨rfl, hW, hK⟩
      exact ⟨rfl, h.refMoved hW hK⟩
theorem PlayR.usedP {t : Nat} (h : PlayR w P B S m v wr) (hI : PInv S t) (ht : t ≤ 1000) :
    Calls Try.prog 11 #[.pointer (some ⟨P, 0, none⟩)] wr fun e w' => e = .returned (.int .i64 (cnt S : Nat)) ∧ wr = w' := by
  obtain ⟨A1, A2, c1, c2, M, ys, D, hx, hdd⟩ := h.pool
  exact used_any hx hdd
theorem PlayR.usedR {t : Nat} (h : PlayR w P B S m v wr) (hI : PInv S t) (ht : t ≤ 1000) :
    Calls Try.prog 21 #[.pointer (some ⟨B, 0, none⟩)] wr fun e w' => e = .returned (.int .i64 (cnt S : Nat)) ∧ PlayR w P B S m v w' := by
  have := hI.2.2.2.2
  exact (ref_used h.ref (by omega)).mono fun e w' ⟨h1, h2⟩ => ⟨h1, h.stay h2⟩
/-- how often a number is held -/
def heldS (S : St) (i : Int) : Int := match cellAt S i with
  | none => 0
  | some c => c.own + c.behind
theorem PlayR.heldP {t : Nat} (h : PlayR w P B S m v wr) (hI : PInv S t) (ht : t ≤ 1000) (i : Int) :
    Calls Try.prog 14 #[.pointer (some ⟨P, 0, none⟩), .int .i64 i] wr fun e w' => e = .returned (.int .i64 (heldS S i)) ∧ PlayR w P B S m v w' := by
  have hl := hI.2.2.2.2
  obtain ⟨A1, A2, c1, c2, M, ys, D, hx, hdd⟩ := h.pool
  unfold heldS
  cases hc : cellAt S i with
  | none =>
    refine (held_no hx i (by omega) (by rw [cellAt_has, hc]; rfl)).mono ?_
    rintro e w' ⟨rfl, rfl⟩
    exact ⟨rfl, h⟩
  | some c =>
    obtain ⟨q, rfl, hat⟩ := cellAt_some hc
    have hb := hI.bnd ht q c hat
    refine (held_yes hx q c (by omega) hat (by omega) ?_).mono ?_
    · have h2 := hI.1.2.2.2 q c hat
      have h3 : kids S (q : Int) ≤ S.length := List.countP_le_length
      have h4 := hI.2.2.2.1 q c hat
      omega
    rintro e w' ⟨rfl, k, rfl⟩
    exact ⟨rfl, h.stay (below_drewN (Below.refl _ _) k)⟩
theorem PlayR.heldR {t : Nat} (h : PlayR w P B S m v wr) (hI : PInv S t) (ht : t ≤ 1000) (i : Int) :
    Calls Try.prog 22 #[.pointer (some ⟨B, 0, none⟩), .int .i64 i] wr fun e w' => e = .returned (.int .i64 (heldS S i)) ∧ PlayR w P B S m v w' := by
  have hl := hI.2.2.2.2
  unfold heldS
  cases hc : cellAt S i with
  | none =>
    refine (ref_held_no h.ref i (by omega) (by rw [cellAt_has, hc]; rfl)).mono ?_
    rintro e w' ⟨rfl, rfl⟩
    exact ⟨rfl, h⟩
  | some c =>
    obtain ⟨q, rfl, hat⟩ := cellAt_some hc
    have hb := hI.bnd ht q c hat
    refine (ref_held_yes h.ref q c (by omega) hat (by omega) ?_).mono ?_
    · have h2 := hI.1.2.2.2 q c hat
      have h3 : kids S (q : Int) ≤ S.length := List.countP_le_length
      have h4 := hI.2.2.2.1 q c hat
      omega
    rintro e w' ⟨rfl, k, rfl⟩
    exact ⟨rfl, h.stay (below_drewN (Below.refl _ _) k)⟩
/-- both paths, and that they are alike -/
theorem PlayR.paths {t : Nat} (h : PlayR w P B S m v wr) (hI : PInv S t) (ht : t ≤ 1000) (i : Int) :
    Calls Try.prog 13 #[.pointer (some ⟨P, 0, none⟩), .int .i64 i] wr fun e w' => ∃ x, e = .returned x ∧
      Calls Try.prog 23 #[.pointer (some ⟨B, 0, none⟩), .int .i64 i] w' fun e2 w2 => ∃ y, e2 = .returned y ∧
        Calls Try.prog 12 #[x, y] w2 fun e3 w3 => e3 = .returned (.bool true) ∧ PlayR w P B S m v w3 := by
  have hl := hI.2.2.2.2
  have hch := hI.chain i
  obtain ⟨A1, A2, c1, c2, M, ys, D, hx, hdd⟩ := h.pool
  obtain ⟨hp1, hp2⟩ := pathF_len t S i
  refine (path_any (by omega) t i wr (by omega) hx hch).mono ?_
  rintro e w' ⟨x, rfl, hR, hB⟩
  obtain ⟨A, c, rfl, _, _⟩ := hR.slice
  refine ⟨_, rfl, (ref_path (h.ref.stay hB) (by omega) t (by omega) i hch).mono ?_⟩
  rintro e2 w2 ⟨A9, c9, rfl, hR9, hB9⟩
  refine ⟨_, rfl, (same_yes w2 A A9 c c9 _ (hR.reads.below hB9) hR9 (by omega) (fun z hz => by have := hp2 z hz; omega)).mono ?_⟩
  rintro e3 w3 ⟨rfl, k, rfl⟩
  exact ⟨rfl, ((h.stay hB).stay hB9).stay (below_drewN (Below.refl _ _) k)⟩
theorem PlayX.drewN (h : PlayX w P B L ss Sp Sr m v wr) (n : Nat) : PlayX w P B L ss Sp Sr m v (wr.drewN n) := h.stay (below_drewN (Below.refl _ _) n)
theorem holdS_none {S : St} {i : Int} (h : hasB S i = false) : holdS S i = S := by
  unfold holdS
  rw [cellAt_has] at h
  cases hc : cellAt S i with
  | none => rfl
  | some c => rw [hc] at h; cases h
theorem PlayX.holdR {t : Nat} (h : PlayX w P B L ss Sp S m v wr) (hI : PInv S t) (ht : t ≤ 1000) {i : Int} (hh : hasB S i = true) :
    ∃ (q : Nat) (c : Cl) (g cp : Nat), i = (q : Int) ∧ q < S.length ∧ v = .slice (some ⟨g, 0, none⟩) S.length cp ∧ S.length ≤ 1000 ∧ cp ≤ maxLen ∧ wr.cell? ⟨g, q * 6 + 4, none⟩ = some (.int .i64 c.own) ∧ wr.frozen? ⟨g, q * 6 + 4, none⟩ = false ∧ 0 ≤ c.own ∧ c.own ≤ 1000 ∧
      ∀ n, PlayX w P B L ss Sp (holdS S i) m v ((wr.drewN n).setCell ⟨g, q * 6 + 4, none⟩ (.int .i64 (c.own + 1))) := by
  rw [cellAt_has] at hh
  obtain ⟨c, hc⟩ := Option.isSome_iff_exists.1 hh
  obtain ⟨q, rfl, hat⟩ := cellAt_some hc
  have e : holdS S q = S.set q (some { c with own := c.own + 1 }) := by unfold holdS; rw [hc]; simp only [Int.toNat_natCast]
  have hl := hI.2.2.2.2
  have ho := hI.2.2.2.1 q c hat
  obtain ⟨g, cp, rfl, _, _, _, h2, hz, _, _, _, _, q4, _⟩ := h.ref.six (at_some.1 hat) rfl
  refine ⟨q, c, g, cp, rfl, at_lt hat, rfl, by omega, h2, q4, hz _, ho.1, by omega, fun n => ?_⟩
  rw [e]
  have h3 := h.drewN n
  exact h3.refMoved (h3.ref.set1 (o' := some { c with own := c.own + 1 }) (at_some.1 hat) 4 (.int .i64 (c.own + 1)) (by omega) rfl) (Moved.setRow rfl _ _)
/-- what holds at a round's head: r steps played -/
def PlayL (w : World) (P B : Nat) (m : Int) (r : Nat) (wr : World) : Prop := ∃ S v, PInv S r ∧ PlayR w P B S m v wr
theorem PlayL.start {wa wb : World} (hp : PoolW (fun g => g < w.heap.size) wa P [] m) (hb : Below w.heap.size w wa) (hr : RefX wb wa.heap.size wa.heap.size [] m (.slice none 0 0)) (hb2 : Below wa.heap.size wa wb) : PlayL w P wa.heap.size m 0 wb :=
  ⟨[], .slice none 0 0, pinv_nil, (hp.turn fun g hg ht => by
    rcases ht with h1 | h1 | h1
    · exact h1
    · omega
    · cases h1).below hb2, ⟨hr.blk, own_lower hr.row hb.size, hb.size⟩, hb.trans (hb2.mono hb.size)⟩
theorem PlayL.stay {w' : World} {r : Nat} (h : PlayL w P B m r wr) (hb : Below wr.heap.size wr w') : PlayL w P B m r w' := by
  obtain ⟨S, v, h1, h2⟩ := h
  exact ⟨S, v, h1, h2.stay hb⟩
theorem PlayL.below {r : Nat} (h : PlayL w P B m r wr) : Below w.heap.size w wr := by
  obtain ⟨S, v, h1, h2⟩ := h
  exact h2.below
end
end Go.Proofs.Ytcgapjicbgfpjaa

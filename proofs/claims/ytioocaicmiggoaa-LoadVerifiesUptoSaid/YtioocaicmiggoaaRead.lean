/-
  The walks of the reader's Uint (which defers and recovers), Int, Upto, Left, and Open.
-/
import Derived.Test.YtioocaicmiggoaaCaught
namespace Go.Proofs.Ytioocaicmiggoaa
set_option linter.unusedVariables false
set_option linter.unusedSimpArgs false
open Go.RowKit

theorem dec_pos {l : List UInt8} {v k : Nat} (h : dec l = some (v, k)) : 1 ≤ k := by
  have h1 := (dec_take h).2.2.1
  have := (vb_len v).1
  omega

/-- what becomes of Uint -/
def UPost (l : List UInt8) (p R : Nat) (A : Option Addr) (n c : Nat) (w : World) (e : Ending) (w' : World) : Prop :=
  e = .returned (.tuple #[.int .u64 (fstV (l.drop p)), .bool (decide (0 < fstK (l.drop p)))]) ∧ w.grownBy w' (some R) ∧ Rdr w' R A n c (p + fstK (l.drop p))

/-- Uint's own four variables -/
def uWorld (w : World) (R p : Nat) : World :=
  (((w.alloc (.cells #[.pointer (some ⟨R, 0, none⟩)] 106)).alloc (.cells #[.int .u64 0] 86)).alloc (.cells #[.bool false] 4)).alloc (.cells #[.int .i64 p] 3)
theorem uWorld_0 (w : World) (R p : Nat) : Blk (uWorld w R p) w.heap.size 106 #[.pointer (some ⟨R, 0, none⟩)] := (((Blk.new w _ _).alloc _).alloc _).alloc _
theorem uWorld_1 (w : World) (R p : Nat) : Blk (uWorld w R p) (w.heap.size + 1) 86 #[.int .u64 0] := by
  have h := Blk.new (w.alloc (.cells #[.pointer (some ⟨R, 0, none⟩)] 106)) 86 #[.int .u64 0]
  rw [World.size_alloc] at h
  exact (h.alloc _).alloc _
theorem uWorld_2 (w : World) (R p : Nat) : Blk (uWorld w R p) (w.heap.size + 2) 4 #[.bool false] := by
  have h := Blk.new ((w.alloc (.cells #[.pointer (some ⟨R, 0, none⟩)] 106)).alloc (.cells #[.int .u64 0] 86)) 4 #[.bool false]
  rw [World.size_alloc, World.size_alloc] at h
  exact h.alloc _
theorem uWorld_3 (w : World) (R p : Nat) : Blk (uWorld w R p) (w.heap.size + 3) 3 #[.int .i64 p] := by
  have h := Blk.new (((w.alloc (.cells #[.pointer (some ⟨R, 0, none⟩)] 106)).alloc (.cells #[.int .u64 0] 86)).alloc (.cells #[.bool false] 4)) 3 #[.int .i64 p]
  rw [World.size_alloc, World.size_alloc, World.size_alloc] at h
  exact h
theorem uWorld_grown (w : World) (R p : Nat) (row : Option Nat) : w.grownBy (uWorld w R p) row := only_alloc (only_alloc (only_alloc (only_alloc (World.grownBy.refl w row) _) _) _) _
theorem grown_tr {a b c : World} {row : Option Nat} (h : a.grownBy b row) (k : b.grownBy c row) : a.grownBy c row :=
  ⟨k.os.trans h.os, k.tape.trans h.tape, k.output.trans h.output, Nat.le_trans h.size k.size, fun i hi hne => (k.block i (Nat.lt_of_lt_of_le hi h.size) hne).trans (h.block i hi hne)⟩
/-- a store into a block that is newer than the world -/
theorem grown_new {a b : World} {row : Option Nat} (h : a.grownBy b row) {g i : Nat} (hg : a.heap.size ≤ g) (v : Value) : a.grownBy (b.setCell ⟨g, i, none⟩ v) row :=
  ⟨h.os, h.tape, h.output, by simpa [World.setCell] using h.size, fun k hk hne => (Below.heap_setCell b ⟨g, i, none⟩ v k (by show k ≠ g; omega)).trans (h.block k hk hne)⟩

set_option maxRecDepth 100000 in
set_option maxHeartbeats 4000000 in
theorem runint_any (A : Option Addr) (n c p R : Nat) (l : List UInt8) (w : World) (hn : l.length = n) (hp : p ≤ n) (hm : n ≤ 9223372036854775807) (hr : Rdr w R A n c p) (hR : Reads w R 1 A n (bv l)) :
    Calls Try.prog 102 #[.pointer (some ⟨R, 0, none⟩)] w (UPost l p R A n c w) := by
  have hmf : ∀ (fn : Fn) (first cap : Array Value) (w : World), (Instr.makeFunc fn first cap).run Try.prog w = .ok (.func fn first cap) w := fun _ _ _ _ => rfl
  have hRl : R < w.heap.size := Blk.lt hr
  have c1 : ∀ o o2 o3, (((w.alloc o).alloc o2).alloc o3).cell? ⟨R, 1, none⟩ = some (.int .i64 p) := fun o o2 o3 => by
    rw [World.cell?_alloc_lt _ _ _ (by simp; omega), World.cell?_alloc_lt _ _ _ (by simp; omega), World.cell?_alloc_lt _ _ _ hRl]; exact hr.c1
  have hG := uWorld_grown w R p (some R)
  have hr4 : Rdr (uWorld w R p) R A n c p := (((Blk.alloc hr _).alloc _).alloc _).alloc _
  have hR4 : Reads (uWorld w R p) R 1 A n (bv l) := hR.grown hG (by omega) (fun g hg => by injection hg with hg; omega)
  have C := Lib.hid (number_any A n c p R l (uWorld w R p) hn hp hm hr4 hR4)
  have HG := Lib.hid hG
  clear hR hr hn hr4 hR4 hG
  go_enter_defers Try.func102, Try.ntmps102
  go_wp2_with fail
  clear c1 hmf
  refine C.out.mono ?_
  rintro e V ⟨hg, hcase⟩
  have b0 := (uWorld_0 w R p).grown hg (by intro e; injection e with e; omega)
  have b1 := (uWorld_1 w R p).grown hg (by intro e; injection e with e; omega)
  have b2 := (uWorld_2 w R p).grown hg (by intro e; injection e with e; omega)
  have b3 := (uWorld_3 w R p).grown hg (by intro e; injection e with e; omega)
  have HGV := Lib.hid (grown_tr HG.out hg)
  clear hg HG C
  rcases hcase with ⟨v, k, hd, rfl, hr5⟩ | ⟨hd, rfl, q, hr5⟩
  · have hk := dec_pos hd
    have HF := Lib.hid (fst_some hd)
    have k1 := b1.cell 0
    have k2 := b2.cell 0
    have f1 := b1.frozen 0
    have f2 := b2.frozen 0
    simp only [List.getElem?_toArray, List.getElem?_cons_zero] at k1 k2
    have H5 := Lib.hid hr5
    clear b0 b1 b2 b3 hr5 hd
    go_wp2_with fail
    have kk2 : ((V.setCell ⟨w.heap.size + 1, 0, none⟩ (.int .u64 v)).setCell ⟨w.heap.size + 1 + 1, 0, none⟩ (.bool true)).cell? ⟨w.heap.size + 1 + 1, 0, none⟩ = some (.bool true) :=
      World.cell?_setCell_same _ _ _ ((World.cell?_setCell_other V ⟨w.heap.size + 1, 0, none⟩ ⟨w.heap.size + 1 + 1, 0, none⟩ (.int .u64 v) (by simp)).trans k2)
    have kk1 : ((V.setCell ⟨w.heap.size + 1, 0, none⟩ (.int .u64 v)).setCell ⟨w.heap.size + 1 + 1, 0, none⟩ (.bool true)).cell? ⟨w.heap.size + 1, 0, none⟩ = some (.int .u64 v) :=
      (World.cell?_setCell_other _ ⟨w.heap.size + 1 + 1, 0, none⟩ ⟨w.heap.size + 1, 0, none⟩ (.bool true) (by simp)).trans (World.cell?_setCell_same _ _ _ k1)
    have hgr : w.grownBy ((V.setCell ⟨w.heap.size + 1, 0, none⟩ (.int .u64 v)).setCell ⟨w.heap.size + 1 + 1, 0, none⟩ (.bool true)) (some R) := grown_new (grown_new HGV.out (by omega) _) (by omega) _
    have hrd : Rdr ((V.setCell ⟨w.heap.size + 1, 0, none⟩ (.int .u64 v)).setCell ⟨w.heap.size + 1 + 1, 0, none⟩ (.bool true)) R A n c (p + k) := Blk.far (Blk.far H5.out (p := ⟨w.heap.size + 1, 0, none⟩) (by show R ≠ w.heap.size + 1; omega) _) (p := ⟨w.heap.size + 1 + 1, 0, none⟩) (by show R ≠ w.heap.size + 1 + 1; omega) _
    generalize (V.setCell ⟨w.heap.size + 1, 0, none⟩ (.int .u64 v)).setCell ⟨w.heap.size + 1 + 1, 0, none⟩ (.bool true) = X at kk1 kk2 hgr hrd ⊢
    have hfin : UPost l p R A n c w (.returned (.tuple #[.int .u64 v, .bool true])) X := by
      unfold UPost
      rw [HF.out.1, HF.out.2]
      exact ⟨by rw [decide_eq_true (by omega : 0 < k)], hgr, hrd⟩
    have HX := Lib.hid hfin
    clear hfin hgr hrd k1 k2 f1 f2
    refine leaves_cons (f := 104) (args := #[.pointer (some ⟨w.heap.size + 1 + 1 + 1, 0, none⟩), .pointer (some ⟨w.heap.size, 0, none⟩), .pointer (some ⟨w.heap.size + 1, 0, none⟩), .pointer (some ⟨w.heap.size + 1 + 1, 0, none⟩)]) (by simp) (by simp [go_sem]) ?_
    refine (caught_idle _ _ _ _ _).mono ?_
    rintro e u' w'' ⟨rfl, rfl, rfl⟩
    refine ⟨_, (by simp [results, Try.results102, go_sem, kk1, kk2] : (results Try.f102 _).run Try.prog _ = .ok (.tuple #[.int .u64 v, .bool true]) _), HX.out⟩
  · have HF := Lib.hid (fst_none hd)
    have a0 := b0.cell 0
    have a1 := b1.cell 0
    have a2 := b2.cell 0
    have a3 := b3.cell 0
    have e1 := b1.frozen 0
    have e2 := b2.frozen 0
    simp only [List.getElem?_toArray, List.getElem?_cons_zero] at a0 a1 a2 a3
    have r1 := hr5.c1
    have r2 := hr5.fr 1
    have hVs : w.heap.size + 2 < V.heap.size := by have := World.block_lt_of_cell? V _ a3; simp at this; omega
    have hw1 : (caughtWorld V w.heap.size R p).cell? ⟨w.heap.size + 2, 0, none⟩ = some (.bool false) := by
      refine World.cell?_setCell_same _ _ _ (?_ : _ = some (.bool false))
      rw [World.cell?_setCell_other _ _ _ _ (by simp), World.cell?_setCell_other _ _ _ _ (by simp), World.cell?_alloc_lt _ _ _ (show w.heap.size + 2 < V.heap.size by omega)]
      exact a2
    have hw2 : (caughtWorld V w.heap.size R p).cell? ⟨w.heap.size + 1, 0, none⟩ = some (.int .u64 0) := by
      refine (World.cell?_setCell_other _ ⟨w.heap.size + 2, 0, none⟩ ⟨w.heap.size + 1, 0, none⟩ _ (by simp)).trans ?_
      refine World.cell?_setCell_same _ _ _ (?_ : _ = some (.int .u64 0))
      rw [World.cell?_setCell_other _ _ _ _ (by simp), World.cell?_alloc_lt _ _ _ (show w.heap.size + 1 < V.heap.size by omega)]
      exact a1
    have hgr : w.grownBy (caughtWorld V w.heap.size R p) (some R) := grown_new (grown_new (only_setCell (p := ⟨R, 1, none⟩) (only_alloc HGV.out _) (.inl rfl) _) (by omega) _) (by omega) _
    have hrd : Rdr (caughtWorld V w.heap.size R p) R A n c p := Blk.far (Blk.far (Rdr.set (Blk.alloc hr5 _) p _ rfl) (p := ⟨w.heap.size + 1, 0, none⟩) (by show R ≠ w.heap.size + 1; omega) _) (p := ⟨w.heap.size + 2, 0, none⟩) (by show R ≠ w.heap.size + 2; omega) _
    have hfin : UPost l p R A n c w (.returned (.tuple #[.int .u64 0, .bool false])) (caughtWorld V w.heap.size R p) := by
      unfold UPost
      rw [HF.out.1, HF.out.2]
      exact ⟨rfl, hgr, hrd⟩
    have HX := Lib.hid hfin
    clear hfin hgr hrd
    refine leaves_cons (f := 104) (args := #[.pointer (some ⟨w.heap.size + 1 + 1 + 1, 0, none⟩), .pointer (some ⟨w.heap.size, 0, none⟩), .pointer (some ⟨w.heap.size + 1, 0, none⟩), .pointer (some ⟨w.heap.size + 1 + 1, 0, none⟩)]) (by simp) (by simp [go_sem]) ?_
    refine (caught_stop w.heap.size R p _ _ _ [] V a3 a0 r1 r2 a1 e1 a2 e2).mono ?_
    rintro e u' w'' ⟨rfl, rfl, rfl⟩
    generalize caughtWorld V w.heap.size R p = X at hw1 hw2 HX ⊢
    have hw3 : X.cell? ⟨w.heap.size + 1 + 1, 0, none⟩ = some (.bool false) := hw1
    have hp2 := HX.out
    generalize UPost l p R A n c w = PP at hp2 ⊢
    simp [Leaves, settle, results, Try.results102, go_sem, hw2, hw3]
    exact hp2
end Go.Proofs.Ytioocaicmiggoaa

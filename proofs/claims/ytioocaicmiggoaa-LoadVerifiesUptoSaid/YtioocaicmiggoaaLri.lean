/-
  The walk of vm's right.
-/
import Derived.BigQuiet
import Derived.Test.YtioocaicmiggoaaLset
namespace Go.Proofs.Ytioocaicmiggoaa
set_option linter.unusedVariables false
set_option linter.unusedSimpArgs false
open Go.RowKit Go.Deep Go.Maps

def writB (nr : Int) (x : TIns) : Bool := decide (0 ≤ x.dst) && decide (x.dst < nr)
def rightC (wr ra rb sa : Bool) (ns ni nc : Int) (x : TIns) : Bool :=
  if x.op = 50 then wr && decide (x.b = 0) && decide (0 ≤ x.a) && decide (x.a < ni)
  else if x.op = 51 then wr && decide (x.b = 0) && decide (0 ≤ x.a) && decide (x.a < nc)
  else if x.op = 53 then decide (x.dst = 0) && decide (0 ≤ x.a) && decide (x.a < ns) && rb
  else if x.op = 54 then wr && decide (x.b = 0) && sa
  else if x.op = 52 then decide (x.dst = 0) && decide (x.b = 0) && ra
  else if x.op = 6 ∨ (15 ≤ x.op ∧ x.op ≤ 17) then wr && decide (x.b = 0) && ra
  else decide (1 ≤ x.op) && decide (x.op ≤ 14) && wr && ra && rb
def rightB (R S : List Int) (nr ns ni nc : Int) (x : TIns) : Bool := rightC (writB nr x) (decide (x.a ∈ R)) (decide (x.b ∈ R)) (decide (x.a ∈ S)) ns ni nc x
theorem blk7 {w : World} {g : Nat} {t : TypeId} {a0 a1 a2 a3 a4 a5 a6 : Value} (h : Blk w g t #[a0, a1, a2, a3, a4, a5, a6]) :
    w.cell? ⟨g, 0, none⟩ = some a0 ∧ w.cell? ⟨g, 1, none⟩ = some a1 ∧ w.cell? ⟨g, 2, none⟩ = some a2 ∧ w.cell? ⟨g, 3, none⟩ = some a3 ∧ w.cell? ⟨g, 4, none⟩ = some a4 ∧ w.cell? ⟨g, 5, none⟩ = some a5 ∧ w.cell? ⟨g, 6, none⟩ = some a6 :=
  ⟨h.cell 0, h.cell 1, h.cell 2, h.cell 3, h.cell 4, h.cell 5, h.cell 6⟩
theorem blk4 {w : World} {g : Nat} {t : TypeId} {a0 a1 a2 a3 : Value} (h : Blk w g t #[a0, a1, a2, a3]) :
    w.cell? ⟨g, 0, none⟩ = some a0 ∧ w.cell? ⟨g, 1, none⟩ = some a1 ∧ w.cell? ⟨g, 2, none⟩ = some a2 ∧ w.cell? ⟨g, 3, none⟩ = some a3 :=
  ⟨h.cell 0, h.cell 1, h.cell 2, h.cell 3⟩
set_option maxRecDepth 100000 in
set_option maxHeartbeats 4000000 in
theorem right_any (x : TIns) (w : World) (g bR nR bS nS : Nat) (R S : List Int) (nr ns : Int) (A2 A3 : Option Addr) (n2 c2 n3 c3 : Nat) (vl : Value)
    (hB : Blk w g 92 #[.int .i64 nr, .int .i64 ns, .slice A2 n2 c2, .slice A3 n3 c3, vl, .map (some bR), .map (some bS)]) (hR : SetX w bR nR R) (hS : SetX w bS nS S) (h2 : n2 ≤ c2 ∧ c2 ≤ maxLen) (h3 : n3 ≤ c3 ∧ c3 ≤ maxLen) (wa : wfi x.a) (wb : wfi x.b) :
    Calls Try.prog 43 #[.pointer (some ⟨g, 0, none⟩), .agg #[.int .i64 x.op, .int .i64 x.dst, .int .i64 x.a, .int .i64 x.b]] w (BoolP w (rightB R S nr ns n2 n3 x)) := by
  obtain ⟨h21, h22⟩ := h2
  obtain ⟨h31, h32⟩ := h3
  unfold maxLen at h22 h32
  obtain ⟨w1, hw1⟩ : ∃ w1, w1 = w.alloc (.cells #[.int .i64 x.op, .int .i64 x.dst, .int .i64 x.a, .int .i64 x.b] 75) := ⟨_, rfl⟩
  have BX : Blk w1 w.heap.size 75 #[.int .i64 x.op, .int .i64 x.dst, .int .i64 x.a, .int .i64 x.b] := by rw [hw1]; exact Blk.new w _ _
  have BG := hB.alloc (.cells #[.int .i64 x.op, .int .i64 x.dst, .int .i64 x.a, .int .i64 x.b] 75)
  rw [← hw1] at BG
  have HB1 : Hid (Below w.heap.size w w1) := Lib.hid (by rw [hw1]; exact (Below.refl w.heap.size w).alloc (Nat.le_refl _) _)
  have hgl := hB.lt
  have LRa := fun n => ((hR.alloc (.cells #[.int .i64 x.op, .int .i64 x.dst, .int .i64 x.a, .int .i64 x.b] 75)).drewN n).look wa
  have LRb := fun n => ((hR.alloc (.cells #[.int .i64 x.op, .int .i64 x.dst, .int .i64 x.a, .int .i64 x.b] 75)).drewN n).look wb
  have LSa := fun n => ((hS.alloc (.cells #[.int .i64 x.op, .int .i64 x.dst, .int .i64 x.a, .int .i64 x.b] 75)).drewN n).look wa
  rw [← hw1] at LRa LRb LSa
  unfold rightB
  obtain ⟨ra, hra⟩ : ∃ ra, decide (x.a ∈ R) = ra := ⟨_, rfl⟩
  obtain ⟨rb, hrb⟩ : ∃ rb, decide (x.b ∈ R) = rb := ⟨_, rfl⟩
  obtain ⟨sa, hsa⟩ : ∃ sa, decide (x.a ∈ S) = sa := ⟨_, rfl⟩
  rw [hra] at LRa ⊢
  rw [hrb] at LRb ⊢
  rw [hsa] at LSa ⊢
  clear hra hrb hsa
  obtain ⟨wr, hwr⟩ : ∃ wr, writB nr x = wr := ⟨_, rfl⟩
  have HWR := Lib.hid hwr
  rw [hwr]
  clear hwr
  obtain ⟨k0, k1, k2, k3, k4, k5, k6⟩ := blk7 BG
  obtain ⟨x0, x1, x2, x3⟩ := blk4 BX
  clear BG BX hB hR hS
  go_enter Try.func43, Try.ntmps43
  go_upto_region 1 with fail
  rw [← hw1]
  clear hw1
  go_cut [5] from 6 to 18 (fun b wx => b = .bool wr ∧ ∃ n, wx = w1.drewN n)
  case first =>
    refine wp_region_quiet_lit (by kernel_rfl) (by kernel_rfl) ?_
    repeat (any_goals (first | go_big_quiet_step (fail) | quiet_step (fail) | (refine wpQuiet_step (fun K hK => ?_); go_simp; split <;> (refine hK _ ?_; clear hK K))))
    all_goals (refine wpQuiet_nil ?_; intro _ hw'; obtain ⟨nq, hw''⟩ := hw'; subst hw'')
    all_goals go_wp2_with fail
    all_goals (go_meet; refine ⟨?_, _, rfl⟩; rw [← HWR.out]; congr 1; rw [Bool.eq_iff_iff]; unfold writB; simp; try omega)
  case rest =>
    obtain ⟨rfl, n, rfl⟩ := hcut
    clear HWR
    cases wr
    all_goals go_wp2_with fail
    all_goals (
      refine wp_region_quiet_lit (by kernel_rfl) (by kernel_rfl) ?_
      repeat (any_goals (first | go_big_quiet_step (fail) | quiet_step (fail) | (refine wpQuiet_step (fun K hK => ?_); go_simp; split <;> (refine hK _ ?_; clear hK K))))
      all_goals (refine wpQuiet_nil ?_; intro _ hw'; obtain ⟨nq, hw''⟩ := hw'; subst hw'')
      all_goals go_wp2_with fail
      all_goals (go_ret; refine ⟨ret_bool ?_, by first | exact below_drewN HB1.out _ | exact below_drewN (below_drewN HB1.out _) _⟩; (try simp only [beq_iff_eq, beq_eq_false_iff_ne, bne_iff_ne, ne_eq] at *); rw [Bool.eq_iff_iff]; unfold rightC; first | (simp [*]; done) | (simp [*]; omega) | (simp [*]; split <;> omega)))
end Go.Proofs.Ytioocaicmiggoaa

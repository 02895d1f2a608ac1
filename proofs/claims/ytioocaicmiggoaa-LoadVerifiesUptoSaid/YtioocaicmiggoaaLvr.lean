/-
  The document's Clean, Leaf, Operands, Input; vm.input.
-/
import Derived.Test.YtioocaicmiggoaaLva
namespace Go.Proofs.Ytioocaicmiggoaa
set_option linter.unusedVariables false
set_option linter.unusedSimpArgs false
open Go.RowKit Go.Deep

set_option maxRecDepth 100000 in
theorem rclean_any (x : TVal) (w : World) (hb : wfu x.bits) :
    Calls Try.prog 46 #[.agg #[.int .i64 x.kind, .int .u64 x.bits]] w (ValP w (cleanV x)) := by
  obtain ⟨k, b⟩ := x
  obtain ⟨h0, h1⟩ := wfu_lo hb
  have B0 := Lib.hid (fun o o2 => ((Below.refl w.heap.size w).alloc (Nat.le_refl _) o).alloc (by simp) o2)
  obtain ⟨kk, bb, hc⟩ : ∃ kk bb, cleanV ⟨k, b⟩ = ⟨kk, bb⟩ := ⟨_, _, rfl⟩
  have HC := Lib.hid hc
  rw [hc]
  clear hc
  by_cases c1 : k = 1
  · have e1 : (k == 1) = true := by simpa using c1
    have e : Hid (kk = k ∧ bb = b) := Lib.hid (by have := HC.out; unfold cleanV at this; rw [if_pos c1] at this; simpa [eq_comm] using this)
    clear c1
    go_enter Try.func46, Try.ntmps46
    go_wp2_with fail
    exact bodyPost_ret (v := .agg #[.int .i64 k, .int .u64 b]) (by simp [results, Try.results46, go_sem]) rfl ⟨by rw [e.out.1, e.out.2], B0.out _ _⟩
  · have e1 : (k == 1) = false := by simpa using c1
    by_cases c2 : (k = 2 ∧ b < 2) ∨ (k = 3 ∧ b < 64)
    · have e : Hid (kk = k ∧ bb = b) := Lib.hid (by have := HC.out; unfold cleanV at this; rw [if_neg c1, if_pos c2] at this; simpa [eq_comm] using this)
      rcases c2 with ⟨c2, c3⟩ | ⟨c2, c3⟩
      · have e2 : (k == 2) = true := by simpa using c2
        have c4 : b ≤ 1 := by omega
        clear c1 c2 c3
        go_enter Try.func46, Try.ntmps46
        go_wp2_with fail
        exact bodyPost_ret (v := .agg #[.int .i64 k, .int .u64 b]) (by simp [results, Try.results46, go_sem]) rfl ⟨by rw [e.out.1, e.out.2], B0.out _ _⟩
      · have e2 : (k == 2) = false := by simp; omega
        have e3 : (k == 3) = true := by simpa using c2
        have c4 : b ≤ 63 := by omega
        clear c1 c2 c3
        go_enter Try.func46, Try.ntmps46
        go_wp2_with fail
        exact bodyPost_ret (v := .agg #[.int .i64 k, .int .u64 b]) (by simp [results, Try.results46, go_sem]) rfl ⟨by rw [e.out.1, e.out.2], B0.out _ _⟩
    · by_cases c4 : k = 4
      · have e : Hid (kk = 4 ∧ bb = canon b) := Lib.hid (by have := HC.out; unfold cleanV at this; rw [if_neg c1, if_neg c2, if_pos c4] at this; simpa [eq_comm] using this)
        have e2 : (k == 2) = false := by simp; omega
        have e3 : (k == 3) = false := by simp; omega
        have e4 : (k == 4) = true := by simpa using c4
        have CA := Lib.hid (fun W => rcanon_any b W h0 h1)
        clear c1 c2 c4
        go_enter Try.func46, Try.ntmps46
        go_wp2_with fail
        refine (CA.out _).mono ?_
        rintro e9 w9 ⟨rfl, rfl⟩
        go_wp2_with fail
        exact bodyPost_ret (v := .agg #[.int .i64 4, .int .u64 (canon b)]) (by simp [results, Try.results46, go_sem]) rfl ⟨by rw [e.out.1, e.out.2], B0.out _ _⟩
      · have e : Hid (kk = 0 ∧ bb = 0) := Lib.hid (by have := HC.out; unfold cleanV at this; rw [if_neg c1, if_neg c2, if_neg c4] at this; simpa [eq_comm] using this)
        have e4 : (k == 4) = false := by simpa using c4
        rcases e2 : (k == 2) with _ | _
        · rcases e3 : (k == 3) with _ | _
          · clear c1 c2 c4
            go_enter Try.func46, Try.ntmps46
            go_wp2_with fail
            exact bodyPost_ret (v := .agg #[.int .i64 0, .int .u64 0]) (by simp [results, Try.results46, go_sem]) rfl ⟨by rw [e.out.1, e.out.2], B0.out _ _⟩
          · have c5 : 64 ≤ b := by have : k = 3 := by simpa using e3
                                   omega
            clear c1 c2 c4
            go_enter Try.func46, Try.ntmps46
            go_wp2_with fail
            exact bodyPost_ret (v := .agg #[.int .i64 0, .int .u64 0]) (by simp [results, Try.results46, go_sem]) rfl ⟨by rw [e.out.1, e.out.2], B0.out _ _⟩
        · have c6 : k = 2 := by simpa using e2
          have e3 : (k == 3) = false := by simp; omega
          have c5 : 2 ≤ b := by omega
          clear c1 c2 c4 c6
          go_enter Try.func46, Try.ntmps46
          go_wp2_with fail
          exact bodyPost_ret (v := .agg #[.int .i64 0, .int .u64 0]) (by simp [results, Try.results46, go_sem]) rfl ⟨by rw [e.out.1, e.out.2], B0.out _ _⟩
def leafB (op : Int) : Bool := decide (op = 41) || decide (op = 42) || (decide (25 ≤ op) && decide (op ≤ 31))
def inputB (x : TInp) : Bool :=
  leafB x.op && decide (1 ≤ x.kind) && decide (x.kind ≤ 4) && decide (0 ≤ x.pos) && decide (x.pos ≤ 7) && decide (-1 ≤ x.attr) && decide (x.attr ≤ 7) && (!decide (x.op = 41) || decide (x.pos = 0)) && (!decide (x.op = 25) || decide (x.attr = 0))
def opnds (op : Int) : Int := if op = 6 ∨ op = 15 ∨ op = 16 ∨ op = 17 then 1 else if 1 ≤ op ∧ op ≤ 14 then 2 else 0
theorem leaf_any (op : Int) (w : World) : Calls Try.prog 64 #[.int .i64 op] w fun e w' => e = .returned (.bool (leafB op)) ∧ w = w' := by
  go_enter Try.func64, Try.ntmps64
  go_wp2_with fail
  all_goals (go_ret; exact ⟨ret_bool (by rw [Bool.eq_iff_iff]; unfold leafB; simp; try omega), rfl⟩)
theorem operands_any (op : Int) (w : World) : Calls Try.prog 47 #[.int .i64 op] w fun e w' => e = .returned (.int .i64 (opnds op)) ∧ w = w' := by
  go_enter Try.func47, Try.ntmps47
  go_wp2_with fail
  all_goals (go_ret; exact ⟨ret_int (by (try simp only [beq_iff_eq, beq_eq_false_iff_ne, ne_eq] at *); unfold opnds; (repeat' split) <;> omega), rfl⟩)
set_option maxRecDepth 100000 in
theorem input_any (x : TInp) (w : World) : Calls Try.prog 41 #[.agg #[.int .i64 x.op, .int .i64 x.kind, .int .i64 x.pos, .int .i64 x.attr]] w (BoolP w (inputB x)) := by
  have B0 := Lib.hid (fun o => (Below.refl w.heap.size w).alloc (Nat.le_refl _) o)
  go_enter Try.func41, Try.ntmps41
  go_wp2_with fail
  all_goals (go_ret; exact ⟨ret_bool (by rw [Bool.eq_iff_iff]; unfold inputB leafB; (try simp only [beq_iff_eq, beq_eq_false_iff_ne, ne_eq] at *); simp; try omega), B0.out _⟩)
set_option maxRecDepth 100000 in
theorem rinput_any (x : TInp) (w : World) : Calls Try.prog 45 #[.agg #[.int .i64 x.op, .int .i64 x.kind, .int .i64 x.pos, .int .i64 x.attr]] w (BoolP w (inputB x)) := by
  have B0 := Lib.hid (fun o => (Below.refl w.heap.size w).alloc (Nat.le_refl _) o)
  obtain ⟨lb, hlb⟩ : ∃ lb, leafB x.op = lb := ⟨_, rfl⟩
  have LF := Lib.hid (fun W => leaf_any x.op W)
  rw [hlb] at LF
  have HLB := Lib.hid hlb
  clear hlb
  go_enter Try.func45, Try.ntmps45
  go_wp2_with fail
  refine (LF.out _).mono ?_
  rintro e w9 ⟨rfl, rfl⟩
  cases lb with
  | false =>
    go_wp2_with fail
    all_goals (go_ret; exact ⟨ret_bool (by rw [Bool.eq_iff_iff]; unfold inputB; rw [HLB.out]; simp), B0.out _⟩)
  | true =>
    go_wp2_with fail
    all_goals (go_ret; exact ⟨ret_bool (by rw [Bool.eq_iff_iff]; unfold inputB; rw [HLB.out]; (try simp only [beq_iff_eq, beq_eq_false_iff_ne, bne_iff_ne, ne_eq] at *); simp; try omega), B0.out _⟩)
end Go.Proofs.Ytioocaicmiggoaa

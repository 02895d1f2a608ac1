/-
  The walks of the closure that the reader's Uint defers: it catches the program's own panic, or finds none.
-/
import Derived.Test.YtioocaicmiggoaaNext
namespace Go.Proofs.Ytioocaicmiggoaa
set_option linter.unusedVariables false
set_option linter.unusedSimpArgs false
open Go.RowKit

/-- what the deferred closure leaves where it caught the program's own panic -/
def caughtWorld (w : World) (B R : Nat) (at_ : Int) : World :=
  (((w.alloc (.cells #[] 190)).setCell ⟨R, 1, none⟩ (.int .i64 at_)).setCell ⟨B + 1, 0, none⟩ (.int .u64 0)).setCell ⟨B + 2, 0, none⟩ (.bool false)

set_option maxRecDepth 100000 in
set_option maxHeartbeats 2000000 in
theorem caught_stop (B R : Nat) (at_ : Int) (x0 x1 x2 : Value) (older : List PanicEntry) (w : World)
    (ha : w.cell? ⟨B + 3, 0, none⟩ = some (.int .i64 at_)) (hr : w.cell? ⟨B, 0, none⟩ = some (.pointer (some ⟨R, 0, none⟩))) (h0 : w.cell? ⟨R, 1, none⟩ = some x0) (f0 : w.frozen? ⟨R, 1, none⟩ = false)
    (h1 : w.cell? ⟨B + 1, 0, none⟩ = some x1) (f1 : w.frozen? ⟨B + 1, 0, none⟩ = false) (h2 : w.cell? ⟨B + 2, 0, none⟩ = some x2) (f2 : w.frozen? ⟨B + 2, 0, none⟩ = false) :
    CallsD Try.prog 104 #[.pointer (some ⟨B + 3, 0, none⟩), .pointer (some ⟨B, 0, none⟩), .pointer (some ⟨B + 1, 0, none⟩), .pointer (some ⟨B + 2, 0, none⟩)] (.panicking ({ v := .iface 190 (.agg #[]), recovered := false } :: older)) w fun e u' w' =>
      e = .returned (.tuple #[]) ∧ u' = .panicking ({ v := .iface 190 (.agg #[]), recovered := true } :: older) ∧ w' = caughtWorld w B R at_ := by
  have hta : ∀ W, (Instr.typeAssert (.iface 190 (.agg #[])) 20 190 true).run Try.prog W = .ok (.tuple #[.agg #[], .bool true]) W := fun _ => by kernel_rfl
  have kc : ∀ (a : Addr) (v : Value) (o : Obj), w.cell? a = some v → (w.alloc o).cell? a = some v := fun a v o h => (World.cell?_alloc_lt w o a (World.block_lt_of_cell? w a h)).trans h
  have kf : ∀ (a : Addr) (v : Value) (o : Obj), w.cell? a = some v → w.frozen? a = false → (w.alloc o).frozen? a = false := fun a v o h hf => by
    have hb := World.block_lt_of_cell? w a h
    rw [World.frozen?_of_block (Below.heap_alloc w o a.block hb)]; exact hf
  have ha' := fun o => kc _ _ o ha
  have hr' := fun o => kc _ _ o hr
  have h0' := fun o => kc _ _ o h0
  have h1' := fun o => kc _ _ o h1
  have h2' := fun o => kc _ _ o h2
  have f0' := fun o => kf _ _ o h0 f0
  have f1' := fun o => kf _ _ o h1 f1
  have f2' := fun o => kf _ _ o h2 f2
  clear kc kf
  refine callsD_of_wpS Try.func104 rfl fun c₀ cs hu => ?_
  apply wpS_seq
  apply wpS_region
  simp [wpOpsS, go_sem, recoverD, hu, Try.ntmps104, Exit.thenS]
  refine wpS_of_wp ?_
  rw [show (#[Value.pointer (some ⟨B + 3, 0, none⟩), .pointer (some ⟨B, 0, none⟩), .pointer (some ⟨B + 1, 0, none⟩), .pointer (some ⟨B + 2, 0, none⟩)] ++ ((Array.replicate 18 undef).setIfInBounds 3 (Value.iface 190 (.agg #[]))).setIfInBounds 0 (Value.iface 190 (.agg #[]))) = #[.pointer (some ⟨B + 3, 0, none⟩), .pointer (some ⟨B, 0, none⟩), .pointer (some ⟨B + 1, 0, none⟩), .pointer (some ⟨B + 2, 0, none⟩), .iface 190 (.agg #[]), undef, undef, .iface 190 (.agg #[]), undef, undef, undef, undef, undef, undef, undef, undef, undef, undef, undef, undef, undef, undef] from rfl]
  go_wp2_with fail
  exact ⟨rfl, _, rfl, _, results_none rfl _ _ _, rfl, rfl, rfl⟩

set_option maxRecDepth 100000 in
set_option maxHeartbeats 2000000 in
theorem caught_idle (pa pr pn pk : Addr) (w : World) :
    CallsD Try.prog 104 #[.pointer (some pa), .pointer (some pr), .pointer (some pn), .pointer (some pk)] .returning w fun e u' w' => e = .returned (.tuple #[]) ∧ u' = .returning ∧ w' = w := by
  refine callsD_of_wpS Try.func104 rfl fun c₀ cs hu => ?_
  apply wpS_seq
  apply wpS_region
  simp [wpOpsS, go_sem, recoverD, hu, Try.ntmps104, Exit.thenS]
  refine wpS_of_wp ?_
  rw [show (#[Value.pointer (some pa), .pointer (some pr), .pointer (some pn), .pointer (some pk)] ++ ((Array.replicate 18 undef).setIfInBounds 3 Value.nilIface).setIfInBounds 0 Value.nilIface) = #[.pointer (some pa), .pointer (some pr), .pointer (some pn), .pointer (some pk), .nilIface, undef, undef, .nilIface, undef, undef, undef, undef, undef, undef, undef, undef, undef, undef, undef, undef, undef, undef] from rfl]
  go_wp2_with fail
  cases c₀
  simp_all [bodyPostS, results, Try.results104]
end Go.Proofs.Ytioocaicmiggoaa

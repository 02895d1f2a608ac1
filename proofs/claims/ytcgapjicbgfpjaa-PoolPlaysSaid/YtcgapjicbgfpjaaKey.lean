/-
  The pool's map: its keys (two integers and a bool), read as literals.
-/
import Derived.Maps.OwnOps
import Derived.Maps.OwnSet
import Derived.DeepKeys4
import Derived.Test.YtcgapjicbgfpjaaMem
import Derived.Test.YtcgapjicbgfpjaaProg
namespace Go.Proofs.Ytcgapjicbgfpjaa
set_option linter.unusedVariables false
set_option linter.unusedSimpArgs false
open Go.RowKit Go.Maps

theorem laid_key : laidOutB Try.prog = true := by kernel_rfl
theorem law_key : Keyed Try.prog 59 :=
  Keyed.of_law (deep_law_laid laid_key (m := 100) (by omega) (of_decide_eq_true (by kernel_rfl)) (by kernel_rfl) (by kernel_rfl))
theorem zero_int (w : World) : (zeroValue 3).run Try.prog w = .ok (.int .i64 0) w := by kernel_rfl
def kv (p e : Int) (f : Bool) : Value := .agg #[.int .i64 p, .int .i64 e, .bool f]
noncomputable def kl (p e : Int) (f : Bool) : Lit := (keyOf Try.prog 59 (kv p e f)).getD (.bool false)
def wfi (a : Int) : Prop := (Lit.int .i64 a).wf = true
theorem key_of (p e : Int) (f : Bool) (hp : wfi p) (he : wfi e) : keyOf Try.prog 59 (kv p e f) = some (kl p e f) := by
  have h : ∃ l, keyOf Try.prog 59 (kv p e f) = some l := by
    obtain ⟨m, hm⟩ : ∃ m, Try.prog.types.size = m + 1 := ⟨Try.prog.types.size - 1, by
      have : 0 < Try.prog.types.size := of_decide_eq_true (by kernel_rfl)
      omega⟩
    have hf : (kv p e f).formed Try.prog 59 = true := by
      unfold kv Value.formed
      rw [Try.underlying59]
      exact beq_iff_eq.2 (show (#[Value.int .i64 p, Value.int .i64 e, Value.bool f] : Array Value).size = Try.prog.cellsOf 59 from (show (3 : Nat) = Try.prog.cellsOf 59 by kernel_rfl))
    have c1 : Try.prog.cellsOf 59 = 3 := by kernel_rfl
    have c2 : Try.prog.cellsOf 3 = 1 := by kernel_rfl
    have c3 : Try.prog.cellsOf 4 = 1 := by kernel_rfl
    unfold wfi at hp he
    unfold keyOf
    rw [Try.underlying59, hf, show Try.prog.keyType 59 = true by kernel_rfl, hm]
    have hi : ∀ (d : Nat) (a : Int), (Lit.int .i64 a).wf = true → Try.prog.keyLits (d + 1) 3 [.int .i64 a] = some [.int .i64 a] := fun d a ha => by
      unfold Program.keyLits
      rw [Try.underlying3]
      simp [ha]
    have hb : ∀ (d : Nat) (b : Bool), Try.prog.keyLits (d + 1) 4 [.bool b] = some [.bool b] := fun d b => by
      unfold Program.keyLits
      rw [Try.underlying4]
    have hc : (kv p e f).cells.toList = [.int .i64 p, .int .i64 e, .bool f] := by simp [kv, Value.cells]
    rw [hc]
    have hk : ∃ ls, Try.prog.keyLits (m + 1 + 1) 59 [.int .i64 p, .int .i64 e, .bool f] = some ls := by
      unfold Program.keyLits
      rw [Try.underlying59]
      simp [hi, hb, hp, he, c1, c2, c3]
    obtain ⟨ls, hls⟩ := hk
    rw [hls]
    exact ⟨_, rfl⟩
  obtain ⟨l, hl⟩ := h
  unfold kl
  rw [hl]; rfl
theorem key_inj {p e p' e' : Int} {f f' : Bool} (hp : wfi p) (he : wfi e) (hp' : wfi p') (he' : wfi e') (h : kl p e f = kl p' e' f') : p = p' ∧ e = e' ∧ f = f' := by
  have h1 := key_of p e f hp he
  have h2 := key_of p' e' f' hp' he'
  rw [h] at h1
  have h3 := law_key.inj h1 h2
  unfold kv at h3
  injection h3 with h3
  simpa using h3
end Go.Proofs.Ytcgapjicbgfpjaa

/-
  The walks of Upto and Open, and of a reader that isn't there.
-/
import Derived.Test.YtioocaicmiggoaaMore
namespace Go.Proofs.Ytioocaicmiggoaa
set_option linter.unusedVariables false
set_option linter.unusedSimpArgs false
open Go.RowKit

theorem rint_nil (w : World) : Calls Try.prog 103 #[.pointer none] w fun e w' => e = .returned (.tuple #[.int .i64 0, .bool false]) ∧ w.grownBy w' none := by
  have t2 : bits BinOp.and IntKind.u64 0 1 = 0 := by decide
  have x1 : bits BinOp.xor IntKind.i64 0 0 = 0 := by decide
  have C := Lib.hid (runint_nil w)
  go_enter Try.func103, Try.ntmps103
  go_wp2_with fail
  refine C.out.mono ?_
  rintro e w' ⟨rfl, hg⟩
  go_wp2_with fail
  go_ret2
  exact ⟨rfl, hg⟩
theorem upto_nil (a b : Int) (w : World) : Calls Try.prog 97 #[.pointer none, .int .i64 a, .int .i64 b] w fun e w' => e = .returned (.tuple #[.int .i64 0, .bool false]) ∧ w = w' := by
  go_enter Try.func97, Try.ntmps97
  go_wp2_with fail
  go_ret2
  exact ⟨rfl, rfl⟩

/-- what Upto reads -/
def upOk (l : List UInt8) (a b : Int) : Prop := 0 < fstK l ∧ a ≤ zag (fstV l) ∧ zag (fstV l) ≤ b
instance (l : List UInt8) (a b : Int) : Decidable (upOk l a b) := by unfold upOk; infer_instance
def upV (l : List UInt8) (a b : Int) : Int := if upOk l a b then zag (fstV l) else 0
def upK (l : List UInt8) (a b : Int) : Nat := if upOk l a b then fstK l else 0
def UpPost (l : List UInt8) (a b : Int) (p R : Nat) (A : Option Addr) (n c : Nat) (w : World) (e : Ending) (w' : World) : Prop :=
  e = .returned (.tuple #[.int .i64 (upV (l.drop p) a b), .bool (decide (upOk (l.drop p) a b))]) ∧ w.grownBy w' (some R) ∧ Rdr w' R A n c (p + upK (l.drop p) a b)

set_option maxRecDepth 100000 in
theorem upto_any (a b : Int) (A : Option Addr) (n c p R : Nat) (l : List UInt8) (w : World) (hn : l.length = n) (hp : p ≤ n) (hm : n ≤ 9223372036854775807) (hr : Rdr w R A n c p) (hR : Reads w R 1 A n (bv l)) :
    Calls Try.prog 97 #[.pointer (some ⟨R, 0, none⟩), .int .i64 a, .int .i64 b] w (UpPost l a b p R A n c w) := by
  have C := Lib.hid (rint_meth A n c p R l w hn hp hm hr hR)
  have c1 := hr.c1
  clear hn hp hm hr hR
  unfold IPost at C
  unfold UpPost upV upK
  obtain ⟨K, hK⟩ : ∃ K, fstK (l.drop p) = K := ⟨_, rfl⟩
  obtain ⟨V, hV⟩ : ∃ V, zag (fstV (l.drop p)) = V := ⟨_, rfl⟩
  have hup : upOk (l.drop p) a b = (0 < K ∧ a ≤ V ∧ V ≤ b) := by unfold upOk; rw [hK, hV]
  rw [hK, hV] at C ⊢
  by_cases h0 : 0 < K
  · rw [decide_eq_true h0] at C
    by_cases h1 : V < a
    · have hno : ¬ upOk (l.drop p) a b := by rw [hup]; omega
      rw [if_neg hno, if_neg hno, decide_eq_false hno]
      clear hno hup hK hV
      go_enter Try.func97, Try.ntmps97
      go_wp2_with fail
      refine C.out.mono ?_
      rintro e w' ⟨rfl, hg, hr⟩
      have d1 := hr.c1
      have f1 := hr.fr 1
      have HP := Lib.hid (And.intro (only_setCell (p := ⟨R, 1, none⟩) hg (.inl rfl) (.int .i64 p)) (Rdr.set hr p _ rfl))
      clear hr hg
      go_wp2_with fail
      go_ret2
      exact ⟨rfl, HP.out⟩
    · by_cases h2 : b < V
      · have hno : ¬ upOk (l.drop p) a b := by rw [hup]; omega
        rw [if_neg hno, if_neg hno, decide_eq_false hno]
        clear hno hup hK hV
        go_enter Try.func97, Try.ntmps97
        go_wp2_with fail
        refine C.out.mono ?_
        rintro e w' ⟨rfl, hg, hr⟩
        have d1 := hr.c1
        have f1 := hr.fr 1
        have HP := Lib.hid (And.intro (only_setCell (p := ⟨R, 1, none⟩) hg (.inl rfl) (.int .i64 p)) (Rdr.set hr p _ rfl))
        clear hr hg
        go_wp2_with fail
        go_ret2
        exact ⟨rfl, HP.out⟩
      · have hno : upOk (l.drop p) a b := by rw [hup]; omega
        rw [if_pos hno, if_pos hno, decide_eq_true hno]
        clear hno hup hK hV
        go_enter Try.func97, Try.ntmps97
        go_wp2_with fail
        refine C.out.mono ?_
        rintro e w' ⟨rfl, hg, hr⟩
        have HP := Lib.hid (And.intro hg hr)
        clear hr hg
        go_wp2_with fail
        go_ret2
        exact ⟨rfl, HP.out⟩
  · have hno : ¬ upOk (l.drop p) a b := by rw [hup]; omega
    rw [decide_eq_false h0] at C
    rw [if_neg hno, if_neg hno, decide_eq_false hno]
    clear hno hup hK hV
    go_enter Try.func97, Try.ntmps97
    go_wp2_with fail
    refine C.out.mono ?_
    rintro e w' ⟨rfl, hg, hr⟩
    have d1 := hr.c1
    have f1 := hr.fr 1
    have HP := Lib.hid (And.intro (only_setCell (p := ⟨R, 1, none⟩) hg (.inl rfl) (.int .i64 p)) (Rdr.set hr p _ rfl))
    clear hr hg
    go_wp2_with fail
    go_ret2
    exact ⟨rfl, HP.out⟩

/-- what Open hands back: a reader of the call's own over bytes of the call's own -/
def OPost (l : List UInt8) (n : Nat) (w : World) (e : Ending) (w' : World) : Prop :=
  ∃ R A c, e = .returned (.pointer (some ⟨R, 0, none⟩)) ∧ w.heap.size ≤ R ∧ Rdr w' R A n c 0 ∧ Reads w' R 1 A n (bv l) ∧ w'.ownsRow w.heap.size 5 1 (.slice A n c) n (bv l) ∧ Below w.heap.size w w'

theorem own_slice {w : World} {base : Nat} {e : TypeId} {s n : Nat} {v : Value} {xs : List Value} (h : w.ownsRow base e s v n xs) : ∃ A c, v = .slice A n c := by
  rcases h.2 with ⟨rfl, rfl⟩ | ⟨g, cap, cur, rfl, _⟩
  · exact ⟨none, 0, rfl⟩
  · exact ⟨_, cap, rfl⟩

set_option maxRecDepth 100000 in
theorem open_any (A : Option Addr) (n c : Nat) (l : List UInt8) (w : World) (hn : l.length = n) (hm : n ≤ 140737488355328) (hR : Reads w w.heap.size 1 A n (bv l)) :
    Calls Try.prog 50 #[.slice A n c] w (OPost l n w) := by
  obtain ⟨i0, hi, hz0, hz1, hz2⟩ := info_parts infoU8
  go_enter Try.func50, Try.ntmps50
  go_wp2_with (at_builtin; refine wpList_append_any _ rfl (.const (.slice none 0 0)) (.tmp 3) _ rfl w.heap.size 5 i0 _ 1 1 Try.underlying47 hi hz0 hz1 hz2 rfl (by omega) _ 0 [] rfl (World.ownsRow_nil _ _ _ _) w.heap.size A n c _ rfl hR (bv_one l) ?c1 ?c2 ?c3 ?_; rotate_left 3; intro v1 w1 hown1 hg1 hat1; obtain ⟨A1, k1, rfl⟩ := own_slice hown1)
  case c1 => unfold maxLen; omega
  case c2 => omega
  case c3 => omega
  go_ret
  rw [Nat.zero_add, List.nil_append] at *
  have hs := hg1.size
  have ho := hown1.alloc (.cells #[.slice A1 n k1, .int .i64 0] 126)
  refine ⟨w1.heap.size, A1, k1, rfl, hs, Blk.new w1 _ _, ((Reads.of_own hown1).alloc (Nat.le_refl _) _), ho, ?_⟩
  have hb : Below w.heap.size w w1 := ⟨hg1.os, hg1.tape, hg1.output, hg1.size, fun i hi => hg1.block i hi (fun e => by simp [Act.eval, Value.ownBlock] at e)⟩
  exact hb.alloc hs _
end Go.Proofs.Ytioocaicmiggoaa

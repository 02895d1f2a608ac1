/-
  The walks of the reader's Int, Upto, Left, Open, and of a reader that isn't there.
-/
import Derived.Test.YtioocaicmiggoaaRead
namespace Go.Proofs.Ytioocaicmiggoaa
set_option linter.unusedVariables false
set_option linter.unusedSimpArgs false
open Go.RowKit

theorem i64_xor_zero (a : Nat) (ha : a < 9223372036854775808) : bits .xor .i64 (a : Int) 0 = (a : Int) := by
  show IntKind.i64.wrap ((BitVec.ofInt 64 (a : Int) ^^^ BitVec.ofInt 64 0).toNat : Int) = _
  have e : (BitVec.ofInt 64 (a : Int)).toNat = a := by rw [BitVec.ofInt_natCast, BitVec.toNat_ofNat]; exact Nat.mod_eq_of_lt (by omega)
  have z : (BitVec.ofInt 64 0) = 0#64 := by decide
  rw [z, BitVec.xor_zero, e, IntKind.wrap_i64]
  omega
theorem i64_xor_neg (a : Nat) (ha : a < 9223372036854775808) : bits .xor .i64 (a : Int) (-1) = -(a : Int) - 1 := by
  show IntKind.i64.wrap ((BitVec.ofInt 64 (a : Int) ^^^ BitVec.ofInt 64 (-1)).toNat : Int) = _
  have e : (BitVec.ofInt 64 (a : Int)).toNat = a := by rw [BitVec.ofInt_natCast, BitVec.toNat_ofNat]; exact Nat.mod_eq_of_lt (by omega)
  have z : (BitVec.ofInt 64 (-1)) = BitVec.allOnes 64 := by decide
  rw [z, BitVec.xor_allOnes, BitVec.toNat_not, e, IntKind.wrap_i64]
  omega
theorem u64_and_one (a : Nat) (ha : a < 18446744073709551616) : bits .and .u64 (a : Int) 1 = ((a % 2 : Nat) : Int) := by
  show IntKind.u64.wrap ((BitVec.ofInt 64 (a : Int) &&& BitVec.ofInt 64 1).toNat : Int) = _
  have e : (BitVec.ofInt 64 (a : Int)).toNat = a := by rw [BitVec.ofInt_natCast, BitVec.toNat_ofNat]; exact Nat.mod_eq_of_lt (by omega)
  have z : (BitVec.ofInt 64 1).toNat = 1 := by decide
  rw [BitVec.toNat_and, e, z, Nat.and_one_is_mod, IntKind.wrap_u64]
  omega

theorem fstV_lt (l : List UInt8) : fstV l < 18446744073709551616 := by
  rcases hd : dec l with _ | ⟨v, k⟩
  · rw [(fst_none hd).1]; decide
  · rw [(fst_some hd).1]; exact (dec_take hd).2.2.2
theorem fstK_le (l : List UInt8) : fstK l ≤ l.length := by
  rcases hd : dec l with _ | ⟨v, k⟩
  · rw [(fst_none hd).2]; omega
  · rw [(fst_some hd).2]; exact (dec_take hd).1
theorem fst_zero (l : List UInt8) (h : ¬ 0 < fstK l) : fstV l = 0 := by
  rcases hd : dec l with _ | ⟨v, k⟩
  · exact (fst_none hd).1
  · have := dec_pos hd; rw [(fst_some hd).2] at h; omega

set_option maxRecDepth 100000 in
theorem runint_nil (w : World) : Calls Try.prog 102 #[.pointer none] w fun e w' => e = .returned (.tuple #[.int .u64 0, .bool false]) ∧ w.grownBy w' none := by
  have c0 := fun o o2 => (Blk.cell ((Blk.new w 106 #[.pointer none]).alloc o |>.alloc o2) 0)
  simp only [List.getElem?_toArray, List.getElem?_cons_zero] at c0
  have hG := only_alloc (only_alloc (only_alloc (World.grownBy.refl w none) (.cells #[.pointer none] 106)) (.cells #[.int .u64 0] 86)) (.cells #[.bool false] 4)
  have HG := Lib.hid hG
  clear hG
  go_enter_defers Try.func102, Try.ntmps102
  go_wp2_with fail
  have k2 := Blk.cell (Blk.new ((w.alloc (.cells #[.pointer none] 106)).alloc (.cells #[.int .u64 0] 86)) 4 #[.bool false]) 0
  have k1 := Blk.cell ((Blk.new (w.alloc (.cells #[.pointer none] 106)) 86 #[.int .u64 0]).alloc (.cells #[.bool false] 4)) 0
  simp only [World.size_alloc, List.getElem?_toArray, List.getElem?_cons_zero] at k1 k2
  generalize ((w.alloc (Obj.cells #[Value.pointer none] 106)).alloc (Obj.cells #[Value.int IntKind.u64 0] 86)).alloc (Obj.cells #[Value.bool false] 4) = X at k1 k2 HG ⊢
  simp [bodyPostD, Leaves, settle, results, Try.results102, go_sem, k1, k2]
  exact HG.out

def IPost (l : List UInt8) (p R : Nat) (A : Option Addr) (n c : Nat) (w : World) (e : Ending) (w' : World) : Prop :=
  e = .returned (.tuple #[.int .i64 (zag (fstV (l.drop p))), .bool (decide (0 < fstK (l.drop p)))]) ∧ w.grownBy w' (some R) ∧ Rdr w' R A n c (p + fstK (l.drop p))

set_option maxRecDepth 100000 in
theorem rint_meth (A : Option Addr) (n c p R : Nat) (l : List UInt8) (w : World) (hn : l.length = n) (hp : p ≤ n) (hm : n ≤ 9223372036854775807) (hr : Rdr w R A n c p) (hR : Reads w R 1 A n (bv l)) :
    Calls Try.prog 103 #[.pointer (some ⟨R, 0, none⟩)] w (IPost l p R A n c w) := by
  have C := Lib.hid (runint_any A n c p R l w hn hp hm hr hR)
  clear hn hp hm hr hR
  have hv := fstV_lt (l.drop p)
  unfold UPost at C
  unfold IPost
  generalize decide (0 < fstK (l.drop p)) = D at C ⊢
  generalize fstK (l.drop p) = K at C ⊢
  generalize fstV (l.drop p) = V at C hv ⊢
  have t1 := u64_and_one V hv
  obtain ⟨q, hq⟩ : ∃ q, V / 2 = q := ⟨_, rfl⟩
  have hq2 : q < 9223372036854775808 := by omega
  have hqi : (V : Int) / 2 = q := by omega
  have x1 := i64_xor_zero q hq2
  have x2 := i64_xor_neg q hq2
  rcases Nat.mod_two_eq_zero_or_one V with hb | hb
  · have hz : zag V = q := by unfold zag; rw [if_neg (by omega), hq]
    rw [hb] at t1
    have t2 : bits BinOp.and IntKind.u64 (V : Int) 1 = 0 := t1
    rw [hz]
    clear t1 hz hb hq x2
    go_enter Try.func103, Try.ntmps103
    go_wp2_with fail
    refine C.out.mono ?_
    rintro e w' ⟨rfl, hg, hr⟩
    go_wp2_with fail

    go_ret2
    exact ⟨rfl, hg, hr⟩
  · have hz : zag V = -(q : Int) - 1 := by unfold zag; rw [if_pos (by omega), hq]
    rw [hb] at t1
    have t2 : bits BinOp.and IntKind.u64 (V : Int) 1 = 1 := t1
    rw [hz]
    clear t1 hz hb hq x1
    go_enter Try.func103, Try.ntmps103
    go_wp2_with fail
    refine C.out.mono ?_
    rintro e w' ⟨rfl, hg, hr⟩
    go_wp2_with fail
    go_ret2
    exact ⟨rfl, hg, hr⟩

set_option maxRecDepth 100000 in
theorem left_any (A : Option Addr) (n c p R : Nat) (w : World) (hp : p ≤ n) (hm : n ≤ 9223372036854775807) (hr : Rdr w R A n c p) :
    Calls Try.prog 52 #[.pointer (some ⟨R, 0, none⟩)] w fun e w' => e = .returned (.int .i64 ((n - p : Nat) : Int)) ∧ ∃ m, w' = w.drewN m := by
  have c0 := hr.c0
  have c1 := hr.c1
  have e : (n : Int) - p = ((n - p : Nat) : Int) := by omega
  have e2 : IntKind.i64.wrap ((n : Int) - p) = ((n - p : Nat) : Int) := by rw [IntKind.wrap_i64]; omega
  clear hr
  go_enter Try.func52, Try.ntmps52
  go_wp2_with fail
  go_quiet (fail)
  go_wp2_with fail
  go_ret
  exact ⟨rfl, nq, rfl⟩
theorem left_nil (w : World) : Calls Try.prog 52 #[.pointer none] w fun e w' => e = .returned (.int .i64 0) ∧ w = w' := by
  go_enter Try.func52, Try.ntmps52
  go_wp2_with fail
  go_ret
  exact ⟨rfl, rfl⟩
end Go.Proofs.Ytioocaicmiggoaa

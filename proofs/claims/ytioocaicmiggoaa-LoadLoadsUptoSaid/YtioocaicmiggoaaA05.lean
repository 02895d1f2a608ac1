/- More, Open, Bytes, Txs, Cnv, Lty, Twq: texts merged for a claim by a program of mine. -/
import Derived.Test.YtioocaicmiggoaaA04
import Derived.Test.YtioocaicmiggoaaA01
import Derived.Deep.RegionWith
import Derived.Deep.DeepCutAuto
import Derived.Test.YtioocaicmiggoaaA02
namespace Go.Proofs.Ytioocaicmiggoaa
set_option linter.unusedVariables false
set_option linter.unusedSimpArgs false
open Go.RowKit
theorem i64_xor_zero (a : Nat) (ha : a < 9223372036854775808) : bits .xor .i64 (a : Int) 0 = (a : Int) := by
 show IntKind.i64.wrap ((BitVec.ofInt 64 (a : Int) ^^^ BitVec.ofInt 64 0).toNat : Int) = _
 have e : (BitVec.ofInt 64 (a : Int)).toNat = a := by rw [BitVec.ofInt_natCast, BitVec.toNat_ofNat]; exact Nat.mod_eq_of_lt (by omega)
 have z : (BitVec.ofInt 64 0) = 0#64 := by decide
 rw [z, BitVec.xor_zero, e, IntKind.wrap_i64]
 omega
theorem i64_xor_neg (a : Nat) (ha : a < 9223372036854775808) : bits .xor .i64 (a : Int) (-1) = -(a : Int) - 1 := by
 show IntKind.i64.wrap ((BitVec.ofInt 64 (a : Int) ^^^ BitVec.ofInt 64 (-1)).toNat : Int) = _
 have e : (BitVec.ofInt 64 (a : Int)).toNat = a := by rw [BitVec.ofInt_natCast, BitVec.toNat_ofNat]; exact Nat.mod_eq_of_lt (by omega)
 have z : (BitVec.ofInt 64 (-1)) = BitVec.allOnes 64 := by decide
 rw [z, BitVec.xor_allOnes, BitVec.toNat_not, e, IntKind.wrap_i64]
 omega
theorem u64_and_one (a : Nat) (ha : a < 18446744073709551616) : bits .and .u64 (a : Int) 1 = ((a % 2 : Nat) : Int) := by
 show IntKind.u64.wrap ((BitVec.ofInt 64 (a : Int) &&& BitVec.ofInt 64 1).toNat : Int) = _
 have e : (BitVec.ofInt 64 (a : Int)).toNat = a := by rw [BitVec.ofInt_natCast, BitVec.toNat_ofNat]; exact Nat.mod_eq_of_lt (by omega)
 have z : (BitVec.ofInt 64 1).toNat = 1 := by decide
 rw [BitVec.toNat_and, e, z, Nat.and_one_is_mod, IntKind.wrap_u64]
 omega
theorem fstV_lt (l : List UInt8) : fstV l < 18446744073709551616 := by
 rcases hd : dec l with _ | ⟨v, k⟩
 ·rw [(fst_none hd).1]; decide
 ·rw [(fst_some hd).1]; exact (dec_take hd).2.2.2
def IPost (l : List UInt8) (p R : Nat) (A : Option Addr) (n c : Nat) (w : World) (e : Ending) (w' : World) : Prop :=
 e = .returned (.tuple #[.int .i64 (zag (fstV (l.drop p))), .bool (decide (0 < fstK (l.drop p)))]) ∧ w.grownBy w' (some R) ∧ Rdr w' R A n c (p + fstK (l.drop p))
set_option maxRecDepth 100000 in
theorem rint_meth (A : Option Addr) (n c p R : Nat) (l : List UInt8) (w : World) (hn : l.length = n) (hp : p ≤ n) (hm : n ≤ 9223372036854775807) (hr : Rdr w R A n c p) (hR : Reads w R 1 A n (bv l)) :
  Calls Try.prog 103 #[.pointer (some ⟨R, 0, none⟩)] w (IPost l p R A n c w) := by
 have C := Lib.hid (runint_any A n c p R l w hn hp hm hr hR)
 clear hn hp hm hr hR
 have hv := fstV_lt (l.drop p)
 unfold UPost at C
 unfold IPost
 generalize decide (0 < fstK (l.drop p)) = D at C ⊢
 generalize fstK (l.drop p) = K at C ⊢
 generalize fstV (l.drop p) = V at C hv ⊢
 have t1 := u64_and_one V hv
 obtain ⟨q, hq⟩ : ∃ q, V / 2 = q := ⟨_, rfl⟩
 have hq2 : q < 9223372036854775808 := by omega
 have hqi : (V : Int) / 2 = q := by omega
 have x1 := i64_xor_zero q hq2
 have x2 := i64_xor_neg q hq2
 rcases Nat.mod_two_eq_zero_or_one V with hb | hb
 ·have hz : zag V = q := by unfold zag; rw [if_neg (by omega), hq]
  rw [hb] at t1
  have t2 : bits BinOp.and IntKind.u64 (V : Int) 1 = 0 := t1
  rw [hz]
  clear t1 hz hb hq x2
  go_enter Try.func103, Try.ntmps103
  go_wp2_with fail
  refine C.out.mono ?_
  rintro e w' ⟨rfl, hg, hr⟩
  go_wp2_with fail
  go_ret2
  exact ⟨rfl, hg, hr⟩
 ·have hz : zag V = -(q : Int) - 1 := by unfold zag; rw [if_pos (by omega), hq]
  rw [hb] at t1
  have t2 : bits BinOp.and IntKind.u64 (V : Int) 1 = 1 := t1
  rw [hz]
  clear t1 hz hb hq x1
  go_enter Try.func103, Try.ntmps103
  go_wp2_with fail
  refine C.out.mono ?_
  rintro e w' ⟨rfl, hg, hr⟩
  go_wp2_with fail
  go_ret2
  exact ⟨rfl, hg, hr⟩
set_option maxRecDepth 100000 in
theorem left_any (A : Option Addr) (n c p R : Nat) (w : World) (hp : p ≤ n) (hm : n ≤ 9223372036854775807) (hr : Rdr w R A n c p) :
  Calls Try.prog 52 #[.pointer (some ⟨R, 0, none⟩)] w fun e w' => e = .returned (.int .i64 ((n - p : Nat) : Int)) ∧ ∃ m, w' = w.drewN m := by
 have c0 := hr.c0
 have c1 := hr.c1
 have e : (n : Int) - p = ((n - p : Nat) : Int) := by omega
 have e2 : IntKind.i64.wrap ((n : Int) - p) = ((n - p : Nat) : Int) := by rw [IntKind.wrap_i64]; omega
 clear hr
 go_enter Try.func52, Try.ntmps52
 go_wp2_with fail
 go_quiet (fail)
 go_wp2_with fail
 go_ret
 exact ⟨rfl, nq, rfl⟩
end Go.Proofs.Ytioocaicmiggoaa
namespace Go.Proofs.Ytioocaicmiggoaa
set_option linter.unusedVariables false
set_option linter.unusedSimpArgs false
open Go.RowKit
def upOk (l : List UInt8) (a b : Int) : Prop := 0 < fstK l ∧ a ≤ zag (fstV l) ∧ zag (fstV l) ≤ b
instance (l : List UInt8) (a b : Int) : Decidable (upOk l a b) := by unfold upOk; infer_instance
def upV (l : List UInt8) (a b : Int) : Int := if upOk l a b then zag (fstV l) else 0
def upK (l : List UInt8) (a b : Int) : Nat := if upOk l a b then fstK l else 0
def UpPost (l : List UInt8) (a b : Int) (p R : Nat) (A : Option Addr) (n c : Nat) (w : World) (e : Ending) (w' : World) : Prop :=
 e = .returned (.tuple #[.int .i64 (upV (l.drop p) a b), .bool (decide (upOk (l.drop p) a b))]) ∧ w.grownBy w' (some R) ∧ Rdr w' R A n c (p + upK (l.drop p) a b)
set_option maxRecDepth 100000 in
theorem upto_any (a b : Int) (A : Option Addr) (n c p R : Nat) (l : List UInt8) (w : World) (hn : l.length = n) (hp : p ≤ n) (hm : n ≤ 9223372036854775807) (hr : Rdr w R A n c p) (hR : Reads w R 1 A n (bv l)) :
  Calls Try.prog 97 #[.pointer (some ⟨R, 0, none⟩), .int .i64 a, .int .i64 b] w (UpPost l a b p R A n c w) := by
 have C := Lib.hid (rint_meth A n c p R l w hn hp hm hr hR)
 have c1 := hr.c1
 clear hn hp hm hr hR
 unfold IPost at C
 unfold UpPost upV upK
 obtain ⟨K, hK⟩ : ∃ K, fstK (l.drop p) = K := ⟨_, rfl⟩
 obtain ⟨V, hV⟩ : ∃ V, zag (fstV (l.drop p)) = V := ⟨_, rfl⟩
 have hup : upOk (l.drop p) a b = (0 < K ∧ a ≤ V ∧ V ≤ b) := by unfold upOk; rw [hK, hV]
 rw [hK, hV] at C ⊢
 by_cases h0 : 0 < K
 ·rw [decide_eq_true h0] at C
  by_cases h1 : V < a
  ·have hno : ¬ upOk (l.drop p) a b := by rw [hup]; omega
   rw [if_neg hno, if_neg hno, decide_eq_false hno]
   clear hno hup hK hV
   go_enter Try.func97, Try.ntmps97
   go_wp2_with fail
   refine C.out.mono ?_
   rintro e w' ⟨rfl, hg, hr⟩
   have d1 := hr.c1
   have f1 := hr.fr 1
   have HP := Lib.hid (And.intro (only_setCell (p := ⟨R, 1, none⟩) hg (.inl rfl) (.int .i64 p)) (Rdr.set hr p _ rfl))
   clear hr hg
   go_wp2_with fail
   go_ret2
   exact ⟨rfl, HP.out⟩
  ·by_cases h2 : b < V
   ·have hno : ¬ upOk (l.drop p) a b := by rw [hup]; omega
    rw [if_neg hno, if_neg hno, decide_eq_false hno]
    clear hno hup hK hV
    go_enter Try.func97, Try.ntmps97
    go_wp2_with fail
    refine C.out.mono ?_
    rintro e w' ⟨rfl, hg, hr⟩
    have d1 := hr.c1
    have f1 := hr.fr 1
    have HP := Lib.hid (And.intro (only_setCell (p := ⟨R, 1, none⟩) hg (.inl rfl) (.int .i64 p)) (Rdr.set hr p _ rfl))
    clear hr hg
    go_wp2_with fail
    go_ret2
    exact ⟨rfl, HP.out⟩
   ·have hno : upOk (l.drop p) a b := by rw [hup]; omega
    rw [if_pos hno, if_pos hno, decide_eq_true hno]
    clear hno hup hK hV
    go_enter Try.func97, Try.ntmps97
    go_wp2_with fail
    refine C.out.mono ?_
    rintro e w' ⟨rfl, hg, hr⟩
    have HP := Lib.hid (And.intro hg hr)
    clear hr hg
    go_wp2_with fail
    go_ret2
    exact ⟨rfl, HP.out⟩
 ·have hno : ¬ upOk (l.drop p) a b := by rw [hup]; omega
  rw [decide_eq_false h0] at C
  rw [if_neg hno, if_neg hno, decide_eq_false hno]
  clear hno hup hK hV
  go_enter Try.func97, Try.ntmps97
  go_wp2_with fail
  refine C.out.mono ?_
  rintro e w' ⟨rfl, hg, hr⟩
  have d1 := hr.c1
  have f1 := hr.fr 1
  have HP := Lib.hid (And.intro (only_setCell (p := ⟨R, 1, none⟩) hg (.inl rfl) (.int .i64 p)) (Rdr.set hr p _ rfl))
  clear hr hg
  go_wp2_with fail
  go_ret2
  exact ⟨rfl, HP.out⟩
def OPost (l : List UInt8) (n : Nat) (w : World) (e : Ending) (w' : World) : Prop :=
 ∃ R A c, e = .returned (.pointer (some ⟨R, 0, none⟩)) ∧ w.heap.size ≤ R ∧ Rdr w' R A n c 0 ∧ Reads w' R 1 A n (bv l) ∧ w'.ownsRow w.heap.size 5 1 (.slice A n c) n (bv l) ∧ Below w.heap.size w w'
set_option maxRecDepth 100000 in
theorem open_any (A : Option Addr) (n c : Nat) (l : List UInt8) (w : World) (hn : l.length = n) (hm : n ≤ 140737488355328) (hR : Reads w w.heap.size 1 A n (bv l)) :
  Calls Try.prog 50 #[.slice A n c] w (OPost l n w) := by
 obtain ⟨i0, hi, hz0, hz1, hz2⟩ := info_parts infoU8
 go_enter Try.func50, Try.ntmps50
 go_wp2_with (at_builtin; refine wpList_append_any _ rfl (.const (.slice none 0 0)) (.tmp 3) _ rfl w.heap.size 5 i0 _ 1 1 Try.underlying47 hi hz0 hz1 hz2 rfl (by omega) _ 0 [] rfl (World.ownsRow_nil _ _ _ _) w.heap.size A n c _ rfl hR (bv_one l) ?c1 ?c2 ?c3 ?_; rotate_left 3; intro v1 w1 hown1 hg1 hat1; obtain ⟨A1, k1, rfl⟩ := own_slice hown1)
 case c1 => unfold maxLen; omega
 case c2 => omega
 case c3 => omega
 go_ret
 rw [Nat.zero_add, List.nil_append] at *
 have hs := hg1.size
 have ho := hown1.alloc (.cells #[.slice A1 n k1, .int .i64 0] 126)
 refine ⟨w1.heap.size, A1, k1, rfl, hs, Blk.new w1 _ _, ((Reads.of_own hown1).alloc (Nat.le_refl _) _), ho, ?_⟩
 have hb : Below w.heap.size w w1 := ⟨hg1.os, hg1.tape, hg1.output, hg1.size, fun i hi => hg1.block i hi (fun e => by simp [Act.eval, Value.ownBlock] at e)⟩
 exact hb.alloc hs _
end Go.Proofs.Ytioocaicmiggoaa
namespace Go.Proofs.Ytioocaicmiggoaa
set_option linter.unusedVariables false
open Go.RowKit
theorem bytes_of (z : List Int) (h : ∀ x ∈ z, (Lit.int .u8 x).wf = true) : z.map (Value.int .u8) = bv (z.map fun x => x.toNat.toUInt8) := by
 unfold bv
 rw [List.map_map]
 apply List.map_congr_left
 intro x hx
 have h1 := h x hx
 have h2 : 0 ≤ x ∧ x ≤ 255 := by
  simp [Lit.wf] at h1
  exact h1
 show Value.int .u8 x = Value.int .u8 ((x.toNat.toUInt8).toNat : Int)
 rw [toU8 _ (by omega)]
 congr 1; omega
theorem InRow.bytes {w : World} {A : Option Addr} {n c : Nat} {z : List Int} (h : InRow .u8 1 w A n c z) :
  ∃ l : List UInt8, l.length = n ∧ n ≤ c ∧ c ≤ 140737488351232 ∧ Reads w w.heap.size 1 A n (bv l) :=
 ⟨z.map fun x => x.toNat.toUInt8, by simp [h.num], h.len, by have := h.reach; omega, by rw [← bytes_of z h.wf]; exact h.reads⟩
end Go.Proofs.Ytioocaicmiggoaa
namespace Go.Proofs.Ytioocaicmiggoaa
set_option linter.unusedVariables false
open Go.RowKit
theorem own_cells {w : World} {base : Nat} {e : TypeId} {s n g cap : Nat} {xs : List Value} (h : w.ownsRow base e s (.slice (some ⟨g, 0, none⟩) n cap) n xs) : ∀ j u, xs[j]? = some u → w.cell? ⟨g, j, none⟩ = some u := by
 intro j u hu
 have h2 := h.cells (g := g) rfl j u hu
 unfold Addr.add at h2
 by_cases hj : j = 0
 ·subst hj; simpa using h2
 ·simpa [hj] using h2
theorem below_of_grown {a b : World} (h : a.grownBy b none) : Below a.heap.size a b := ⟨h.os, h.tape, h.output, h.size, fun i hi => h.block i hi (fun e => by cases e)⟩
theorem bd_u64 {a : Int} (h : (Lit.int .u64 a).wf = true) : 0 ≤ a ∧ a ≤ 18446744073709551615 := by
 simpa [Lit.wf, IntKind.min, IntKind.max, IntKind.bits, IntKind.signed] using h
theorem bd_i64 {a : Int} (h : (Lit.int .i64 a).wf = true) : -9223372036854775808 ≤ a ∧ a ≤ 9223372036854775807 := by
 simpa [Lit.wf, IntKind.min, IntKind.max, IntKind.bits, IntKind.signed] using h
def Kept (w : World) (g : Nat) (l : List UInt8) : Prop := g < w.heap.size ∧ ∀ j u, (bv l)[j]? = some u → w.cell? ⟨g, j, none⟩ = some u
theorem Kept.grown {w w' : World} {g : Nat} {l : List UInt8} {row : Option Nat} (h : Kept w g l) (hg : w.grownBy w' row) (hr : some g ≠ row) : Kept w' g l :=
 ⟨Nat.lt_of_lt_of_le h.1 hg.size, fun j u hu => (World.cell?_of_block (hg.block g h.1 hr)).trans (h.2 j u hu)⟩
theorem Kept.below {w w' : World} {g : Nat} {l : List UInt8} (h : Kept w g l) (hb : Below w.heap.size w w') : Kept w' g l := h.grown (only_of_below hb none) (by simp)
theorem Kept.of_own {w : World} {base g n cap : Nat} {l : List UInt8} (h : w.ownsRow base 5 1 (.slice (some ⟨g, 0, none⟩) n cap) n (bv l)) (hn : 0 < n) : Kept w g l := by
 refine ⟨?_, own_cells h⟩
 obtain ⟨g', cap', hv, _, hl, _⟩ := own_shape h hn
 injection hv with h1
 injection h1 with h1
 injection h1 with h1
 subst h1; exact hl
theorem Kept.text {w : World} {g n cap : Nat} {l : List UInt8} (h : Kept w g l) (hn : l.length = n) :
  (convert 47 9 (.slice (some ⟨g, 0, none⟩) n cap)).run Try.prog w = .ok (.string ⟨l.toArray⟩) w :=
 own_text (P := Try.prog) (src := 47) (dst := 9) l Try.underlying47 Try.underlying5 Try.underlying9 h.2 hn
theorem Kept.reads {w : World} {g n : Nat} {l : List UInt8} (h : Kept w g l) (hn : l.length = n) : Reads w w.heap.size 1 (some ⟨g, 0, none⟩) n (bv l) :=
 ⟨by rw [bv_len]; omega, fun _ => ⟨_, rfl, h.1, fun j u hu => by rw [Go.WideShapes.add_plain, Nat.zero_add]; exact h.2 j u hu⟩⟩
end Go.Proofs.Ytioocaicmiggoaa
namespace Go.Proofs.Ytioocaicmiggoaa
set_option linter.unusedVariables false
open Go.RowKit
theorem reads_text {w : World} {B n cap : Nat} {A : Option Addr} {l : List UInt8} (h : Reads w B 1 A n (bv l)) (hn : l.length = n) :
  (convert 47 9 (.slice A n cap)).run Try.prog w = .ok (.string ⟨l.toArray⟩) w := by
 subst hn
 rcases A with _ | a
 ·have h0 : l.length = 0 := by
   rcases Nat.eq_zero_or_pos l.length with h0 | h0
   ·exact h0
   ·obtain ⟨ad, e, _⟩ := h.2 h0
    cases e
  obtain rfl : l = [] := List.eq_nil_of_length_eq_zero h0
  rw [run_convert_bytes_string w _ _ _ none _ _ Try.underlying47 Try.underlying5 Try.underlying9]
  rfl
 ·refine run_convert_bytes_back w _ _ _ a cap l Try.underlying47 Try.underlying5 Try.underlying9 (fun j hj => ?_)
  obtain ⟨ad, e, _, hc⟩ := h.2 (by omega)
  injection e with e
  subst e
  exact hc j _ (bv_get l j hj)
theorem Reads.take {w : World} {B n : Nat} {A : Option Addr} {l : List UInt8} (h : Reads w B 1 A n (bv l)) (hn : l.length = n) (m : Nat) (hm : m ≤ n) : Reads w B 1 A m (bv (l.take m)) := by
 refine ⟨by rw [bv_len, List.length_take]; omega, fun h0 => ?_⟩
 obtain ⟨ad, e, hb, hc⟩ := h.2 (by omega)
 refine ⟨ad, e, hb, fun j u hu => hc j u ?_⟩
 unfold bv at hu ⊢
 rw [List.getElem?_map, List.getElem?_take] at hu
 rw [List.getElem?_map]
 by_cases hj : j < m
 ·rwa [if_pos hj] at hu
 ·rw [if_neg hj] at hu; cases hu
theorem bv_drop (l : List UInt8) (k : Nat) : (bv l).drop k = bv (l.drop k) := by unfold bv; rw [List.map_drop]
theorem upto_yes (a b : Int) (A : Option Addr) (n c p R : Nat) (l : List UInt8) (w : World) (hn : l.length = n) (hp : p ≤ n) (hm : n ≤ 9223372036854775807) (hr : Rdr w R A n c p) (hR : Reads w R 1 A n (bv l)) (h : 0 < fstK (l.drop p) ∧ a ≤ zag (fstV (l.drop p)) ∧ zag (fstV (l.drop p)) ≤ b) :
  Calls Try.prog 97 #[.pointer (some ⟨R, 0, none⟩), .int .i64 a, .int .i64 b] w fun e w' => e = .returned (.tuple #[.int .i64 (zag (fstV (l.drop p))), .bool true]) ∧ w.grownBy w' (some R) ∧ Rdr w' R A n c (p + fstK (l.drop p)) :=
 (upto_any a b A n c p R l w hn hp hm hr hR).mono fun e w' ⟨he, hg, hr⟩ => by
  have hu : upOk (l.drop p) a b := h
  unfold upV at he
  unfold upK at hr
  rw [if_pos hu, decide_eq_true hu] at he
  rw [if_pos hu] at hr
  exact ⟨he, hg, hr⟩
theorem upto_no (a b : Int) (A : Option Addr) (n c p R : Nat) (l : List UInt8) (w : World) (hn : l.length = n) (hp : p ≤ n) (hm : n ≤ 9223372036854775807) (hr : Rdr w R A n c p) (hR : Reads w R 1 A n (bv l)) (h : ¬ (0 < fstK (l.drop p) ∧ a ≤ zag (fstV (l.drop p)) ∧ zag (fstV (l.drop p)) ≤ b)) :
  Calls Try.prog 97 #[.pointer (some ⟨R, 0, none⟩), .int .i64 a, .int .i64 b] w fun e w' => e = .returned (.tuple #[.int .i64 0, .bool false]) ∧ w.grownBy w' (some R) ∧ Rdr w' R A n c (p + 0) :=
 (upto_any a b A n c p R l w hn hp hm hr hR).mono fun e w' ⟨he, hg, hr⟩ => by
  have hu : ¬ upOk (l.drop p) a b := h
  unfold upV at he
  unfold upK at hr
  rw [if_neg hu, decide_eq_false hu] at he
  rw [if_neg hu] at hr
  exact ⟨he, hg, hr⟩
end Go.Proofs.Ytioocaicmiggoaa
namespace Go.Proofs.Ytioocaicmiggoaa
set_option linter.unusedVariables false
set_option linter.unusedSimpArgs false
open Go.RowKit Go.Deep
def typedT (T : TTab) (k : Int) : Bool := decide (0 ≤ k) && decide (k < (T.kinds.length : Int))
def stopsT (T : TTab) (l : List TStop) : Bool := l.all fun b => typedT T b.ty
def BoolP (w : World) (b : Bool) (e : Ending) (w' : World) : Prop := e = .returned (.bool b) ∧ Below w.heap.size w w'
theorem stops_get {w : World} {v : Value} {l : List TStop} (h : SlR 2 StopC w v l) {i : Nat} {x : TStop} (hx : l[i]? = some x) :
  ∃ b off c, v = .slice (some ⟨b, off, none⟩) l.length c ∧ l.length ≤ c ∧ c ≤ maxLen ∧ w.cell? ⟨b, off + i * 2, none⟩ = some (.int .i64 x.ty) ∧ w.cell? ⟨b, off + i * 2 + 1, none⟩ = some (.int .i64 x.gd) ∧ wfi x.ty ∧ wfi x.gd := by
 obtain ⟨b, off, c, hv, h1, h2, hi, cs, hl, ⟨rfl, hw⟩, hc⟩ := h.get hx
 exact ⟨b, off, c, hv, h1, h2, hc 0 _ rfl, hc 1 _ rfl, hw⟩
theorem typed_any (T : TTab) (vk vkk vs vc : Value) (w : World) (h : TabX w T vk vkk vs vc) (k : Int) :
  Calls Try.prog 39 #[.agg #[.int .i64 T.strategy, vk, vkk, .int .i64 T.syms, .int .i64 T.runs, .int .i64 T.cells, vs, vc], .int .i64 k] w (BoolP w (typedT T k)) := by
 obtain ⟨A3, c3, rfl, hc5, hc6⟩ := h.kinds.slice
 have B0 := Lib.hid (fun o => (Below.refl w.heap.size w).alloc (Nat.le_refl _) o)
 unfold maxLen at hc6
 clear h
 unfold typedT
 by_cases h0 : 0 ≤ k
 ·by_cases h1 : k < (T.kinds.length : Int)
  ·rw [decide_eq_true h0, decide_eq_true h1]
   go_enter Try.func39, Try.ntmps39
   go_wp2_with fail
   go_ret
   exact ⟨rfl, B0.out _⟩
  ·rw [decide_eq_true h0, decide_eq_false h1]
   have h2 : (T.kinds.length : Int) ≤ k := by omega
   go_enter Try.func39, Try.ntmps39
   go_wp2_with fail
   go_ret
   exact ⟨rfl, B0.out _⟩
 ·rw [decide_eq_false h0]
  have h2 : k < 0 := by omega
  go_enter Try.func39, Try.ntmps39
  go_wp2_with fail
  go_ret
  exact ⟨rfl, B0.out _⟩
set_option maxRecDepth 100000 in
theorem stops_any (T : TTab) (vk vkk vs vc : Value) (w : World) (h : TabX w T vk vkk vs vc) (v : Value) (l : List TStop) (hl : SlR 2 StopC w v l) :
  Calls Try.prog 40 #[.agg #[.int .i64 T.strategy, vk, vkk, .int .i64 T.syms, .int .i64 T.runs, .int .i64 T.cells, vs, vc], v] w (BoolP w (stopsT T l)) := by
 obtain ⟨A, c, rfl, hc1, hc2⟩ := hl.slice
 have HX := Lib.hid (fun W (hb : Below w.heap.size w W) => h.below hb)
 have HL := Lib.hid (fun W (hb : Below w.heap.size w W) => keep_stops (KeepC.of_below hb) hl)
 have B0 := Lib.hid (fun o => (Below.refl w.heap.size w).alloc (Nat.le_refl _) o)
 have BX := Lib.hid (Blk.new w 27 #[.int .i64 T.strategy, vk, vkk, .int .i64 T.syms, .int .i64 T.runs, .int .i64 T.cells, vs, vc])
 unfold maxLen at hc2
 have hnn : (0 : Int) ≤ (l.length : Int) := by omega
 clear h hl
 go_enter Try.func40, Try.ntmps40
 go_wp2_with fail
 go_loopw [9] (fun i wr => ∃ r : Nat, r ≤ l.length ∧ i = .int .i64 r ∧ Hid (stopsT T (l.take r) = true) ∧ Below (w.heap.size + 1) (w.alloc (.cells #[.int .i64 T.strategy, vk, vkk, .int .i64 T.syms, .int .i64 T.runs, .int .i64 T.cells, vs, vc] 27)) wr) (fun i _ => l.length - (intOf i).toNat)
 case atStart => exact ⟨0, Nat.zero_le _, rfl, Lib.hid (by simp [stopsT]), Below.refl _ _⟩
 case round =>
  obtain ⟨r, hr, rfl, hso, hb⟩ := hrel
  have hb0 := Lib.hid ((B0.out _).trans (hb.mono (by omega)))
  have hwr : w.heap.size + 1 ≤ wr.heap.size := by have := hb.size; simpa using this
  have hwr2 : w.heap.size < wr.heap.size := hwr
  by_cases hlt : r < l.length
  ·obtain ⟨y, hy⟩ : ∃ y, l[r]? = some y := ⟨_, List.getElem?_eq_getElem hlt⟩
   obtain ⟨b, off, c5, hv, _, _, q0, q1, _⟩ := stops_get (HL.out wr hb0.out) hy
   injection hv with hv1 hv2 hv3
   subst hv1
   have b1 : (0 : Int) ≤ (r : Int) := by omega
   have b2 : (r : Int) < (l.length : Int) := by omega
   have BK := BX.out.below hb (by omega)
   have k0 := BK.cell 0
   have k1 := BK.cell 1
   have k2 := BK.cell 2
   have k3 := BK.cell 3
   have k4 := BK.cell 4
   have k5 := BK.cell 5
   have k6 := BK.cell 6
   have k7 := BK.cell 7
   have HB1 := Lib.hid (fun o => hb.alloc hwr o)
   have CT := Lib.hid (fun o => typed_any T vk vkk vs vc (wr.alloc o) ((HX.out wr hb0.out).below ((Below.refl wr.heap.size wr).alloc (Nat.le_refl _) o)) y.ty)
   have HT : stopsT T (l.take (r + 1)) = typedT T y.ty := by
    have e : l[r] = y := by rw [List.getElem?_eq_getElem hlt] at hy; injection hy
    unfold stopsT at hso ⊢
    rw [List.take_succ_eq_append_getElem hlt, List.all_append, hso.out, e]
    simp
   have HF : typedT T y.ty = false → stopsT T l = false := fun hf => by
    rw [hf] at HT
    unfold stopsT at HT ⊢
    rw [List.all_eq_false] at HT ⊢
    obtain ⟨z, hz, hz2⟩ := HT
    exact ⟨z, List.mem_of_mem_take hz, hz2⟩
   obtain ⟨tb, htb⟩ : ∃ tb, typedT T y.ty = tb := ⟨_, rfl⟩
   rw [htb] at CT HT HF
   have HT := Lib.hid HT
   have HF := Lib.hid HF
   clear hv2 hv3 hy BK htb hso hb
   go_wp2_with fail
   refine (CT.out _).mono ?_
   rintro e w3 ⟨rfl, hb3⟩
   rw [World.size_alloc] at hb3
   have HB3 := Lib.hid ((HB1.out _).trans (hb3.mono (by omega)))
   clear hb3 CT k0 k1 k2 k3 k4 k5 k6 k7 q0 q1
   cases tb with
   | true =>
    go_wp2_with fail
    go_roundw
    case rel => first | exact ⟨r + 1, by omega, by go_num, HT, HB3.out⟩ | ((repeat apply Exists.intro); exact ⟨⟨r + 1, by omega, by go_num, HT, HB3.out⟩, rfl⟩)
    case measure => simp [intOf]; omega
   | false =>
    have HF2 := Lib.hid (HF.out rfl)
    clear HF HT
    go_wp2_with fail
    go_ret
    exact ⟨by rw [HF2.out]; rfl, (B0.out _).trans (HB3.out.mono (by omega))⟩
  ·have hge : (l.length : Int) ≤ (r : Int) := by omega
   have hrn : r = l.length := by omega
   have HS : stopsT T l = true := by have := hso.out; rw [hrn, List.take_length] at this; exact this
   have HS := Lib.hid HS
   clear hso hb hrn
   go_wp2_with fail
   go_ret
   exact ⟨by rw [HS.out]; rfl, hb0.out⟩
end Go.Proofs.Ytioocaicmiggoaa
namespace Go.Proofs.Ytioocaicmiggoaa
set_option linter.unusedVariables false
open Go.RowKit
def SlQ {α : Type} (Q : Nat → Prop) (F : Nat) (R : World → List Value → α → Prop) (w : World) (v : Value) (xs : List α) : Prop :=
 ∃ (A : Option Addr) (c : Nat), v = .slice A xs.length c ∧ xs.length ≤ c ∧ c ≤ maxLen ∧
  (0 < xs.length → ∃ b off, A = some ⟨b, off, none⟩ ∧ Q b ∧ ∀ (i : Nat) (x : α), xs[i]? = some x → ∃ cs : List Value, cs.length = F ∧ R w cs x ∧ ∀ (j : Nat) (u : Value), cs[j]? = some u → w.cell? ⟨b, off + i * F + j, none⟩ = some u)
def IntsQ (Q : Nat → Prop) (w : World) (cs : List Value) (l : List Int) : Prop := ∃ v, cs = [v] ∧ SlQ Q 1 IntC w v l
def TailQ (Q : Nat → Prop) (w : World) (cs : List Value) (x : TTail) : Prop := ∃ v, cs = [.int .i64 x.br, .int .i64 x.cl, v] ∧ SlQ Q 2 StopC w v x.bars ∧ wfi x.br ∧ wfi x.cl
def RowQ (Q : Nat → Prop) (w : World) (cs : List Value) (x : TRow) : Prop :=
 ∃ vb ve, cs = [.int .i64 x.par, .int .i64 x.ty, .bool x.many, .int .i64 x.win, vb, .int .i64 x.leave, .int .i64 x.guard, ve] ∧ SlQ Q 2 StopC w vb x.bars ∧ SlQ Q 3 (TailQ Q) w ve x.ends ∧ wfi x.par ∧ wfi x.ty ∧ wfi x.win ∧ wfi x.leave ∧ wfi x.guard
def CodeQ (Q : Nat → Prop) (w : World) (cs : List Value) (x : TCode) : Prop :=
 ∃ vi vc vl, cs = [.int .i64 x.regs, .int .i64 x.slots, vi, vc, vl] ∧ SlQ Q 4 InpC w vi x.inputs ∧ SlQ Q 2 ValC w vc x.consts ∧ SlQ Q 4 InsC w vl x.list ∧ wfi x.regs ∧ wfi x.slots
def KeepQ (Q : Nat → Prop) (w w' : World) : Prop := ∀ (p : Addr) (u : Value), Q p.block → w.cell? p = some u → w'.cell? p = some u
section
variable {Q Q' : Nat → Prop} {w w' : World}
theorem SlQ.keep {α : Type} {F : Nat} {R R' : World → List Value → α → Prop} {v : Value} {xs : List α} (h : SlQ Q F R w v xs) (hk : KeepQ Q w w') (hQ : ∀ b, Q b → Q' b) (hR : ∀ cs x, R w cs x → R' w' cs x) : SlQ Q' F R' w' v xs := by
 obtain ⟨A, c, hv, h1, h2, h3⟩ := h
 refine ⟨A, c, hv, h1, h2, fun hn => ?_⟩
 obtain ⟨b, off, hA, hq, hc⟩ := h3 hn
 refine ⟨b, off, hA, hQ b hq, fun i x hx => ?_⟩
 obtain ⟨cs, hl, hr, hcs⟩ := hc i x hx
 exact ⟨cs, hl, hR cs x hr, fun j u hu => hk _ _ hq (hcs j u hu)⟩
theorem IntsQ.keep {cs : List Value} {x : List Int} (h : IntsQ Q w cs x) (hk : KeepQ Q w w') (hQ : ∀ b, Q b → Q' b) : IntsQ Q' w' cs x := by
 obtain ⟨v, h1, h2⟩ := h
 exact ⟨v, h1, h2.keep hk hQ fun _ _ h => h⟩
theorem TailQ.keep {cs : List Value} {x : TTail} (h : TailQ Q w cs x) (hk : KeepQ Q w w') (hQ : ∀ b, Q b → Q' b) : TailQ Q' w' cs x := by
 obtain ⟨v, h1, h2, h3⟩ := h
 exact ⟨v, h1, h2.keep hk hQ fun _ _ h => h, h3⟩
theorem RowQ.keep {cs : List Value} {x : TRow} (h : RowQ Q w cs x) (hk : KeepQ Q w w') (hQ : ∀ b, Q b → Q' b) : RowQ Q' w' cs x := by
 obtain ⟨vb, ve, h1, h2, h3, h4⟩ := h
 exact ⟨vb, ve, h1, h2.keep hk hQ fun _ _ h => h, h3.keep hk hQ fun _ _ h => h.keep hk hQ, h4⟩
theorem CodeQ.keep {cs : List Value} {x : TCode} (h : CodeQ Q w cs x) (hk : KeepQ Q w w') (hQ : ∀ b, Q b → Q' b) : CodeQ Q' w' cs x := by
 obtain ⟨vi, vc, vl, h1, h2, h3, h4, h5⟩ := h
 exact ⟨vi, vc, vl, h1, h2.keep hk hQ fun _ _ h => h, h3.keep hk hQ fun _ _ h => h, h4.keep hk hQ fun _ _ h => h, h5⟩
theorem SlQ.out {α : Type} {F : Nat} {R R' : World → List Value → α → Prop} {v : Value} {xs : List α} (h : SlQ Q F R w v xs) (hR : ∀ cs x, R w cs x → R' w cs x) : SlR F R' w v xs := by
 obtain ⟨A, c, hv, h1, h2, h3⟩ := h
 refine ⟨A, c, hv, h1, h2, fun hn => ?_⟩
 obtain ⟨b, off, hA, hq, hc⟩ := h3 hn
 refine ⟨b, off, hA, fun i x hx => ?_⟩
 obtain ⟨cs, hl, hr, hcs⟩ := hc i x hx
 exact ⟨cs, hl, hR cs x hr, hcs⟩
theorem IntsQ.out {cs : List Value} {x : List Int} (h : IntsQ Q w cs x) : IntsC w cs x := by
 obtain ⟨v, h1, h2⟩ := h
 exact ⟨v, h1, h2.out fun _ _ h => h⟩
theorem TailQ.out {cs : List Value} {x : TTail} (h : TailQ Q w cs x) : TailC w cs x := by
 obtain ⟨v, h1, h2, h3⟩ := h
 exact ⟨v, h1, h2.out fun _ _ h => h, h3⟩
theorem RowQ.out {cs : List Value} {x : TRow} (h : RowQ Q w cs x) : RowC w cs x := by
 obtain ⟨vb, ve, h1, h2, h3, h4⟩ := h
 exact ⟨vb, ve, h1, h2.out fun _ _ h => h, h3.out fun _ _ h => h.out, h4⟩
theorem CodeQ.out {cs : List Value} {x : TCode} (h : CodeQ Q w cs x) : CodeC w cs x := by
 obtain ⟨vi, vc, vl, h1, h2, h3, h4, h5⟩ := h
 exact ⟨vi, vc, vl, h1, h2.out fun _ _ h => h, h3.out fun _ _ h => h, h4.out fun _ _ h => h, h5⟩
theorem SlQ.nil {α : Type} (F : Nat) (R : World → List Value → α → Prop) (w : World) : SlQ Q F R w (.slice none 0 0) [] := ⟨none, 0, rfl, Nat.le_refl _, by decide, fun h => absurd h (by simp)⟩
theorem KeepQ.of_below {B : Nat} (h : Below B w w') (hQ : ∀ b, Q b → b < B) : KeepQ Q w w' := fun p u hq hp => (h.cell (hQ _ hq)).trans hp
theorem KeepQ.of_grown {row : Option Nat} (h : w.grownBy w' row) (hQ : ∀ b, Q b → some b ≠ row) : KeepQ Q w w' := fun p u hq hp => (World.cell?_of_block (h.block p.block (cell_in hp) (hQ _ hq))).trans hp
theorem KeepQ.of_set {a : Addr} {v : Value} (hQ : ∀ b, Q b → b ≠ a.block) : KeepQ Q w (w.setCell a v) := fun p u hq hp => (World.cell?_setCell_other w a p v (fun e => hQ _ hq (by rw [e]))).trans hp
theorem KeepQ.trans {w'' : World} (h : KeepQ Q w w') (k : KeepQ Q w' w'') : KeepQ Q w w'' := fun p u hq hp => k p u hq (h p u hq hp)
end
def FlatR {α : Type} (F : Nat) (R : World → List Value → α → Prop) (w : World) (css : List (List Value)) (xs : List α) : Prop :=
 css.length = xs.length ∧ ∀ (i : Nat) (x : α), xs[i]? = some x → ∃ cs, css[i]? = some cs ∧ cs.length = F ∧ R w cs x
theorem FlatR.nil {α : Type} (F : Nat) (R : World → List Value → α → Prop) (w : World) : FlatR F R w [] [] := ⟨rfl, fun i x hx => by simp at hx⟩
theorem FlatR.snoc {α : Type} {F : Nat} {R : World → List Value → α → Prop} {w : World} {css : List (List Value)} {xs : List α} (h : FlatR F R w css xs) {cs : List Value} {x : α} (hl : cs.length = F) (hx : R w cs x) : FlatR F R w (css ++ [cs]) (xs ++ [x]) := by
 refine ⟨by simp [h.1], fun i y hy => ?_⟩
 rcases Nat.lt_or_ge i xs.length with hi | hi
 ·rw [List.getElem?_append_left hi] at hy
  obtain ⟨c, h1, h2⟩ := h.2 i y hy
  exact ⟨c, by rw [List.getElem?_append_left (by rw [h.1]; exact hi)]; exact h1, h2⟩
 ·rw [List.getElem?_append_right hi] at hy
  have hi0 : i - xs.length = 0 := by
   rcases Nat.eq_zero_or_pos (i - xs.length) with h0 | h0
   ·exact h0
   ·rw [List.getElem?_eq_none (by simp; omega)] at hy; cases hy
  rw [hi0] at hy
  simp at hy
  subst hy
  exact ⟨cs, by rw [List.getElem?_append_right (by rw [h.1]; exact hi), h.1, hi0]; rfl, hl, hx⟩
theorem FlatR.keep {α : Type} {F : Nat} {R R' : World → List Value → α → Prop} {w w' : World} {css : List (List Value)} {xs : List α} (h : FlatR F R w css xs) (hR : ∀ cs x, R w cs x → R' w' cs x) : FlatR F R' w' css xs :=
 ⟨h.1, fun i x hx => by obtain ⟨cs, h1, h2, h3⟩ := h.2 i x hx; exact ⟨cs, h1, h2, hR _ _ h3⟩⟩
theorem flat_len {F : Nat} : ∀ {css : List (List Value)}, (∀ cs ∈ css, cs.length = F) → css.flatten.length = css.length * F
 | [], _ => by simp
 | c :: css, h => by
  have h1 := flat_len (css := css) (fun cs hc => h cs (List.mem_cons_of_mem _ hc))
  have h2 := h c (by simp)
  rw [List.flatten_cons, List.length_append, h1, h2, List.length_cons, Nat.succ_mul]
  omega
theorem flat_get {F : Nat} : ∀ {css : List (List Value)} {i : Nat} {cs : List Value}, (∀ cs ∈ css, cs.length = F) → css[i]? = some cs → ∀ (j : Nat) (u : Value), cs[j]? = some u → css.flatten[i * F + j]? = some u
 | [], i, cs, _, hi => by simp at hi
 | c :: css, 0, cs, h, hi => fun j u hu => by
  simp at hi; subst hi
  have hj := (List.getElem?_eq_some_iff.1 hu).1
  rw [List.flatten_cons, Nat.zero_mul, Nat.zero_add, List.getElem?_append_left hj]
  exact hu
 | c :: css, i + 1, cs, h, hi => fun j u hu => by
  have h2 := h c (by simp)
  rw [List.getElem?_cons_succ] at hi
  have h3 := flat_get (css := css) (fun cs hc => h cs (List.mem_cons_of_mem _ hc)) hi j u hu
  rw [List.flatten_cons, List.getElem?_append_right (by rw [h2, Nat.succ_mul]; omega), h2, show (i + 1) * F + j - F = i * F + j by rw [Nat.succ_mul]; omega]
  exact h3
theorem FlatR.each {α : Type} {F : Nat} {R : World → List Value → α → Prop} {w : World} {css : List (List Value)} {xs : List α} (h : FlatR F R w css xs) : ∀ cs ∈ css, cs.length = F := by
 intro cs hc
 obtain ⟨i, hi, rfl⟩ := List.getElem_of_mem hc
 have hx : xs[i]? = some (xs[i]'(by rw [← h.1]; exact hi)) := List.getElem?_eq_getElem _
 obtain ⟨c, h1, h2, _⟩ := h.2 i _ hx
 rw [List.getElem?_eq_getElem hi] at h1
 injection h1 with h1
 rw [h1]; exact h2
theorem slq_of_own {α : Type} {Q : Nat → Prop} {F base : Nat} {e : TypeId} {R : World → List Value → α → Prop} {w : World} {v : Value} {css : List (List Value)} {xs : List α} (hf : FlatR F R w css xs) (ho : w.ownsRow base e F v xs.length css.flatten)
  (hQ : ∀ g, v.ownBlock = some g → base ≤ g → g < w.heap.size → Q g) (hnil : 0 < xs.length ∨ True) : SlQ Q F R w v xs := by
 rcases Nat.eq_zero_or_pos xs.length with h0 | h0
 ·have hx : xs = [] := List.eq_nil_of_length_eq_zero h0
  subst hx
  obtain ⟨A, c, rfl⟩ := own_slice ho
  exact ⟨A, c, rfl, (own_caps ho).1, (own_caps ho).2, fun h => absurd h (by simp)⟩
 ·obtain ⟨g, cap, rfl, hb, hlt, hnc, hcm, hc, _⟩ := own_shape ho h0
  refine ⟨some ⟨g, 0, none⟩, cap, rfl, hnc, hcm, fun _ => ⟨g, 0, rfl, hQ g rfl hb hlt, fun i x hx => ?_⟩⟩
  obtain ⟨cs, h1, h2, h3⟩ := hf.2 i x hx
  refine ⟨cs, h2, h3, fun j u hu => ?_⟩
  rw [Nat.zero_add]
  exact hc _ u (flat_get hf.each h1 j u hu)
theorem flat_of_slr {α : Type} {F : Nat} {R : World → List Value → α → Prop} {w : World} {v : Value} {xs : List α} (h : SlR F R w v xs) :
  ∃ (css : List (List Value)) (A : Option Addr) (c : Nat), v = .slice A xs.length c ∧ xs.length ≤ c ∧ c ≤ maxLen ∧ FlatR F R w css xs ∧ (0 < F → Reads w w.heap.size F A xs.length css.flatten) := by
 obtain ⟨A, c, hv, h1, h2, h3⟩ := h
 rcases Nat.eq_zero_or_pos xs.length with h0 | h0
 ·have hx : xs = [] := List.eq_nil_of_length_eq_zero h0
  subst hx
  exact ⟨[], A, c, hv, h1, h2, FlatR.nil _ _ _, fun _ => ⟨by simp, fun h => absurd h (by simp)⟩⟩
 ·obtain ⟨b, off, hA, hc⟩ := h3 h0
  have hex : ∀ i, ∃ cs : List Value, i < xs.length → cs.length = F ∧ (∀ x, xs[i]? = some x → R w cs x) ∧ ∀ j u, cs[j]? = some u → w.cell? ⟨b, off + i * F + j, none⟩ = some u := fun i => by
   by_cases hi : i < xs.length
   ·obtain ⟨cs, h4, h5, h6⟩ := hc i _ (List.getElem?_eq_getElem hi)
    exact ⟨cs, fun _ => ⟨h4, fun x hx => by rw [List.getElem?_eq_getElem hi] at hx; injection hx with hx; rw [← hx]; exact h5, h6⟩⟩
   ·exact ⟨[], fun h => absurd h hi⟩
  obtain ⟨g, hg⟩ := Classical.axiomOfChoice hex
  have hget : ∀ i, i < xs.length → ((List.range xs.length).map g)[i]? = some (g i) := fun i hi => by rw [List.getElem?_map, List.getElem?_range hi]; rfl
  have hF : FlatR F R w ((List.range xs.length).map g) xs := ⟨by simp, fun i x hx => by
   have hi := (List.getElem?_eq_some_iff.1 hx).1
   exact ⟨g i, hget i hi, (hg i hi).1, (hg i hi).2.1 x hx⟩⟩
  refine ⟨(List.range xs.length).map g, A, c, hv, h1, h2, hF, fun hFp => ⟨by rw [flat_len hF.each, hF.1], fun _ => ⟨⟨b, off, none⟩, hA, ?_, fun k u hu => ?_⟩⟩⟩
  ·obtain ⟨q1, q2, q3⟩ := hg 0 h0
   have hu := List.getElem?_eq_getElem (show 0 < (g 0).length by omega)
   have h9 := cell_in (q3 0 _ hu)
   exact h9
  ·have hk := (List.getElem?_eq_some_iff.1 hu).1
   rw [flat_len hF.each, hF.1] at hk
   have hi : k / F < xs.length := Nat.div_lt_of_lt_mul (by rw [Nat.mul_comm]; exact hk)
   obtain ⟨q1, q2, q3⟩ := hg (k / F) hi
   have hj : k % F < (g (k / F)).length := by rw [q1]; exact Nat.mod_lt _ hFp
   have e1 := flat_get hF.each (hget _ hi) (k % F) _ (List.getElem?_eq_getElem hj)
   have e2 : k / F * F + k % F = k := by rw [Nat.mul_comm]; exact Nat.div_add_mod k F
   rw [e2, hu] at e1
   injection e1 with e1
   have e3 := q3 (k % F) _ (List.getElem?_eq_getElem hj)
   rw [← e1, Nat.add_assoc, e2] at e3
   rw [Go.WideShapes.add_plain]
   exact e3
end Go.Proofs.Ytioocaicmiggoaa

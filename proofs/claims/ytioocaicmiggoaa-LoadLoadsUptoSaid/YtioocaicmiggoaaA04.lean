/- Fow, First, Next, Caught, Read: texts merged for a claim by a program of mine. -/
import Derived.Test.YtioocaicmiggoaaA03
import Derived.Test.YtioocaicmiggoaaA01
import Derived.Deep.QuietTactic
import Derived.BigQuiet
import Derived.Defers
import Derived.Recover
import Derived.Laws.Pointers
namespace Go.Proofs.Ytioocaicmiggoaa
set_option linter.unusedVariables false
open Go.RowKit Go.Deep
def OwnB (B : Nat) (w : World) (v : Value) (l : List UInt8) : Prop :=
 w.ownsRow B 5 1 v l.length (bv l) ∨ ∃ g fz, v = .slice (some ⟨g, 0, none⟩) l.length l.length ∧ 0 < l.length ∧ B ≤ g ∧ w.heap[g]? = some (.cells (bv l).toArray 5 fz) ∧ l.length ≤ maxLen
section
variable {B : Nat} {w w' : World} {v : Value} {l : List UInt8}
theorem OwnB.lt (h : OwnB B w v l) {g : Nat} (hg : v.ownBlock = some g) : g < w.heap.size ∧ B ≤ g := by
 rcases h with h | ⟨g', fz, rfl, h1, h2, h3, _⟩
 ·exact own_lt2 h hg
 ·have : g' = g := by simpa [Value.ownBlock] using hg
  subst this
  exact ⟨(Array.getElem?_eq_some_iff.1 h3).1, h2⟩
theorem OwnB.below (h : OwnB B w v l) (hb : Below w.heap.size w w') : OwnB B w' v l := by
 rcases h with h | ⟨g, fz, hv, h1, h2, h3, h4⟩
 ·exact .inl (own_below2 h hb)
 ·exact .inr ⟨g, fz, hv, h1, h2, (hb.block g (Array.getElem?_eq_some_iff.1 h3).1).trans h3, h4⟩
theorem OwnB.ne (h : OwnB B w v l) {g : Nat} {t : TypeId} {cs : Array Value} (hg : Blk w g t cs) (hne : 5 ≠ t) : v.ownBlock ≠ some g := by
 rcases h with h | ⟨g', fz, rfl, h1, h2, h3, h4⟩
 ·exact own_blk_ne h hg hne
 ·intro e
  have : g' = g := by simpa [Value.ownBlock] using e
  subst this
  unfold Blk at hg
  rw [h3] at hg
  injection hg with hg
  injection hg with _ ht _
  exact hne ht
theorem OwnB.far (h : OwnB B w v l) {a : Addr} (ha : v.ownBlock ≠ some a.block) (u : Value) : OwnB B (w.setCell a u) v l := by
 rcases h with h | ⟨g, fz, rfl, h1, h2, h3, h4⟩
 ·exact .inl (own_far2 h ha u)
 ·exact .inr ⟨g, fz, rfl, h1, h2, (Below.heap_setCell w a u g (fun e => ha (by rw [← e]; rfl))).trans h3, h4⟩
theorem OwnB.slice (h : OwnB B w v l) : ∃ A c, v = .slice A l.length c ∧ l.length ≤ c ∧ c ≤ maxLen := by
 rcases h with h | ⟨g, fz, rfl, h1, h2, h3, h4⟩
 ·obtain ⟨A, c, rfl⟩ := own_slice h
  exact ⟨A, c, rfl, own_caps h⟩
 ·exact ⟨_, _, rfl, Nat.le_refl _, h4⟩
end
theorem run_append_b {w : World} {B : Nat} {v : Value} {l : List UInt8} (t ty : TypeId) (i : TypeInfo) (ht : Try.prog.underlying t = some (.slice 5)) (hi : Try.prog.info? 5 = some i) (hz : i.zero = some (.int .u8 0)) (hsize : i.size = 1) (hby : i.bytes = 1)
  (hown : OwnB B w v l) (Br : Nat) (A : Option Addr) (m c : Nat) (news : List UInt8) (hr : Reads w Br 1 A m (bv news)) (hm : 1 ≤ m) (hlen : l.length + m ≤ 70368744177664) (hbase : B ≤ w.heap.size) :
  ∃ v' w', (Builtin.append_ #[t, t] ty #[v, .slice A m c]).run Try.prog w = .ok v' w' ∧ w'.ownsRow B 5 1 v' (l.length + m) (bv l ++ bv news) ∧ w.grownBy w' v.ownBlock := by
 rcases hown with hown | ⟨g, fz, rfl, h1, h2, h3, h4⟩
 ·obtain ⟨v', w', k1, k2, k3, _⟩ := run_append_any (P := Try.prog) w B t ty 5 i (.int .u8 0) 1 1 ht hi hz hsize hby rfl (by omega) v l.length (bv l) hown Br A m c (bv news) hr (bv_one _) (by unfold maxLen; omega) (by omega) hbase
  exact ⟨v', w', k1, k2, k3⟩
 ·obtain ⟨ad, rfl, _, hc⟩ := hr.2 (by omega)
  have hl : (bv news).length = m := by have := hr.1; omega
  have ho : (bv l).length = l.length := bv_len l
  have holds : ∀ j u, (bv l)[j]? = some u → w.cell? ((⟨g, 0, none⟩ : Addr).add j) = some u := fun j u hu => by
   rw [Go.WideShapes.add_plain, Nat.zero_add, cell_of_row w g j _ _ _ h3]
   simpa using hu
  have hrun := run_append_grow (P := Try.prog) w t ty 5 i (.int .u8 0) ht hi hz ⟨g, 0, none⟩ l.length l.length (bv l) (by rw [hsize, ho]; omega) holds ad m c (bv news) (by rw [hsize, hl]; omega) hc (by omega) (by omega) (growslice_fits (by omega) (by rw [hby]; omega))
  refine ⟨_, _, hrun, ⟨by rw [List.length_append, ho, hl]; omega, .inr ⟨w.heap.size, _, _, rfl, hbase, heap_alloc_new w.drew _, grownCap_ge w _ _ _, grownCap_le_maxLen w _ _ _ (by unfold maxLen; omega), ?_, ?_⟩⟩, ⟨rfl, rfl, rfl, by simp, fun k hk _ => Below.heap_alloc w.drew _ k hk⟩⟩
  ·have hge := grownCap_ge w (l.length + m) l.length 5
   simp only [Array.size_append, List.size_toArray, size_zeroCells, ho, hl, Value.cells]
   simp
   omega
  ·simp only [Array.toList_append, List.append_assoc]
   rw [← List.append_assoc, show (l.length + m) * 1 = (bv l ++ bv news).length by rw [List.length_append, ho, hl]; omega]
   exact List.take_left
theorem step_append_b {w : World} {ops : Array Oper} {o : Oper} {a : Act} {K : Act → World → Prop} {Q : Exit → Act → World → Prop} {E : Prop} (hgd : o.guard = none) (s x : Operand) (t : TypeId)
  (ho : o.op = .call { callee := .builtin .append, args := #[s, x], argTypes := #[t, t] }) {B : Nat} {v : Value} {l : List UInt8} (i : TypeInfo) (ht : Try.prog.underlying t = some (.slice 5)) (hi : Try.prog.info? 5 = some i) (hz : i.zero = some (.int .u8 0)) (hsize : i.size = 1) (hby : i.bytes = 1)
  (hs : a.eval s = v) (hown : OwnB B w v l) (Br : Nat) (A : Option Addr) (m c : Nat) (news : List UInt8) (hx : a.eval x = .slice A m c) (hr : Reads w Br 1 A m (bv news)) (hm : 1 ≤ m) (hlen : l.length + m ≤ 70368744177664) (hbase : B ≤ w.heap.size)
  (h : ∀ v' w', w'.ownsRow B 5 1 v' (l.length + m) (bv l ++ bv news) → w.grownBy w' v.ownBlock → K (a.put o.dst v') w') :
  if Region.wanted o (yielded ops a.tmps) = true then Oper.wp Try.prog o a w K Q else E := by
 have hw : Region.wanted o (yielded ops a.tmps) = true := by simp [Region.wanted, hgd]
 rw [if_pos hw]
 obtain ⟨v', w', hrun, h2, h3⟩ := run_append_b t o.type i ht hi hz hsize hby hown Br A m c news hr hm hlen hbase
 unfold Oper.wp execOp
 simp only [ho, resolve, invoke, builtin, Sem.run_bind, Sem.run_pure, Result.andThen_ok, List.map_toArray, List.map_cons, List.map_nil, hs, hx, hrun]
 exact h v' w' h2 h3
end Go.Proofs.Ytioocaicmiggoaa
namespace Go.Proofs.Ytioocaicmiggoaa
set_option linter.unusedVariables false
set_option linter.unusedSimpArgs false
open Go.RowKit
def fstV (l : List UInt8) : Nat := ((dec l).getD (0, 0)).1
def fstK (l : List UInt8) : Nat := ((dec l).getD (0, 0)).2
theorem fst_some {l : List UInt8} {v k : Nat} (h : dec l = some (v, k)) : fstV l = v ∧ fstK l = k := by unfold fstV fstK; rw [h]; exact ⟨rfl, rfl⟩
theorem fst_none {l : List UInt8} (h : dec l = none) : fstV l = 0 ∧ fstK l = 0 := by unfold fstV fstK; rw [h]; exact ⟨rfl, rfl⟩
set_option maxRecDepth 100000 in
set_option maxHeartbeats 2000000 in
theorem first_any (A : Option Addr) (n c B : Nat) (l : List UInt8) (w : World) (hn : l.length = n) (hc : n ≤ c) (hm : c ≤ 9223372036854775807) (hR : Reads w B 1 A n (bv l)) :
  Calls Try.prog 84 #[.slice A n c] w fun e w' => e = .returned (.tuple #[.int .u64 (fstV l), .int .i64 (fstK l)]) ∧ w = w' := by
 rcases Nat.eq_zero_or_pos n with h0 | h0
 ·subst h0
  obtain rfl : l = [] := List.eq_nil_of_length_eq_zero hn
  clear hR hn
  go_enter Try.func84, Try.ntmps84
  go_wp2_with fail
  refine wp_loop_rounds 1 ?_
  rw [rounds_succ]
  go_wp2
  go_ret2
  exact ⟨rfl, rfl⟩
 ·obtain ⟨b, off, rfl, hb, hcell⟩ := hR.shape h0
  have HC := Lib.hid hcell
  have HN := Lib.hid hn
  clear hcell hR
  have hl : n ≤ l.length := by omega
  have hl3 : l.length ≤ n := by omega
  clear hn
  go_enter Try.func84, Try.ntmps84
  go_wp2_with fail
  go_loop [4, 5] (fun x i => ∃ j N : Nat, j ≤ n ∧ j ≤ 9 ∧ Hid (dcF (10 - j) j N (l.drop j) = dec l) ∧ Hid (N < 128 ^ j) ∧ N < 18446744073709551616 ∧ x = .int .u64 N ∧ i = .int .i64 j) (fun _ i => 10 - (intOf i).toNat)
  case atStart => exact ⟨0, 0, by omega, by omega, rfl, (by decide : 0 < 128 ^ 0), by decide, rfl, rfl⟩
  case round =>
   obtain ⟨j, N, hj, hj2, hD, hN, hN2, rfl, rfl⟩ := hrel
   by_cases hlt : j < n
   ·obtain ⟨C, hC⟩ : ∃ C, C = (l[j]'(by omega)).toNat := ⟨_, rfl⟩
    have hC2 : C < 256 := by rw [hC]; exact UInt8.toNat_lt _
    have hcj : w.cell? ⟨b, off + j, none⟩ = some (.int .u8 C) := by rw [HC.out j _ (bv_get l j (by omega)), hC]
    have HCC := Lib.hid hC
    clear hC
    have hjl : j < l.length := by omega
    by_cases stop : (j = 9 ∧ 1 < C) ∨ (0 < j ∧ C = 0)
    ·have HF := Lib.hid (fst_none (dcF_stop hjl (by omega) HCC.out hD.out stop))
     by_cases s1 : j = 9 ∧ 1 < C
     ·obtain ⟨rfl, s2⟩ := s1
      clear stop
      go_wp2_with fail
      go_ret2
      exact ⟨by rw [HF.out.1, HF.out.2]; rfl, rfl⟩
     ·have s2 : 0 < j ∧ C = 0 := by omega
      obtain ⟨s3, rfl⟩ := s2
      clear stop s1
      by_cases s9 : j = 9
      ·subst s9
       go_wp2_with fail
       go_ret2
       exact ⟨by rw [HF.out.1, HF.out.2]; rfl, rfl⟩
      ·have t1 : ((j : Int) == 9) = false := by rw [beq_eq_false_iff_ne]; omega
       clear s9
       go_wp2_with fail
       go_ret2
       exact ⟨by rw [HF.out.1, HF.out.2]; rfl, rfl⟩
    ·have hda := digit_add (j := j) (N := N) (C := C) (by omega) hN.out hC2 (by omega)
     obtain ⟨S, hS⟩ : ∃ S, C % 128 * 128 ^ j = S := ⟨_, rfl⟩
     rw [hS] at hda
     obtain ⟨d1, d2⟩ := hda
     have D2 := Lib.hid d2
     clear d2
     have hw := shl_wrap hS.symm (by omega : S < 18446744073709551616)
     by_cases h128 : C < 128
     ·have hF := fst_some (dcF_done hjl (by omega) HCC.out hD.out stop h128)
      rw [hS] at hF
      have HF := Lib.hid hF
      have h99 : j = 9 → (C : Int) % 128 * 9223372036854775808 = S := fun e => by
       subst e; rw [← hS, Int.natCast_mul]; rfl
      clear hS hF
      by_cases s9 : j = 9
      ·subst s9
       have h9 := h99 rfl
       clear h99
       have s3 : C ≤ 1 := by omega
       have t3 : ((C : Int) == 0) = false := by rw [beq_eq_false_iff_ne]; omega
       clear stop
       go_wp2_with fail
       go_ret2
       exact ⟨by rw [HF.out.1, HF.out.2]; rfl, rfl⟩
      ·clear h99
       have t1 : ((j : Int) == 9) = false := by rw [beq_eq_false_iff_ne]; omega
       by_cases s0 : 0 < j
       ·have t3 : ((C : Int) == 0) = false := by rw [beq_eq_false_iff_ne]; omega
        clear stop s9
        go_wp2_with fail
        go_ret2
        exact ⟨by rw [HF.out.1, HF.out.2]; rfl, rfl⟩
       ·clear stop s9
        go_wp2_with fail
        go_ret2
        exact ⟨by rw [HF.out.1, HF.out.2]; rfl, rfl⟩
     ·have hM := dcF_more hjl (by omega) HCC.out hD.out stop h128
      rw [hS] at hM
      have HM := Lib.hid hM
      have t1 : ((j : Int) == 9) = false := by rw [beq_eq_false_iff_ne]; omega
      have t3 : ((C : Int) == 0) = false := by rw [beq_eq_false_iff_ne]; omega
      have hj8 : j < 9 := by omega
      clear hS hM stop
      by_cases s0 : 0 < j
      ·go_wp2_with fail
       go_round
       case rel => exact ⟨j + 1, N + S, by omega, by omega, HM.out, D2.out, d1, by congr 1, by congr 1⟩
       case measure => simp [intOf]; omega
      ·go_wp2_with fail
       go_round
       case rel => exact ⟨j + 1, N + S, by omega, by omega, HM.out, D2.out, d1, by congr 1, by congr 1⟩
       case measure => simp [intOf]; omega
   ·have HF := Lib.hid (fst_none (dcF_ends (by omega) (by omega) hD.out))
    go_wp2_with fail
    go_ret2
    exact ⟨by rw [HF.out.1, HF.out.2]; rfl, rfl⟩
set_option maxRecDepth 100000 in
set_option maxHeartbeats 1000000 in
theorem signed_any (n : Nat) (w : World) (h : n < 18446744073709551616) :
  Calls Try.prog 69 #[.int .u64 n] w fun e w' => e = .returned (.int .i64 (zag n)) ∧ w = w' := by
 obtain ⟨Z, hZ⟩ : ∃ Z, zag n = Z := ⟨_, rfl⟩
 rcases Nat.mod_two_eq_zero_or_one n with hp | hp
 ·have e : (n : Int) / 2 = Z := by rw [← hZ]; unfold zag; rw [if_neg (by omega)]; omega
  have t : ((n : Int) % 2 == 1) = false := by rw [beq_eq_false_iff_ne]; omega
  have z2 : Z ≤ 9223372036854775807 := by omega
  have z3 : 0 ≤ Z := by omega
  rw [hZ]
  clear hZ hp
  go_enter Try.func69, Try.ntmps69
  go_wp2_with fail
  go_ret
  exact ⟨rfl, rfl⟩
 ·obtain ⟨H, hH⟩ : ∃ H : Int, (n : Int) / 2 = H := ⟨_, rfl⟩
  have e : -H - 1 = Z := by rw [← hZ, ← hH]; unfold zag; rw [if_pos hp]; omega
  have z2 : H ≤ 9223372036854775807 := by omega
  have z3 : 0 ≤ H := by omega
  have t : ((n : Int) % 2 == 1) = true := by rw [beq_iff_eq]; omega
  rw [hZ]
  clear hZ hp
  go_enter Try.func69, Try.ntmps69
  go_wp2_with fail
  go_ret
  exact ⟨rfl, rfl⟩
end Go.Proofs.Ytioocaicmiggoaa
namespace Go.Proofs.Ytioocaicmiggoaa
set_option linter.unusedVariables false
set_option linter.unusedSimpArgs false
open Go.RowKit
def Rdr (w : World) (R : Nat) (A : Option Addr) (n c p : Nat) : Prop := Blk w R 126 #[.slice A n c, .int .i64 p]
theorem Rdr.c0 {w : World} {R : Nat} {A : Option Addr} {n c p : Nat} (h : Rdr w R A n c p) : w.cell? ⟨R, 0, none⟩ = some (.slice A n c) := Blk.cell h 0
theorem Rdr.c1 {w : World} {R : Nat} {A : Option Addr} {n c p : Nat} (h : Rdr w R A n c p) : w.cell? ⟨R, 1, none⟩ = some (.int .i64 p) := Blk.cell h 1
theorem Rdr.fr {w : World} {R : Nat} {A : Option Addr} {n c p : Nat} (h : Rdr w R A n c p) (i : Nat) : w.frozen? ⟨R, i, none⟩ = false := Blk.frozen h i
theorem Rdr.set {w : World} {R : Nat} {A : Option Addr} {n c p : Nat} (h : Rdr w R A n c p) (q : Nat) (v : Int) (hv : v = q) : Rdr (w.setCell ⟨R, 1, none⟩ (.int .i64 v)) R A n c q := by
 subst hv; exact Blk.set_ h 1 _
def stopPanic : List PanicEntry := [{ v := .iface 190 (.agg #[]), recovered := false }]
set_option maxRecDepth 100000 in
set_option maxHeartbeats 1000000 in
theorem next_yes (b off n c p R C : Nat) (w : World) (hp : p < n) (hm : n ≤ 9223372036854775807) (hr : Rdr w R (some ⟨b, off, none⟩) n c p) (hb : b < R) (hC : w.cell? ⟨b, off + p, none⟩ = some (.int .u8 C)) :
  Calls Try.prog 106 #[.pointer (some ⟨R, 0, none⟩)] w fun e w' => e = .returned (.int .u8 C) ∧ ∃ m, w' = (w.setCell ⟨R, 1, none⟩ (.int .i64 (p + 1))).drewN m := by
 have c0 := hr.c0
 have c1 := hr.c1
 have f1 := hr.fr 1
 have hne : b ≠ R := by omega
 have ht : ((p : Int) == n) = false := by rw [beq_eq_false_iff_ne]; omega
 go_enter Try.func106, Try.ntmps106
 go_wp2_with fail
 go_quiet (fail)
 go_wp2_with fail
 generalize nq = q1
 have hr2 : Rdr ((w.drewN q1).setCell ⟨R, 1, none⟩ (.int .i64 (p + 1))) R (some ⟨b, off, none⟩) n c (p + 1) := Rdr.set (w := w.drewN q1) hr (p + 1) _ rfl
 have d0 := hr2.c0
 have d1 := hr2.c1
 have dC : ((w.drewN q1).setCell ⟨R, 1, none⟩ (.int .i64 (p + 1))).cell? ⟨b, off + p, none⟩ = some (.int .u8 C) := (World.cell?_setCell_other (w.drewN q1) ⟨R, 1, none⟩ ⟨b, off + p, none⟩ _ (by simp)).trans hC
 generalize hV : (w.drewN q1).setCell ⟨R, 1, none⟩ (.int .i64 (p + 1)) = V at d0 d1 dC ⊢
 have HV := Lib.hid hV
 have HC := Lib.hid hC
 clear hV hC hr hr2 c0 c1 f1 hne ht
 have e1 : IntKind.i64.wrap (((p + 1 : Nat) : Int) - 1) = p := by rw [IntKind.wrap_i64]; omega
 have e2 : (0 : Int) ≤ p := by omega
 have e3 : ((p : Int)).toNat = p := by omega
 have e4 : (p : Int) < n := by omega
 go_quiet (fail)
 go_wp2_with fail
 go_ret
 exact ⟨rfl, q1 + nq, by rw [← HV.out, ← World.drewN_drewN]; rfl⟩
set_option maxRecDepth 100000 in
set_option maxHeartbeats 1000000 in
theorem next_no (A : Option Addr) (n c R : Nat) (w : World) (hm : n ≤ 9223372036854775807) (hr : Rdr w R A n c n) :
  Calls Try.prog 106 #[.pointer (some ⟨R, 0, none⟩)] w fun e w' => e = .panicked stopPanic ∧ ∃ m, w' = w.drewN m := by
 have c0 := hr.c0
 have c1 := hr.c1
 have ht : ((n : Int) == n) = true := by simp
 clear hr
 go_enter Try.func106, Try.ntmps106
 go_wp2_with fail
 go_quiet (fail)
 go_wp2_with fail
 exact ⟨rfl, rfl, nq, rfl⟩
def NumPost (l : List UInt8) (p R : Nat) (A : Option Addr) (n c : Nat) (w : World) (e : Ending) (w' : World) : Prop :=
 w.grownBy w' (some R) ∧
 ((∃ v k, dec (l.drop p) = some (v, k) ∧ e = .returned (.int .u64 v) ∧ Rdr w' R A n c (p + k)) ∨ (dec (l.drop p) = none ∧ e = .panicked stopPanic ∧ ∃ q, Rdr w' R A n c q))
theorem grown_step {w wr : World} {R m : Nat} {v : Value} (h : w.grownBy wr (some R)) : w.grownBy ((wr.setCell ⟨R, 1, none⟩ v).drewN m) (some R) := only_drewN (only_setCell (p := ⟨R, 1, none⟩) h (.inl rfl) v) m
theorem rdr_step {wr : World} {R : Nat} {A : Option Addr} {n c q m : Nat} (h : Rdr wr R A n c q) : Rdr ((wr.setCell ⟨R, 1, none⟩ (.int .i64 ((q : Int) + 1))).drewN m) R A n c (q + 1) := Blk.drewN (Rdr.set h (q + 1) _ rfl) m
set_option maxRecDepth 100000 in
set_option maxHeartbeats 4000000 in
theorem number_any (A : Option Addr) (n c p R : Nat) (l : List UInt8) (w : World) (hn : l.length = n) (hp : p ≤ n) (hm : n ≤ 9223372036854775807) (hr : Rdr w R A n c p) (hR : Reads w R 1 A n (bv l)) :
  Calls Try.prog 105 #[.pointer (some ⟨R, 0, none⟩)] w (NumPost l p R A n c w) := by
 have hcell : ∀ j, j < n → ∃ b off, A = some ⟨b, off, none⟩ ∧ b < R ∧ ∀ w', w.grownBy w' (some R) → w'.cell? ⟨b, off + j, none⟩ = some (.int .u8 ((l[j]?.getD 0).toNat)) := by
  intro j hj
  obtain ⟨b, off, e, hb, hc⟩ := hR.shape (by omega)
  refine ⟨b, off, e, hb, fun w' hg => ?_⟩
  have h1 := hc j _ (bv_get l j (by omega))
  rw [World.cell?_of_block (hg.block b (World.block_lt_of_cell? w _ h1) (by intro e2; injection e2 with e2; omega)), h1]
  simp [show j < l.length by omega]
 have HC := Lib.hid hcell
 have HN := Lib.hid hn
 have HR0 := Lib.hid hr
 have hl : n ≤ l.length := by omega
 have hl3 : l.length ≤ n := by omega
 have hdl : (l.drop p).length = n - p := by rw [List.length_drop]; omega
 have HDL := Lib.hid hdl
 clear hcell hR hn hr hdl
 go_enter Try.func105, Try.ntmps105
 go_wp2_with fail
 go_loopw [3, 4] (fun x i wr => ∃ j N : Nat, p + j ≤ n ∧ j ≤ 9 ∧ Hid (dcF (10 - j) j N ((l.drop p).drop j) = dec (l.drop p)) ∧ Hid (N < 128 ^ j) ∧ N < 18446744073709551616 ∧ x = .int .u64 N ∧ i = .int .i64 j ∧ Rdr wr R A n c (p + j) ∧ w.grownBy wr (some R)) (fun _ i _ => 10 - (intOf i).toNat)
 case atStart => exact ⟨0, 0, by omega, by omega, rfl, (by decide : 0 < 128 ^ 0), by decide, rfl, rfl, HR0.out, World.grownBy.refl _ _⟩
 case round =>
  obtain ⟨j, N, hj, hj2, hD, hN, hN2, rfl, rfl, hr, hg⟩ := hrel
  have HG := Lib.hid hg
  have HR := Lib.hid hr
  clear hg hr
  by_cases hlt : p + j < n
  ·obtain ⟨b, off, rfl, hb, hcc⟩ := HC.out (p + j) hlt
   have hcj := hcc wr HG.out
   obtain ⟨C, hC⟩ : ∃ C, C = (l[p + j]?.getD 0).toNat := ⟨_, rfl⟩
   rw [← hC] at hcj
   have hC2 : C < 256 := by rw [hC]; exact UInt8.toNat_lt _
   have hjl : j < (l.drop p).length := by rw [HDL.out]; omega
   have hCC : C = ((l.drop p)[j]'hjl).toNat := by
    rw [hC]; simp [show p + j < l.length by omega]
   have HCC := Lib.hid hCC
   have HCJ := Lib.hid hcj
   clear hC hCC hcj hcc
   go_wp2_with fail
   refine (next_yes b off n c (p + j) R C wr hlt hm HR.out hb HCJ.out).mono ?_
   rintro e w2 ⟨rfl, m, rfl⟩
   have hg2 := Lib.hid (grown_step (m := m) (v := .int .i64 (((p + j : Nat) : Int) + 1)) HG.out)
   have hr2 := Lib.hid (rdr_step (m := m) HR.out)
   generalize (wr.setCell ⟨R, 1, none⟩ (.int .i64 (((p + j : Nat) : Int) + 1))).drewN m = V at hg2 hr2 ⊢
   by_cases stop : (j = 9 ∧ 1 < C) ∨ (0 < j ∧ C = 0)
   ·have HF := Lib.hid (dcF_stop hjl (by omega) HCC.out hD.out stop)
    have HP : Hid (NumPost l p R (some ⟨b, off, none⟩) n c w (.panicked stopPanic) V) := ⟨hg2.out, .inr ⟨HF.out, rfl, _, hr2.out⟩⟩
    by_cases s1 : j = 9 ∧ 1 < C
    ·obtain ⟨rfl, s2⟩ := s1
     clear stop
     go_wp2_with fail
     exact ⟨rfl, HP.out⟩
    ·have s2 : 0 < j ∧ C = 0 := by omega
     obtain ⟨s3, rfl⟩ := s2
     clear stop s1
     by_cases s9 : j = 9
     ·subst s9
      go_wp2_with fail
      exact ⟨rfl, HP.out⟩
     ·have t1 : ((j : Int) == 9) = false := by rw [beq_eq_false_iff_ne]; omega
      clear s9
      go_wp2_with fail
      exact ⟨rfl, HP.out⟩
   ·have hda := digit_add (j := j) (N := N) (C := C) (by omega) hN.out hC2 (by omega)
    obtain ⟨S, hS⟩ : ∃ S, C % 128 * 128 ^ j = S := ⟨_, rfl⟩
    rw [hS] at hda
    obtain ⟨d1, d2⟩ := hda
    have D2 := Lib.hid d2
    clear d2
    have hw := shl_wrap hS.symm (by omega : S < 18446744073709551616)
    have ha := and_127 C hC2
    have ho := or_add hN.out hS d1
    by_cases h128 : C < 128
    ·have hF := dcF_done hjl (by omega) HCC.out hD.out stop h128
     rw [hS] at hF
     have HP : Hid (NumPost l p R (some ⟨b, off, none⟩) n c w (.returned (.int .u64 (N + S : Nat))) V) := ⟨hg2.out, .inl ⟨N + S, j + 1, hF, rfl, hr2.out⟩⟩
     have h99 : j = 9 → (C : Int) % 128 * 9223372036854775808 = S := fun e => by
      subst e; rw [← hS, Int.natCast_mul]; rfl
     clear hS hF
     by_cases s9 : j = 9
     ·subst s9
      have h9 := h99 rfl
      have s3 : C ≤ 1 := by omega
      have t3 : ((C : Int) == 0) = false := by rw [beq_eq_false_iff_ne]; omega
      clear stop h99
      go_wp2_with fail
      go_ret
      exact HP.out
     ·clear h99
      have t1 : ((j : Int) == 9) = false := by rw [beq_eq_false_iff_ne]; omega
      by_cases s0 : 0 < j
      ·have t3 : ((C : Int) == 0) = false := by rw [beq_eq_false_iff_ne]; omega
       clear stop s9
       go_wp2_with fail
       go_ret
       exact HP.out
      ·clear stop s9
       go_wp2_with fail
       go_ret
       exact HP.out
    ·have hM := dcF_more hjl (by omega) HCC.out hD.out stop h128
     rw [hS] at hM
     have HM := Lib.hid hM
     have t1 : ((j : Int) == 9) = false := by rw [beq_eq_false_iff_ne]; omega
     have t3 : ((C : Int) == 0) = false := by rw [beq_eq_false_iff_ne]; omega
     have hj8 : j < 9 := by omega
     clear hS hM stop
     by_cases s0 : 0 < j
     ·go_wp2_with fail
      go_roundw
      case rel => exact ⟨j + 1, N + S, by omega, by omega, HM.out, D2.out, d1, by congr 1, by congr 1, hr2.out, hg2.out⟩
      case measure => simp [intOf]; omega
     ·go_wp2_with fail
      go_roundw
      case rel => exact ⟨j + 1, N + S, by omega, by omega, HM.out, D2.out, d1, by congr 1, by congr 1, hr2.out, hg2.out⟩
      case measure => simp [intOf]; omega
  ·have hpj : p + j = n := by omega
   have HF := Lib.hid (dcF_ends (by rw [HDL.out]; omega) (by omega) hD.out)
   have hr3 := HR.out
   rw [hpj] at hr3
   have HR3 := Lib.hid hr3
   clear hpj hr3
   go_wp2_with fail
   refine (next_no A n c R wr hm HR3.out).mono ?_
   rintro e w2 ⟨rfl, m, rfl⟩
   have HP : Hid (NumPost l p R A n c w (.panicked stopPanic) (wr.drewN m)) := ⟨only_drewN HG.out m, .inr ⟨HF.out, rfl, n, Blk.drewN HR3.out m⟩⟩
   go_wp2_with fail
   exact ⟨rfl, HP.out⟩
end Go.Proofs.Ytioocaicmiggoaa
namespace Go.Proofs.Ytioocaicmiggoaa
set_option linter.unusedVariables false
set_option linter.unusedSimpArgs false
open Go.RowKit
def caughtWorld (w : World) (B R : Nat) (at_ : Int) : World :=
 (((w.alloc (.cells #[] 190)).setCell ⟨R, 1, none⟩ (.int .i64 at_)).setCell ⟨B + 1, 0, none⟩ (.int .u64 0)).setCell ⟨B + 2, 0, none⟩ (.bool false)
set_option maxRecDepth 100000 in
set_option maxHeartbeats 2000000 in
theorem caught_stop (B R : Nat) (at_ : Int) (x0 x1 x2 : Value) (older : List PanicEntry) (w : World)
  (ha : w.cell? ⟨B + 3, 0, none⟩ = some (.int .i64 at_)) (hr : w.cell? ⟨B, 0, none⟩ = some (.pointer (some ⟨R, 0, none⟩))) (h0 : w.cell? ⟨R, 1, none⟩ = some x0) (f0 : w.frozen? ⟨R, 1, none⟩ = false)
  (h1 : w.cell? ⟨B + 1, 0, none⟩ = some x1) (f1 : w.frozen? ⟨B + 1, 0, none⟩ = false) (h2 : w.cell? ⟨B + 2, 0, none⟩ = some x2) (f2 : w.frozen? ⟨B + 2, 0, none⟩ = false) :
  CallsD Try.prog 104 #[.pointer (some ⟨B + 3, 0, none⟩), .pointer (some ⟨B, 0, none⟩), .pointer (some ⟨B + 1, 0, none⟩), .pointer (some ⟨B + 2, 0, none⟩)] (.panicking ({ v := .iface 190 (.agg #[]), recovered := false } :: older)) w fun e u' w' =>
   e = .returned (.tuple #[]) ∧ u' = .panicking ({ v := .iface 190 (.agg #[]), recovered := true } :: older) ∧ w' = caughtWorld w B R at_ := by
 have hta : ∀ W, (Instr.typeAssert (.iface 190 (.agg #[])) 20 190 true).run Try.prog W = .ok (.tuple #[.agg #[], .bool true]) W := fun _ => by kernel_rfl
 have kc : ∀ (a : Addr) (v : Value) (o : Obj), w.cell? a = some v → (w.alloc o).cell? a = some v := fun a v o h => (World.cell?_alloc_lt w o a (World.block_lt_of_cell? w a h)).trans h
 have kf : ∀ (a : Addr) (v : Value) (o : Obj), w.cell? a = some v → w.frozen? a = false → (w.alloc o).frozen? a = false := fun a v o h hf => by
  have hb := World.block_lt_of_cell? w a h
  rw [World.frozen?_of_block (Below.heap_alloc w o a.block hb)]; exact hf
 have ha' := fun o => kc _ _ o ha
 have hr' := fun o => kc _ _ o hr
 have h0' := fun o => kc _ _ o h0
 have h1' := fun o => kc _ _ o h1
 have h2' := fun o => kc _ _ o h2
 have f0' := fun o => kf _ _ o h0 f0
 have f1' := fun o => kf _ _ o h1 f1
 have f2' := fun o => kf _ _ o h2 f2
 clear kc kf
 refine callsD_of_wpS Try.func104 rfl fun c₀ cs hu => ?_
 apply wpS_seq
 apply wpS_region
 simp [wpOpsS, go_sem, recoverD, hu, Try.ntmps104, Exit.thenS]
 refine wpS_of_wp ?_
 rw [show (#[Value.pointer (some ⟨B + 3, 0, none⟩), .pointer (some ⟨B, 0, none⟩), .pointer (some ⟨B + 1, 0, none⟩), .pointer (some ⟨B + 2, 0, none⟩)] ++ ((Array.replicate 18 undef).setIfInBounds 3 (Value.iface 190 (.agg #[]))).setIfInBounds 0 (Value.iface 190 (.agg #[]))) = #[.pointer (some ⟨B + 3, 0, none⟩), .pointer (some ⟨B, 0, none⟩), .pointer (some ⟨B + 1, 0, none⟩), .pointer (some ⟨B + 2, 0, none⟩), .iface 190 (.agg #[]), undef, undef, .iface 190 (.agg #[]), undef, undef, undef, undef, undef, undef, undef, undef, undef, undef, undef, undef, undef, undef] from rfl]
 go_wp2_with fail
 exact ⟨rfl, _, rfl, _, results_none rfl _ _ _, rfl, rfl, rfl⟩
set_option maxRecDepth 100000 in
set_option maxHeartbeats 2000000 in
theorem caught_idle (pa pr pn pk : Addr) (w : World) :
  CallsD Try.prog 104 #[.pointer (some pa), .pointer (some pr), .pointer (some pn), .pointer (some pk)] .returning w fun e u' w' => e = .returned (.tuple #[]) ∧ u' = .returning ∧ w' = w := by
 refine callsD_of_wpS Try.func104 rfl fun c₀ cs hu => ?_
 apply wpS_seq
 apply wpS_region
 simp [wpOpsS, go_sem, recoverD, hu, Try.ntmps104, Exit.thenS]
 refine wpS_of_wp ?_
 rw [show (#[Value.pointer (some pa), .pointer (some pr), .pointer (some pn), .pointer (some pk)] ++ ((Array.replicate 18 undef).setIfInBounds 3 Value.nilIface).setIfInBounds 0 Value.nilIface) = #[.pointer (some pa), .pointer (some pr), .pointer (some pn), .pointer (some pk), .nilIface, undef, undef, .nilIface, undef, undef, undef, undef, undef, undef, undef, undef, undef, undef, undef, undef, undef, undef] from rfl]
 go_wp2_with fail
 cases c₀
 simp_all [bodyPostS, results, Try.results104]
end Go.Proofs.Ytioocaicmiggoaa
namespace Go.Proofs.Ytioocaicmiggoaa
set_option linter.unusedVariables false
set_option linter.unusedSimpArgs false
open Go.RowKit
theorem dec_pos {l : List UInt8} {v k : Nat} (h : dec l = some (v, k)) : 1 ≤ k := by
 have h1 := (dec_take h).2.2.1
 have := (vb_len v).1
 omega
def UPost (l : List UInt8) (p R : Nat) (A : Option Addr) (n c : Nat) (w : World) (e : Ending) (w' : World) : Prop :=
 e = .returned (.tuple #[.int .u64 (fstV (l.drop p)), .bool (decide (0 < fstK (l.drop p)))]) ∧ w.grownBy w' (some R) ∧ Rdr w' R A n c (p + fstK (l.drop p))
def uWorld (w : World) (R p : Nat) : World :=
 (((w.alloc (.cells #[.pointer (some ⟨R, 0, none⟩)] 106)).alloc (.cells #[.int .u64 0] 86)).alloc (.cells #[.bool false] 4)).alloc (.cells #[.int .i64 p] 3)
theorem uWorld_0 (w : World) (R p : Nat) : Blk (uWorld w R p) w.heap.size 106 #[.pointer (some ⟨R, 0, none⟩)] := (((Blk.new w _ _).alloc _).alloc _).alloc _
theorem uWorld_1 (w : World) (R p : Nat) : Blk (uWorld w R p) (w.heap.size + 1) 86 #[.int .u64 0] := by
 have h := Blk.new (w.alloc (.cells #[.pointer (some ⟨R, 0, none⟩)] 106)) 86 #[.int .u64 0]
 rw [World.size_alloc] at h
 exact (h.alloc _).alloc _
theorem uWorld_2 (w : World) (R p : Nat) : Blk (uWorld w R p) (w.heap.size + 2) 4 #[.bool false] := by
 have h := Blk.new ((w.alloc (.cells #[.pointer (some ⟨R, 0, none⟩)] 106)).alloc (.cells #[.int .u64 0] 86)) 4 #[.bool false]
 rw [World.size_alloc, World.size_alloc] at h
 exact h.alloc _
theorem uWorld_3 (w : World) (R p : Nat) : Blk (uWorld w R p) (w.heap.size + 3) 3 #[.int .i64 p] := by
 have h := Blk.new (((w.alloc (.cells #[.pointer (some ⟨R, 0, none⟩)] 106)).alloc (.cells #[.int .u64 0] 86)).alloc (.cells #[.bool false] 4)) 3 #[.int .i64 p]
 rw [World.size_alloc, World.size_alloc, World.size_alloc] at h
 exact h
theorem uWorld_grown (w : World) (R p : Nat) (row : Option Nat) : w.grownBy (uWorld w R p) row := only_alloc (only_alloc (only_alloc (only_alloc (World.grownBy.refl w row) _) _) _) _
theorem grown_tr {a b c : World} {row : Option Nat} (h : a.grownBy b row) (k : b.grownBy c row) : a.grownBy c row :=
 ⟨k.os.trans h.os, k.tape.trans h.tape, k.output.trans h.output, Nat.le_trans h.size k.size, fun i hi hne => (k.block i (Nat.lt_of_lt_of_le hi h.size) hne).trans (h.block i hi hne)⟩
theorem grown_new {a b : World} {row : Option Nat} (h : a.grownBy b row) {g i : Nat} (hg : a.heap.size ≤ g) (v : Value) : a.grownBy (b.setCell ⟨g, i, none⟩ v) row :=
 ⟨h.os, h.tape, h.output, by simpa [World.setCell] using h.size, fun k hk hne => (Below.heap_setCell b ⟨g, i, none⟩ v k (by show k ≠ g; omega)).trans (h.block k hk hne)⟩
set_option maxRecDepth 100000 in
set_option maxHeartbeats 4000000 in
theorem runint_any (A : Option Addr) (n c p R : Nat) (l : List UInt8) (w : World) (hn : l.length = n) (hp : p ≤ n) (hm : n ≤ 9223372036854775807) (hr : Rdr w R A n c p) (hR : Reads w R 1 A n (bv l)) :
  Calls Try.prog 102 #[.pointer (some ⟨R, 0, none⟩)] w (UPost l p R A n c w) := by
 have hmf : ∀ (fn : Fn) (first cap : Array Value) (w : World), (Instr.makeFunc fn first cap).run Try.prog w = .ok (.func fn first cap) w := fun _ _ _ _ => rfl
 have hRl : R < w.heap.size := Blk.lt hr
 have c1 : ∀ o o2 o3, (((w.alloc o).alloc o2).alloc o3).cell? ⟨R, 1, none⟩ = some (.int .i64 p) := fun o o2 o3 => by
  rw [World.cell?_alloc_lt _ _ _ (by simp; omega), World.cell?_alloc_lt _ _ _ (by simp; omega), World.cell?_alloc_lt _ _ _ hRl]; exact hr.c1
 have hG := uWorld_grown w R p (some R)
 have hr4 : Rdr (uWorld w R p) R A n c p := (((Blk.alloc hr _).alloc _).alloc _).alloc _
 have hR4 : Reads (uWorld w R p) R 1 A n (bv l) := hR.grown hG (by omega) (fun g hg => by injection hg with hg; omega)
 have C := Lib.hid (number_any A n c p R l (uWorld w R p) hn hp hm hr4 hR4)
 have HG := Lib.hid hG
 clear hR hr hn hr4 hR4 hG
 go_enter_defers Try.func102, Try.ntmps102
 go_wp2_with fail
 clear c1 hmf
 refine C.out.mono ?_
 rintro e V ⟨hg, hcase⟩
 have b0 := (uWorld_0 w R p).grown hg (by intro e; injection e with e; omega)
 have b1 := (uWorld_1 w R p).grown hg (by intro e; injection e with e; omega)
 have b2 := (uWorld_2 w R p).grown hg (by intro e; injection e with e; omega)
 have b3 := (uWorld_3 w R p).grown hg (by intro e; injection e with e; omega)
 have HGV := Lib.hid (grown_tr HG.out hg)
 clear hg HG C
 rcases hcase with ⟨v, k, hd, rfl, hr5⟩ | ⟨hd, rfl, q, hr5⟩
 ·have hk := dec_pos hd
  have HF := Lib.hid (fst_some hd)
  have k1 := b1.cell 0
  have k2 := b2.cell 0
  have f1 := b1.frozen 0
  have f2 := b2.frozen 0
  simp only [List.getElem?_toArray, List.getElem?_cons_zero] at k1 k2
  have H5 := Lib.hid hr5
  clear b0 b1 b2 b3 hr5 hd
  go_wp2_with fail
  have kk2 : ((V.setCell ⟨w.heap.size + 1, 0, none⟩ (.int .u64 v)).setCell ⟨w.heap.size + 1 + 1, 0, none⟩ (.bool true)).cell? ⟨w.heap.size + 1 + 1, 0, none⟩ = some (.bool true) :=
   World.cell?_setCell_same _ _ _ ((World.cell?_setCell_other V ⟨w.heap.size + 1, 0, none⟩ ⟨w.heap.size + 1 + 1, 0, none⟩ (.int .u64 v) (by simp)).trans k2)
  have kk1 : ((V.setCell ⟨w.heap.size + 1, 0, none⟩ (.int .u64 v)).setCell ⟨w.heap.size + 1 + 1, 0, none⟩ (.bool true)).cell? ⟨w.heap.size + 1, 0, none⟩ = some (.int .u64 v) :=
   (World.cell?_setCell_other _ ⟨w.heap.size + 1 + 1, 0, none⟩ ⟨w.heap.size + 1, 0, none⟩ (.bool true) (by simp)).trans (World.cell?_setCell_same _ _ _ k1)
  have hgr : w.grownBy ((V.setCell ⟨w.heap.size + 1, 0, none⟩ (.int .u64 v)).setCell ⟨w.heap.size + 1 + 1, 0, none⟩ (.bool true)) (some R) := grown_new (grown_new HGV.out (by omega) _) (by omega) _
  have hrd : Rdr ((V.setCell ⟨w.heap.size + 1, 0, none⟩ (.int .u64 v)).setCell ⟨w.heap.size + 1 + 1, 0, none⟩ (.bool true)) R A n c (p + k) := Blk.far (Blk.far H5.out (p := ⟨w.heap.size + 1, 0, none⟩) (by show R ≠ w.heap.size + 1; omega) _) (p := ⟨w.heap.size + 1 + 1, 0, none⟩) (by show R ≠ w.heap.size + 1 + 1; omega) _
  generalize (V.setCell ⟨w.heap.size + 1, 0, none⟩ (.int .u64 v)).setCell ⟨w.heap.size + 1 + 1, 0, none⟩ (.bool true) = X at kk1 kk2 hgr hrd ⊢
  have hfin : UPost l p R A n c w (.returned (.tuple #[.int .u64 v, .bool true])) X := by
   unfold UPost
   rw [HF.out.1, HF.out.2]
   exact ⟨by rw [decide_eq_true (by omega : 0 < k)], hgr, hrd⟩
  have HX := Lib.hid hfin
  clear hfin hgr hrd k1 k2 f1 f2
  refine leaves_cons (f := 104) (args := #[.pointer (some ⟨w.heap.size + 1 + 1 + 1, 0, none⟩), .pointer (some ⟨w.heap.size, 0, none⟩), .pointer (some ⟨w.heap.size + 1, 0, none⟩), .pointer (some ⟨w.heap.size + 1 + 1, 0, none⟩)]) (by simp) (by simp [go_sem]) ?_
  refine (caught_idle _ _ _ _ _).mono ?_
  rintro e u' w'' ⟨rfl, rfl, rfl⟩
  refine ⟨_, (by simp [results, Try.results102, go_sem, kk1, kk2] : (results Try.f102 _).run Try.prog _ = .ok (.tuple #[.int .u64 v, .bool true]) _), HX.out⟩
 ·have HF := Lib.hid (fst_none hd)
  have a0 := b0.cell 0
  have a1 := b1.cell 0
  have a2 := b2.cell 0
  have a3 := b3.cell 0
  have e1 := b1.frozen 0
  have e2 := b2.frozen 0
  simp only [List.getElem?_toArray, List.getElem?_cons_zero] at a0 a1 a2 a3
  have r1 := hr5.c1
  have r2 := hr5.fr 1
  have hVs : w.heap.size + 2 < V.heap.size := by have := World.block_lt_of_cell? V _ a3; simp at this; omega
  have hw1 : (caughtWorld V w.heap.size R p).cell? ⟨w.heap.size + 2, 0, none⟩ = some (.bool false) := by
   refine World.cell?_setCell_same _ _ _ (?_ : _ = some (.bool false))
   rw [World.cell?_setCell_other _ _ _ _ (by simp), World.cell?_setCell_other _ _ _ _ (by simp), World.cell?_alloc_lt _ _ _ (show w.heap.size + 2 < V.heap.size by omega)]
   exact a2
  have hw2 : (caughtWorld V w.heap.size R p).cell? ⟨w.heap.size + 1, 0, none⟩ = some (.int .u64 0) := by
   refine (World.cell?_setCell_other _ ⟨w.heap.size + 2, 0, none⟩ ⟨w.heap.size + 1, 0, none⟩ _ (by simp)).trans ?_
   refine World.cell?_setCell_same _ _ _ (?_ : _ = some (.int .u64 0))
   rw [World.cell?_setCell_other _ _ _ _ (by simp), World.cell?_alloc_lt _ _ _ (show w.heap.size + 1 < V.heap.size by omega)]
   exact a1
  have hgr : w.grownBy (caughtWorld V w.heap.size R p) (some R) := grown_new (grown_new (only_setCell (p := ⟨R, 1, none⟩) (only_alloc HGV.out _) (.inl rfl) _) (by omega) _) (by omega) _
  have hrd : Rdr (caughtWorld V w.heap.size R p) R A n c p := Blk.far (Blk.far (Rdr.set (Blk.alloc hr5 _) p _ rfl) (p := ⟨w.heap.size + 1, 0, none⟩) (by show R ≠ w.heap.size + 1; omega) _) (p := ⟨w.heap.size + 2, 0, none⟩) (by show R ≠ w.heap.size + 2; omega) _
  have hfin : UPost l p R A n c w (.returned (.tuple #[.int .u64 0, .bool false])) (caughtWorld V w.heap.size R p) := by
   unfold UPost
   rw [HF.out.1, HF.out.2]
   exact ⟨rfl, hgr, hrd⟩
  have HX := Lib.hid hfin
  clear hfin hgr hrd
  refine leaves_cons (f := 104) (args := #[.pointer (some ⟨w.heap.size + 1 + 1 + 1, 0, none⟩), .pointer (some ⟨w.heap.size, 0, none⟩), .pointer (some ⟨w.heap.size + 1, 0, none⟩), .pointer (some ⟨w.heap.size + 1 + 1, 0, none⟩)]) (by simp) (by simp [go_sem]) ?_
  refine (caught_stop w.heap.size R p _ _ _ [] V a3 a0 r1 r2 a1 e1 a2 e2).mono ?_
  rintro e u' w'' ⟨rfl, rfl, rfl⟩
  generalize caughtWorld V w.heap.size R p = X at hw1 hw2 HX ⊢
  have hw3 : X.cell? ⟨w.heap.size + 1 + 1, 0, none⟩ = some (.bool false) := hw1
  have hp2 := HX.out
  generalize UPost l p R A n c w = PP at hp2 ⊢
  simp [Leaves, settle, results, Try.results102, go_sem, hw2, hw3]
  exact hp2
end Go.Proofs.Ytioocaicmiggoaa

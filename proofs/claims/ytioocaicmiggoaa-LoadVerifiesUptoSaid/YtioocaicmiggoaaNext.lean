/-
  The walks of the reader's next and number.
-/
import Derived.Test.YtioocaicmiggoaaFirst
import Derived.Deep.QuietTactic
import Derived.BigQuiet
import Derived.Defers
import Derived.Recover
import Derived.Laws.Pointers
namespace Go.Proofs.Ytioocaicmiggoaa
set_option linter.unusedVariables false
set_option linter.unusedSimpArgs false
open Go.RowKit

/-- a reader: its bytes' slice, where it stands -/
def Rdr (w : World) (R : Nat) (A : Option Addr) (n c p : Nat) : Prop := Blk w R 126 #[.slice A n c, .int .i64 p]
theorem Rdr.c0 {w : World} {R : Nat} {A : Option Addr} {n c p : Nat} (h : Rdr w R A n c p) : w.cell? ⟨R, 0, none⟩ = some (.slice A n c) := Blk.cell h 0
theorem Rdr.c1 {w : World} {R : Nat} {A : Option Addr} {n c p : Nat} (h : Rdr w R A n c p) : w.cell? ⟨R, 1, none⟩ = some (.int .i64 p) := Blk.cell h 1
theorem Rdr.fr {w : World} {R : Nat} {A : Option Addr} {n c p : Nat} (h : Rdr w R A n c p) (i : Nat) : w.frozen? ⟨R, i, none⟩ = false := Blk.frozen h i
theorem Rdr.set {w : World} {R : Nat} {A : Option Addr} {n c p : Nat} (h : Rdr w R A n c p) (q : Nat) (v : Int) (hv : v = q) : Rdr (w.setCell ⟨R, 1, none⟩ (.int .i64 v)) R A n c q := by
  subst hv; exact Blk.set_ h 1 _
/-- a panic of the program's own: no number stands here -/
def stopPanic : List PanicEntry := [{ v := .iface 190 (.agg #[]), recovered := false }]

set_option maxRecDepth 100000 in
set_option maxHeartbeats 1000000 in
theorem next_yes (b off n c p R C : Nat) (w : World) (hp : p < n) (hm : n ≤ 9223372036854775807) (hr : Rdr w R (some ⟨b, off, none⟩) n c p) (hb : b < R) (hC : w.cell? ⟨b, off + p, none⟩ = some (.int .u8 C)) :
    Calls Try.prog 106 #[.pointer (some ⟨R, 0, none⟩)] w fun e w' => e = .returned (.int .u8 C) ∧ ∃ m, w' = (w.setCell ⟨R, 1, none⟩ (.int .i64 (p + 1))).drewN m := by
  have c0 := hr.c0
  have c1 := hr.c1
  have f1 := hr.fr 1
  have hne : b ≠ R := by omega
  have ht : ((p : Int) == n) = false := by rw [beq_eq_false_iff_ne]; omega
  go_enter Try.func106, Try.ntmps106
  go_wp2_with fail
  go_quiet (fail)
  go_wp2_with fail
  generalize nq = q1
  have hr2 : Rdr ((w.drewN q1).setCell ⟨R, 1, none⟩ (.int .i64 (p + 1))) R (some ⟨b, off, none⟩) n c (p + 1) := Rdr.set (w := w.drewN q1) hr (p + 1) _ rfl
  have d0 := hr2.c0
  have d1 := hr2.c1
  have dC : ((w.drewN q1).setCell ⟨R, 1, none⟩ (.int .i64 (p + 1))).cell? ⟨b, off + p, none⟩ = some (.int .u8 C) := (World.cell?_setCell_other (w.drewN q1) ⟨R, 1, none⟩ ⟨b, off + p, none⟩ _ (by simp)).trans hC
  generalize hV : (w.drewN q1).setCell ⟨R, 1, none⟩ (.int .i64 (p + 1)) = V at d0 d1 dC ⊢
  have HV := Lib.hid hV
  have HC := Lib.hid hC
  clear hV hC hr hr2 c0 c1 f1 hne ht
  have e1 : IntKind.i64.wrap (((p + 1 : Nat) : Int) - 1) = p := by rw [IntKind.wrap_i64]; omega
  have e2 : (0 : Int) ≤ p := by omega
  have e3 : ((p : Int)).toNat = p := by omega
  have e4 : (p : Int) < n := by omega
  go_quiet (fail)
  go_wp2_with fail
  go_ret
  exact ⟨rfl, q1 + nq, by rw [← HV.out, ← World.drewN_drewN]; rfl⟩

set_option maxRecDepth 100000 in
set_option maxHeartbeats 1000000 in
theorem next_no (A : Option Addr) (n c R : Nat) (w : World) (hm : n ≤ 9223372036854775807) (hr : Rdr w R A n c n) :
    Calls Try.prog 106 #[.pointer (some ⟨R, 0, none⟩)] w fun e w' => e = .panicked stopPanic ∧ ∃ m, w' = w.drewN m := by
  have c0 := hr.c0
  have c1 := hr.c1
  have ht : ((n : Int) == n) = true := by simp
  clear hr
  go_enter Try.func106, Try.ntmps106
  go_wp2_with fail
  go_quiet (fail)
  go_wp2_with fail
  exact ⟨rfl, rfl, nq, rfl⟩

/-- what becomes of a read of a number -/
def NumPost (l : List UInt8) (p R : Nat) (A : Option Addr) (n c : Nat) (w : World) (e : Ending) (w' : World) : Prop :=
  w.grownBy w' (some R) ∧
  ((∃ v k, dec (l.drop p) = some (v, k) ∧ e = .returned (.int .u64 v) ∧ Rdr w' R A n c (p + k)) ∨ (dec (l.drop p) = none ∧ e = .panicked stopPanic ∧ ∃ q, Rdr w' R A n c q))

theorem grown_step {w wr : World} {R m : Nat} {v : Value} (h : w.grownBy wr (some R)) : w.grownBy ((wr.setCell ⟨R, 1, none⟩ v).drewN m) (some R) := only_drewN (only_setCell (p := ⟨R, 1, none⟩) h (.inl rfl) v) m
theorem rdr_step {wr : World} {R : Nat} {A : Option Addr} {n c q m : Nat} (h : Rdr wr R A n c q) : Rdr ((wr.setCell ⟨R, 1, none⟩ (.int .i64 ((q : Int) + 1))).drewN m) R A n c (q + 1) := Blk.drewN (Rdr.set h (q + 1) _ rfl) m

set_option maxRecDepth 100000 in
set_option maxHeartbeats 4000000 in
theorem number_any (A : Option Addr) (n c p R : Nat) (l : List UInt8) (w : World) (hn : l.length = n) (hp : p ≤ n) (hm : n ≤ 9223372036854775807) (hr : Rdr w R A n c p) (hR : Reads w R 1 A n (bv l)) :
    Calls Try.prog 105 #[.pointer (some ⟨R, 0, none⟩)] w (NumPost l p R A n c w) := by
  have hcell : ∀ j, j < n → ∃ b off, A = some ⟨b, off, none⟩ ∧ b < R ∧ ∀ w', w.grownBy w' (some R) → w'.cell? ⟨b, off + j, none⟩ = some (.int .u8 ((l[j]?.getD 0).toNat)) := by
    intro j hj
    obtain ⟨b, off, e, hb, hc⟩ := hR.shape (by omega)
    refine ⟨b, off, e, hb, fun w' hg => ?_⟩
    have h1 := hc j _ (bv_get l j (by omega))
    rw [World.cell?_of_block (hg.block b (World.block_lt_of_cell? w _ h1) (by intro e2; injection e2 with e2; omega)), h1]
    simp [show j < l.length by omega]
  have HC := Lib.hid hcell
  have HN := Lib.hid hn
  have HR0 := Lib.hid hr
  have hl : n ≤ l.length := by omega
  have hl3 : l.length ≤ n := by omega
  have hdl : (l.drop p).length = n - p := by rw [List.length_drop]; omega
  have HDL := Lib.hid hdl
  clear hcell hR hn hr hdl
  go_enter Try.func105, Try.ntmps105
  go_wp2_with fail
  go_loopw [3, 4] (fun x i wr => ∃ j N : Nat, p + j ≤ n ∧ j ≤ 9 ∧ Hid (dcF (10 - j) j N ((l.drop p).drop j) = dec (l.drop p)) ∧ Hid (N < 128 ^ j) ∧ N < 18446744073709551616 ∧ x = .int .u64 N ∧ i = .int .i64 j ∧ Rdr wr R A n c (p + j) ∧ w.grownBy wr (some R)) (fun _ i _ => 10 - (intOf i).toNat)
  case atStart => exact ⟨0, 0, by omega, by omega, rfl, (by decide : 0 < 128 ^ 0), by decide, rfl, rfl, HR0.out, World.grownBy.refl _ _⟩
  case round =>
    obtain ⟨j, N, hj, hj2, hD, hN, hN2, rfl, rfl, hr, hg⟩ := hrel
    have HG := Lib.hid hg
    have HR := Lib.hid hr
    clear hg hr
    by_cases hlt : p + j < n
    · obtain ⟨b, off, rfl, hb, hcc⟩ := HC.out (p + j) hlt
      have hcj := hcc wr HG.out
      obtain ⟨C, hC⟩ : ∃ C, C = (l[p + j]?.getD 0).toNat := ⟨_, rfl⟩
      rw [← hC] at hcj
      have hC2 : C < 256 := by rw [hC]; exact UInt8.toNat_lt _
      have hjl : j < (l.drop p).length := by rw [HDL.out]; omega
      have hCC : C = ((l.drop p)[j]'hjl).toNat := by
        rw [hC]; simp [show p + j < l.length by omega]
      have HCC := Lib.hid hCC
      have HCJ := Lib.hid hcj
      clear hC hCC hcj hcc
      go_wp2_with fail
      refine (next_yes b off n c (p + j) R C wr hlt hm HR.out hb HCJ.out).mono ?_
      rintro e w2 ⟨rfl, m, rfl⟩
      have hg2 := Lib.hid (grown_step (m := m) (v := .int .i64 (((p + j : Nat) : Int) + 1)) HG.out)
      have hr2 := Lib.hid (rdr_step (m := m) HR.out)
      generalize (wr.setCell ⟨R, 1, none⟩ (.int .i64 (((p + j : Nat) : Int) + 1))).drewN m = V at hg2 hr2 ⊢
      by_cases stop : (j = 9 ∧ 1 < C) ∨ (0 < j ∧ C = 0)
      · have HF := Lib.hid (dcF_stop hjl (by omega) HCC.out hD.out stop)
        have HP : Hid (NumPost l p R (some ⟨b, off, none⟩) n c w (.panicked stopPanic) V) := ⟨hg2.out, .inr ⟨HF.out, rfl, _, hr2.out⟩⟩
        by_cases s1 : j = 9 ∧ 1 < C
        · obtain ⟨rfl, s2⟩ := s1
          clear stop
          go_wp2_with fail
          exact ⟨rfl, HP.out⟩
        · have s2 : 0 < j ∧ C = 0 := by omega
          obtain ⟨s3, rfl⟩ := s2
          clear stop s1
          by_cases s9 : j = 9
          · subst s9
            go_wp2_with fail
            exact ⟨rfl, HP.out⟩
          · have t1 : ((j : Int) == 9) = false := by rw [beq_eq_false_iff_ne]; omega
            clear s9
            go_wp2_with fail
            exact ⟨rfl, HP.out⟩
      · have hda := digit_add (j := j) (N := N) (C := C) (by omega) hN.out hC2 (by omega)
        obtain ⟨S, hS⟩ : ∃ S, C % 128 * 128 ^ j = S := ⟨_, rfl⟩
        rw [hS] at hda
        obtain ⟨d1, d2⟩ := hda
        have D2 := Lib.hid d2
        clear d2
        have hw := shl_wrap hS.symm (by omega : S < 18446744073709551616)
        have ha := and_127 C hC2
        have ho := or_add hN.out hS d1
        by_cases h128 : C < 128
        · have hF := dcF_done hjl (by omega) HCC.out hD.out stop h128
          rw [hS] at hF
          have HP : Hid (NumPost l p R (some ⟨b, off, none⟩) n c w (.returned (.int .u64 (N + S : Nat))) V) := ⟨hg2.out, .inl ⟨N + S, j + 1, hF, rfl, hr2.out⟩⟩
          have h99 : j = 9 → (C : Int) % 128 * 9223372036854775808 = S := fun e => by
            subst e; rw [← hS, Int.natCast_mul]; rfl
          clear hS hF
          by_cases s9 : j = 9
          · subst s9
            have h9 := h99 rfl
            have s3 : C ≤ 1 := by omega
            have t3 : ((C : Int) == 0) = false := by rw [beq_eq_false_iff_ne]; omega
            clear stop h99
            go_wp2_with fail
            go_ret
            exact HP.out
          · clear h99
            have t1 : ((j : Int) == 9) = false := by rw [beq_eq_false_iff_ne]; omega
            by_cases s0 : 0 < j
            · have t3 : ((C : Int) == 0) = false := by rw [beq_eq_false_iff_ne]; omega
              clear stop s9
              go_wp2_with fail
              go_ret
              exact HP.out
            · clear stop s9
              go_wp2_with fail
              go_ret
              exact HP.out
        · have hM := dcF_more hjl (by omega) HCC.out hD.out stop h128
          rw [hS] at hM
          have HM := Lib.hid hM
          have t1 : ((j : Int) == 9) = false := by rw [beq_eq_false_iff_ne]; omega
          have t3 : ((C : Int) == 0) = false := by rw [beq_eq_false_iff_ne]; omega
          have hj8 : j < 9 := by omega
          clear hS hM stop
          by_cases s0 : 0 < j
          · go_wp2_with fail
            go_roundw
            case rel => exact ⟨j + 1, N + S, by omega, by omega, HM.out, D2.out, d1, by congr 1, by congr 1, hr2.out, hg2.out⟩
            case measure => simp [intOf]; omega
          · go_wp2_with fail
            go_roundw
            case rel => exact ⟨j + 1, N + S, by omega, by omega, HM.out, D2.out, d1, by congr 1, by congr 1, hr2.out, hg2.out⟩
            case measure => simp [intOf]; omega
    · have hpj : p + j = n := by omega
      have HF := Lib.hid (dcF_ends (by rw [HDL.out]; omega) (by omega) hD.out)
      have hr3 := HR.out
      rw [hpj] at hr3
      have HR3 := Lib.hid hr3
      clear hpj hr3
      go_wp2_with fail
      refine (next_no A n c R wr hm HR3.out).mono ?_
      rintro e w2 ⟨rfl, m, rfl⟩
      have HP : Hid (NumPost l p R A n c w (.panicked stopPanic) (wr.drewN m)) := ⟨only_drewN HG.out m, .inr ⟨HF.out, rfl, n, Blk.drewN HR3.out m⟩⟩
      go_wp2_with fail
      exact ⟨rfl, HP.out⟩
end Go.Proofs.Ytioocaicmiggoaa

/-
  WireReads: for every input the Go function answers true, and the input reads as it did. No condition.
-/
import Derived.Test.YtlccikpmnhjfoaaRows
import Derived.Test.YtlccikpmnhjfoaaRow
import Derived.Test.YtlccikpmnhjfoaaStru
import Derived.Test.YtlccikpmnhjfoaaConv
import Derived.Deep.DrawnRows
import Derived.Maps.OwnOps
namespace Go.Proofs.Ytlccikpmnhjfoaa.wireReads
open Go.ChangeShapes Go.WideShapes Go.ChangeAt Go.RowKit
open Go.ChangeMaps (open_string shut_string)
set_option linter.unusedVariables false
set_option linter.unusedSimpArgs false

theorem own : ownKnob Try.prog.godebug = none := by kernel_rfl
theorem laidOut : laidOutB Try.prog = true := by kernel_rfl

theorem _root_.Go.Proofs.Ytlccikpmnhjfoaa.Reads.setOff {w : World} {B size n : Nat} {A : Option Addr} {xs : List Value} (h : Reads w B size A n xs) {p : Addr} (hA : ∀ ad, A = some ad → ad.block ≠ p.block) (u : Value) : Reads (w.setCell p u) B size A n xs :=
  ⟨h.1, fun hn => by
    obtain ⟨ad, e, hb, hc⟩ := h.2 hn
    exact ⟨ad, e, hb, fun j u' hu => (World.cell?_setCell_other w p _ u (fun e' => hA ad e (by rw [← block_of_add ad j, e']))).trans (hc j u' hu)⟩⟩
/-- what holds while the copy is written over -/
def Fill (w : World) (g cap n0 R c : Nat) (A : Option Addr) (l : List UInt8) (i : Value) (wr : World) : Prop :=
  ∃ k : Nat, k ≤ n0 + 1 ∧ i = .int .i64 k ∧ w.grownBy wr none ∧ (∃ xs, wr.ownsRow w.heap.size 5 1 (.slice (some ⟨g, 0, none⟩) (n0 + 1) cap) (n0 + 1) xs) ∧ Rdr wr R A n0 c 0 ∧ Reads wr R 1 A n0 (bv l)
/-- what holds at the head of each read -/
def At (w : World) (n0 n1 R c : Nat) (A : Option Addr) (l : List UInt8) (q i : Value) (wr : World) : Prop :=
  ∃ k p : Nat, k ≤ n1 ∧ p ≤ n0 ∧ i = .int .i64 k ∧ q = .int .i64 p ∧ w.grownBy wr none ∧ Rdr wr R A n0 c p ∧ Reads wr R 1 A n0 (bv l)
set_option maxRecDepth 1000000 in
set_option maxHeartbeats 8000000 in
/-- the walk: the Go text answers true and writes nothing that was there -/
theorem walk (w : World) (a0 : Option Addr) (n0 c0 : Nat) (z0 : List Int) (w0 : InRow .u8 1 w a0 n0 c0 z0) (a1 : Option Addr) (n1 c1 : Nat) (z1_0 : Nat → Int) (z1_1 : Nat → Int) (z1_2 : Nat → Int) (w1 : InCells 3 24 w a1 n1 c1 (fun i j => match j with | 0 => Value.int .i64 (z1_0 i) | 1 => Value.int .i64 (z1_1 i) | _ => Value.int .i64 (z1_2 i))) (x1_0 : ∀ i, i < n1 → (Lit.int .i64 (z1_0 i)).wf = true) (x1_1 : ∀ i, i < n1 → (Lit.int .i64 (z1_1 i)).wf = true) (x1_2 : ∀ i, i < n1 → (Lit.int .i64 (z1_2 i)).wf = true) :
    Calls Try.prog 7 #[.slice a0 n0 c0, .slice a1 n1 c1] w fun e w' => e = .returned (.bool true) ∧ Below w.heap.size w w' := by
  obtain ⟨l, hl, hc, hm, hR⟩ := w0.bytes
  obtain ⟨s1, s2, s3, s4⟩ := w1
  have S4 := Lib.hid s4
  have X0 := Lib.hid x1_0
  have X1 := Lib.hid x1_1
  have X2 := Lib.hid x1_2
  clear s4 x1_0 x1_1 x1_2 w0
  obtain ⟨i0, hi, hz0, hz1, hz2⟩ := info_parts infoU8
  go_enter Try.func7, Try.ntmps7
  go_wp2_with (first
    | (at_builtin; refine wpList_append_any _ rfl (.tmp 20) (.tmp 21) _ rfl w.heap.size 5 i0 _ 1 1 Try.underlying22 hi hz0 hz1 hz2 rfl (by omega) _ 0 [] rfl (World.ownsRow_lit w #[] 0 (Nat.le_refl _) (by decide) rfl) w.heap.size a0 n0 c0 (bv l) rfl (hR.alloc (Nat.le_refl _) _) (bv_one l) ?c1 ?c2 ?c3 ?_; rotate_left 3; intro v1 wa hown1 hg1 hat1)
    | (at_builtin; refine wpList_append_any _ rfl (.tmp 22) (.tmp 23) _ rfl w.heap.size 5 i0 _ 1 1 Try.underlying22 hi hz0 hz1 hz2 rfl (by omega) _ _ _ rfl (hown1.alloc _) (wa.heap.size + 1) (some ⟨wa.heap.size, 0, none⟩) 1 1 [.int .u8 113] rfl (reads_one wa _ _ _) (by intro u hu; simp at hu; subst hu; rfl) ?d1 ?d2 ?d3 ?_; rotate_left 3; intro v2 wb hown2 hg2 hat2; obtain ⟨g, cap, rfl, hgw, hgl, hgc, hgm, hcells, hfz⟩ := own_shape hown2 (by omega)))
  case c1 => unfold maxLen; omega
  case c2 => omega
  case c3 => simp
  case d1 => unfold maxLen; omega
  case d2 => omega
  case d3 => have := hg1.size; simp at this ⊢; omega
  have hg1' : (w.alloc (.cells #[] 5)).grownBy wa (some w.heap.size) := hg1
  have hs1 : w.heap.size + 1 ≤ wa.heap.size := by have := hg1.size; simpa using this
  have hs2 : wa.heap.size + 1 ≤ wb.heap.size := by have := hg2.size; simpa using this
  have hat : ∃ R', v1.ownBlock = some R' ∧ w.heap.size ≤ R' := by
    rcases hat1 with h | h
    · exact ⟨w.heap.size, h, Nat.le_refl _⟩
    · exact ⟨_, h, by simp⟩
  obtain ⟨R1, hR1, hR1'⟩ := hat
  have hg2' : (wa.alloc (.cells #[.int .u8 113] 5)).grownBy wb (some R1) := by rw [← hR1]; exact hg2
  have G2 := Lib.hid (grown_in (only_alloc (grown_in (only_alloc (World.grownBy.refl w none) (.cells #[] 5)) hg1' (Nat.le_refl _)) (.cells #[.int .u8 113] 5)) hg2' hR1')
  have hown3 : wb.ownsRow w.heap.size 5 1 (.slice (some ⟨g, 0, none⟩) (n0 + 1) cap) (n0 + 1) (bv (l ++ [113])) := by
    rw [bv_app]
    have h := hown2
    rw [Nat.zero_add, List.nil_append] at h
    exact h
  have hKT : Reads wb wb.heap.size 1 (some ⟨g, 0, none⟩) (n0 + 1) (bv (l ++ [113])) := Reads.of_own hown3
  have hln : (l ++ [113]).length = n0 + 1 := by simp [hl]
  have hKT0 : Reads wb wb.heap.size 1 (some ⟨g, 0, none⟩) n0 (bv l) := by
    have h := hKT.take hln n0 (by omega)
    rw [← hl, List.take_left, hl] at h
    exact h
  have OP := Lib.hid (open_any (some ⟨g, 0, none⟩) n0 cap l wb hl (by omega) hKT0)
  have HO := Lib.hid hown3
  have HRw := Lib.hid hR
  have HRb := Lib.hid (hR.grown G2.out (Nat.le_refl _) (fun g hg => by cases hg))
  clear hown1 hown2 hg1 hg2 hg1' hg2' hat1 hat2 hR1 hcells hfz hKT hKT0 hown3 hR hR1' hln
  rw [Nat.zero_add] at *
  clear hi hz0 hz1 hz2
  go_wp2_with fail
  refine OP.out.mono ?_
  rintro e wc ⟨R, A, c, rfl, hRw, hr, hrd, hown, hb⟩
  have HRD := Lib.hid hrd
  have HR0 := Lib.hid hr
  have HOc := Lib.hid (HO.out.kept (only_of_below hb none) (.inr (by simp [Value.ownBlock])))
  have G3 := Lib.hid (grown_below G2.out hb)
  have HRc := Lib.hid (HRb.out.keep fun q hq => hb.cell (p := q) (by omega))
  have hRne : R ≠ g := by omega
  have hsc := hb.size
  have HA : Hid (∀ ad, A = some ad → ad.block ≠ g) := Lib.hid fun ad e => by subst e; have := hown.lt ad.block rfl; omega
  clear OP hrd hr hown hb HRb HO G2
  go_wp2_with fail
  refine (awake_any wc).mono ?_
  rintro e wd ⟨rfl, hg⟩
  have G4 := Lib.hid (grown_tr G3.out hg)
  have HOd := Lib.hid (HOc.out.kept hg (.inr (by simp [Value.ownBlock])))
  have HR4 := Lib.hid (Blk.grown HR0.out hg (by simp))
  have HRD4 := Lib.hid (HRD.out.keep fun q hq => World.cell?_of_block (hg.block q.block (Nat.lt_trans hq (Blk.lt HR0.out)) (by simp)))
  have HRd := Lib.hid (HRc.out.keep fun q hq => World.cell?_of_block (hg.block q.block (by have := hs1; omega) (by simp)))
  have x1 := reads_text (cap := cap) (Reads.of_own HOd.out) (by simp [hl])
  have x2 := reads_text (cap := c0) HRd.out hl
  have x3 := bytes_app l [113]
  clear hg HOc HR0 HRD HRc G3
  go_wp2_with fail
  clear x1 x2 x3
  have HF : Hid (Fill w g cap n0 R c A l (.int .i64 0) wd) := Lib.hid ⟨0, by omega, rfl, G4.out, ⟨_, HOd.out⟩, HR4.out, HRD4.out⟩
  clear G4 HOd HR4 HRD4
  go_loopw [46] (fun i wr => Fill w g cap n0 R c A l i wr) (fun i _ => n0 + 1 - (intOf i).toNat)
  case atStart => exact HF.out
  case round =>
    clear HF
    obtain ⟨k, hk, rfl, G, ⟨xs, ho⟩, hr, hrd⟩ := hrel
    by_cases hlt : k < n0 + 1
    · have h1 : ∃ v, wr.cell? ⟨g, k, none⟩ = some v := ⟨xs[k]'(by have := ho.1; omega), by rw [ho.cellAt k (by omega)]; exact List.getElem?_eq_getElem _⟩
      obtain ⟨v, hv⟩ := h1
      have hf := ho.frozenAt k
      have HF : Hid (Fill w g cap n0 R c A l (.int .i64 ((k + 1 : Nat) : Int)) (wr.setCell ⟨g, k, none⟩ (.int .u8 153))) := Lib.hid
        ⟨k + 1, by omega, rfl, grown_in G (ho.stored k _).2 hgw, ⟨_, (ho.stored k _).1⟩, Blk.far hr (p := ⟨g, k, none⟩) (fun e => hRne e) _, hrd.setOff (p := ⟨g, k, none⟩) HA.out _⟩
      clear ho hr hrd G
      go_wp2_with fail
      go_roundw
      case rel => exact HF.out
      case measure => simp [intOf]; omega
    · have hlt' : ¬ k < n0 + 1 := hlt
      have HT : Hid (At w n0 n1 R c A l (.int .i64 0) (.int .i64 0) wr) := Lib.hid ⟨0, 0, by omega, by omega, rfl, rfl, G, hr, hrd⟩
      clear ho hr hrd G HRd
      unfold maxLen at s2
      obtain ⟨wo, rfl⟩ : ∃ wo : World, wo = wr := ⟨_, rfl⟩
      go_wp2_with fail
      clear hlt hlt'
      go_loopw [8, 55] (fun q i wr => At w n0 n1 R c A l q i wr) (fun _ i _ => n1 - (intOf i).toNat)
      case atStart => exact HT.out
      case round =>
        clear HT
        obtain ⟨j, p, hj, hp, rfl, rfl, G, hr, hrd⟩ := hrel
        by_cases hjn : j < n1
        · obtain ⟨b, off, rfl, hbw, hcell⟩ := S4.out (by omega)
          have kc : ∀ i v, w.cell? ⟨b, i, none⟩ = some v → wr.cell? ⟨b, i, none⟩ = some v := fun i v h => (World.cell?_of_block (G.block b hbw (by simp))).trans h
          have h0 := kc _ _ (hcell j 0 hjn (by omega))
          have h1 := kc _ _ (hcell j 1 hjn (by omega))
          have h2 := kc _ _ (hcell j 2 hjn (by omega))
          simp only [Nat.add_zero, ← Nat.add_assoc] at h0 h1 h2
          have b0 := bd_i64 (X0.out j hjn)
          have b1 := bd_i64 (X1.out j hjn)
          have b2 := bd_i64 (X2.out j hjn)
          obtain ⟨K, hK⟩ : ∃ K, z1_0 j = K := ⟨_, rfl⟩
          obtain ⟨L, hL⟩ : ∃ L, z1_1 j = L := ⟨_, rfl⟩
          obtain ⟨M, hM⟩ : ∃ M, z1_2 j = M := ⟨_, rfl⟩
          rw [hK] at h0 b0
          rw [hL] at h1 b1
          rw [hM] at h2 b2
          clear hK hL hM kc hcell
          have HC : Hid (Reads (wr.alloc (.cells #[.int .i64 K, .int .i64 L, .int .i64 M] 43)) w.heap.size 1 (if c0 = p then a0 else a0.map (·.add p)) (n0 - p) (bv (l.drop p))) := Lib.hid (by
            have h := (HRw.out.grown G (Nat.le_refl _) (fun g hg => by cases hg)).cut hp hc
            rw [Nat.mul_one, bv_drop] at h
            exact h.alloc G.size _)
          have hld : (l.drop p).length = n0 - p := by rw [List.length_drop, hl]
          have hV := fstV_lt (l.drop p)
          have hK2 := fstK_le (l.drop p)
          rw [hld] at hK2
          have hz := fst_zero (l.drop p)
          obtain ⟨x, hx⟩ : ∃ x, zag (fstV (l.drop p)) = x := ⟨_, rfl⟩
          have hxr := zag_range _ hV
          rw [hx] at hxr
          have G1 := Lib.hid (only_alloc G (.cells #[.int .i64 K, .int .i64 L, .int .i64 M] 43))
          have hr1 := Lib.hid (Blk.alloc hr (.cells #[.int .i64 K, .int .i64 L, .int .i64 M] 43))
          have hrd1 := Lib.hid (hrd.alloc (Nat.le_of_lt (Blk.lt hr)) (.cells #[.int .i64 K, .int .i64 L, .int .i64 M] 43))
          have hwR : w.heap.size ≤ R := by omega
          have hRr : R < wr.heap.size := Blk.lt hr
          have CU := Lib.hid (runint_any A n0 c p R l _ hl hp (by omega) hr1.out hrd1.out)
          have CI := Lib.hid (rint_meth A n0 c p R l _ hl hp (by omega) hr1.out hrd1.out)
          have CTy := Lib.hid (upto_yes L M A n0 c p R l _ hl hp (by omega) hr1.out hrd1.out)
          have CTn := Lib.hid (upto_no L M A n0 c p R l _ hl hp (by omega) hr1.out hrd1.out)
          unfold UPost at CU
          unfold IPost at CI
          rw [hx] at CI CTy CTn
          have F1a := Lib.hid (fun h : c0 = p => first_any a0 (n0 - p) 0 w.heap.size (l.drop p) _ hld (by omega) (by omega) (show Reads (wr.alloc (.cells #[.int .i64 K, .int .i64 L, .int .i64 M] 43)) w.heap.size 1 a0 (n0 - p) (bv (l.drop p)) from by have h2 := HC.out; rwa [if_pos h] at h2))
          have F1b := Lib.hid (fun h : ¬ c0 = p => first_any (a0.map (fun x => x.add p)) (n0 - p) (c0 - p) w.heap.size (l.drop p) _ hld (by omega) (by omega) (show Reads (wr.alloc (.cells #[.int .i64 K, .int .i64 L, .int .i64 M] 43)) w.heap.size 1 (a0.map (fun x => x.add p)) (n0 - p) (bv (l.drop p)) from by have h2 := HC.out; rwa [if_neg h] at h2))
          have F2 := Lib.hid (fun W => signed_any (fstV (l.drop p)) W hV)
          rw [hx] at F2
          obtain ⟨V, hVe⟩ : ∃ V, fstV (l.drop p) = V := ⟨_, rfl⟩
          obtain ⟨Q, hQe⟩ : ∃ Q, fstK (l.drop p) = Q := ⟨_, rfl⟩
          rw [hVe] at hV hz CU F1a F1b F2 hx
          rw [hQe] at hK2 hz CU CI CTy CTn F1a F1b
          have hz' : ¬ 0 < Q → x = 0 := fun h => by rw [← hx, hz h]; rfl
          clear hVe hQe hx hr hrd G HC
          have Z := Lib.hid hz
          have Z' := Lib.hid hz'
          clear hz hz'
          by_cases h3 : j = 300
          · subst h3
            have h0 : wr.cell? ⟨b, off + 900, none⟩ = some (.int .i64 K) := h0
            have h1 : wr.cell? ⟨b, off + 900 + 1, none⟩ = some (.int .i64 L) := h1
            have h2 : wr.cell? ⟨b, off + 900 + 2, none⟩ = some (.int .i64 M) := h2
            clear CU CI CTy CTn F1a F1b F2 hr1 hrd1
            go_wp2_with fail
            go_ret
            exact ⟨rfl, below_of_grown G1.out⟩
          · have t3 : ((j : Int) == 300) = false := by rw [beq_eq_false_iff_ne]; omega
            rcases Nat.eq_zero_or_pos Q with hQ | hQ
            · subst hQ
              have hV0 : V = 0 := Z.out (by omega)
              subst hV0
              have hx0 : x = 0 := Z'.out (by omega)
              subst hx0
              rw [decide_eq_false (by omega : ¬ 0 < 0)] at CU CI
              clear Z Z'
              by_cases hcp : c0 = p
              · subst hcp
                have F := Lib.hid (F1a.out rfl)
                rw [show n0 - c0 = 0 by omega] at F
                clear F1a F1b
                go_wp2_with fail
                refine F.out.mono ?_
                rintro e we ⟨rfl, rfl⟩
                clear F
                go_wp2_with fail
                refine (F2.out _).mono ?_
                rintro e we ⟨rfl, rfl⟩
                clear F2
                by_cases hk0 : K = 0
                · subst hk0
                  have C := Lib.hid (CU.out)
                  clear CU CI CTy CTn
                  go_wp2_with fail
                  refine C.out.mono ?_
                  rintro e w5 ⟨rfl, hg5, hr5⟩
                  have HL := Lib.hid fun W (h : Rdr W R A n0 c (c0 + 0)) => left_any A n0 c (c0 + 0) R W (by omega) (by omega) h
                  rw [show ((n0 - (c0 + 0) : Nat) : Int) = (n0 : Int) - (c0 : Int) by omega] at HL
                  have HE : Hid (w.grownBy w5 none ∧ Rdr w5 R A n0 c (c0 + 0) ∧ Reads w5 R 1 A n0 (bv l)) := Lib.hid ⟨grown_in G1.out hg5 (by omega), hr5, hrd1.out.grown hg5 (by simp; omega) (fun g hg => by injection hg with hg; omega)⟩
                  clear hg5 hr5 C
                  go_wp2_with fail
                  refine (HL.out _ HE.out.2.1).mono ?_
                  rintro e w6 ⟨rfl, m6, rfl⟩
                  go_wp2_with fail
                  have HN : Hid (At w n0 n1 R c A l (.int .i64 (c0 : Int)) (.int .i64 ((j : Int) + 1)) (w5.drewN m6)) := Lib.hid ⟨j + 1, c0 + 0, by omega, by omega, by go_num, by go_num, only_drewN HE.out.1 m6, Blk.drewN HE.out.2.1 m6, HE.out.2.2.drewN m6⟩
                  go_roundw
                  case rel => first | exact HN.out | ((repeat apply Exists.intro); exact ⟨HN.out, rfl⟩)
                  case measure => simp [intOf]; omega
                · have t0 : (K == 0) = false := by rw [beq_eq_false_iff_ne]; exact hk0
                  by_cases hk1 : K = 1
                  · subst hk1
                    clear hk0 t0
                    have C := Lib.hid (CI.out)
                    clear CU CI CTy CTn
                    go_wp2_with fail
                    refine C.out.mono ?_
                    rintro e w5 ⟨rfl, hg5, hr5⟩
                    have HL := Lib.hid fun W (h : Rdr W R A n0 c (c0 + 0)) => left_any A n0 c (c0 + 0) R W (by omega) (by omega) h
                    rw [show ((n0 - (c0 + 0) : Nat) : Int) = (n0 : Int) - (c0 : Int) by omega] at HL
                    have HE : Hid (w.grownBy w5 none ∧ Rdr w5 R A n0 c (c0 + 0) ∧ Reads w5 R 1 A n0 (bv l)) := Lib.hid ⟨grown_in G1.out hg5 (by omega), hr5, hrd1.out.grown hg5 (by simp; omega) (fun g hg => by injection hg with hg; omega)⟩
                    clear hg5 hr5 C
                    go_wp2_with fail
                    refine (HL.out _ HE.out.2.1).mono ?_
                    rintro e w6 ⟨rfl, m6, rfl⟩
                    go_wp2_with fail
                    have HN : Hid (At w n0 n1 R c A l (.int .i64 (c0 : Int)) (.int .i64 ((j : Int) + 1)) (w5.drewN m6)) := Lib.hid ⟨j + 1, c0 + 0, by omega, by omega, by go_num, by go_num, only_drewN HE.out.1 m6, Blk.drewN HE.out.2.1 m6, HE.out.2.2.drewN m6⟩
                    go_roundw
                    case rel => first | exact HN.out | ((repeat apply Exists.intro); exact ⟨HN.out, rfl⟩)
                    case measure => simp [intOf]; omega
                  · have t1 : (K == 1) = false := by rw [beq_eq_false_iff_ne]; exact hk1
                    clear hk0 hk1
                    by_cases hxL : 0 < L
                    · have hno := Lib.hid hxL
                      have C := Lib.hid (CTn.out (by omega))
                      clear CU CI CTy CTn
                      go_wp2_with fail
                      refine C.out.mono ?_
                      rintro e w5 ⟨rfl, hg5, hr5⟩
                      have HL := Lib.hid fun W (h : Rdr W R A n0 c (c0 + 0)) => left_any A n0 c (c0 + 0) R W (by omega) (by omega) h
                      rw [show ((n0 - (c0 + 0) : Nat) : Int) = (n0 : Int) - (c0 : Int) by omega] at HL
                      have HE : Hid (w.grownBy w5 none ∧ Rdr w5 R A n0 c (c0 + 0) ∧ Reads w5 R 1 A n0 (bv l)) := Lib.hid ⟨grown_in G1.out hg5 (by omega), hr5, hrd1.out.grown hg5 (by simp; omega) (fun g hg => by injection hg with hg; omega)⟩
                      clear hg5 hr5 C
                      go_wp2_with fail
                      refine (HL.out _ HE.out.2.1).mono ?_
                      rintro e w6 ⟨rfl, m6, rfl⟩
                      go_wp2_with fail
                      have HN : Hid (At w n0 n1 R c A l (.int .i64 (c0 : Int)) (.int .i64 ((j : Int) + 1)) (w5.drewN m6)) := Lib.hid ⟨j + 1, c0 + 0, by omega, by omega, by go_num, by go_num, only_drewN HE.out.1 m6, Blk.drewN HE.out.2.1 m6, HE.out.2.2.drewN m6⟩
                      go_roundw
                      case rel => first | exact HN.out | ((repeat apply Exists.intro); exact ⟨HN.out, rfl⟩)
                      case measure => simp [intOf]; omega
                    · by_cases hxM : M < 0
                      · have hno := Lib.hid hxM
                        have C := Lib.hid (CTn.out (by omega))
                        clear CU CI CTy CTn
                        go_wp2_with fail
                        refine C.out.mono ?_
                        rintro e w5 ⟨rfl, hg5, hr5⟩
                        have HL := Lib.hid fun W (h : Rdr W R A n0 c (c0 + 0)) => left_any A n0 c (c0 + 0) R W (by omega) (by omega) h
                        rw [show ((n0 - (c0 + 0) : Nat) : Int) = (n0 : Int) - (c0 : Int) by omega] at HL
                        have HE : Hid (w.grownBy w5 none ∧ Rdr w5 R A n0 c (c0 + 0) ∧ Reads w5 R 1 A n0 (bv l)) := Lib.hid ⟨grown_in G1.out hg5 (by omega), hr5, hrd1.out.grown hg5 (by simp; omega) (fun g hg => by injection hg with hg; omega)⟩
                        clear hg5 hr5 C
                        go_wp2_with fail
                        refine (HL.out _ HE.out.2.1).mono ?_
                        rintro e w6 ⟨rfl, m6, rfl⟩
                        go_wp2_with fail
                        have HN : Hid (At w n0 n1 R c A l (.int .i64 (c0 : Int)) (.int .i64 ((j : Int) + 1)) (w5.drewN m6)) := Lib.hid ⟨j + 1, c0 + 0, by omega, by omega, by go_num, by go_num, only_drewN HE.out.1 m6, Blk.drewN HE.out.2.1 m6, HE.out.2.2.drewN m6⟩
                        go_roundw
                        case rel => first | exact HN.out | ((repeat apply Exists.intro); exact ⟨HN.out, rfl⟩)
                        case measure => simp [intOf]; omega
                      · have hno := Lib.hid hxM
                        have C := Lib.hid (CTn.out (by omega))
                        clear CU CI CTy CTn
                        go_wp2_with fail
                        refine C.out.mono ?_
                        rintro e w5 ⟨rfl, hg5, hr5⟩
                        have HL := Lib.hid fun W (h : Rdr W R A n0 c (c0 + 0)) => left_any A n0 c (c0 + 0) R W (by omega) (by omega) h
                        rw [show ((n0 - (c0 + 0) : Nat) : Int) = (n0 : Int) - (c0 : Int) by omega] at HL
                        have HE : Hid (w.grownBy w5 none ∧ Rdr w5 R A n0 c (c0 + 0) ∧ Reads w5 R 1 A n0 (bv l)) := Lib.hid ⟨grown_in G1.out hg5 (by omega), hr5, hrd1.out.grown hg5 (by simp; omega) (fun g hg => by injection hg with hg; omega)⟩
                        clear hg5 hr5 C
                        go_wp2_with fail
                        refine (HL.out _ HE.out.2.1).mono ?_
                        rintro e w6 ⟨rfl, m6, rfl⟩
                        go_wp2_with fail
                        have HN : Hid (At w n0 n1 R c A l (.int .i64 (c0 : Int)) (.int .i64 ((j : Int) + 1)) (w5.drewN m6)) := Lib.hid ⟨j + 1, c0 + 0, by omega, by omega, by go_num, by go_num, only_drewN HE.out.1 m6, Blk.drewN HE.out.2.1 m6, HE.out.2.2.drewN m6⟩
                        go_roundw
                        case rel => first | exact HN.out | ((repeat apply Exists.intro); exact ⟨HN.out, rfl⟩)
                        case measure => simp [intOf]; omega
              · have F := Lib.hid (F1b.out hcp)
                clear F1a F1b
                go_wp2_with fail
                refine F.out.mono ?_
                rintro e we ⟨rfl, rfl⟩
                clear F
                go_wp2_with fail
                refine (F2.out _).mono ?_
                rintro e we ⟨rfl, rfl⟩
                clear F2
                by_cases hk0 : K = 0
                · subst hk0
                  have C := Lib.hid (CU.out)
                  clear CU CI CTy CTn
                  go_wp2_with fail
                  refine C.out.mono ?_
                  rintro e w5 ⟨rfl, hg5, hr5⟩
                  have HL := Lib.hid fun W (h : Rdr W R A n0 c (p + 0)) => left_any A n0 c (p + 0) R W (by omega) (by omega) h
                  rw [show ((n0 - (p + 0) : Nat) : Int) = (n0 : Int) - (p : Int) by omega] at HL
                  have HE : Hid (w.grownBy w5 none ∧ Rdr w5 R A n0 c (p + 0) ∧ Reads w5 R 1 A n0 (bv l)) := Lib.hid ⟨grown_in G1.out hg5 (by omega), hr5, hrd1.out.grown hg5 (by simp; omega) (fun g hg => by injection hg with hg; omega)⟩
                  clear hg5 hr5 C
                  go_wp2_with fail
                  refine (HL.out _ HE.out.2.1).mono ?_
                  rintro e w6 ⟨rfl, m6, rfl⟩
                  go_wp2_with fail
                  have HN : Hid (At w n0 n1 R c A l (.int .i64 (p : Int)) (.int .i64 ((j : Int) + 1)) (w5.drewN m6)) := Lib.hid ⟨j + 1, p + 0, by omega, by omega, by go_num, by go_num, only_drewN HE.out.1 m6, Blk.drewN HE.out.2.1 m6, HE.out.2.2.drewN m6⟩
                  go_roundw
                  case rel => first | exact HN.out | ((repeat apply Exists.intro); exact ⟨HN.out, rfl⟩)
                  case measure => simp [intOf]; omega
                · have t0 : (K == 0) = false := by rw [beq_eq_false_iff_ne]; exact hk0
                  by_cases hk1 : K = 1
                  · subst hk1
                    clear hk0 t0
                    have C := Lib.hid (CI.out)
                    clear CU CI CTy CTn
                    go_wp2_with fail
                    refine C.out.mono ?_
                    rintro e w5 ⟨rfl, hg5, hr5⟩
                    have HL := Lib.hid fun W (h : Rdr W R A n0 c (p + 0)) => left_any A n0 c (p + 0) R W (by omega) (by omega) h
                    rw [show ((n0 - (p + 0) : Nat) : Int) = (n0 : Int) - (p : Int) by omega] at HL
                    have HE : Hid (w.grownBy w5 none ∧ Rdr w5 R A n0 c (p + 0) ∧ Reads w5 R 1 A n0 (bv l)) := Lib.hid ⟨grown_in G1.out hg5 (by omega), hr5, hrd1.out.grown hg5 (by simp; omega) (fun g hg => by injection hg with hg; omega)⟩
                    clear hg5 hr5 C
                    go_wp2_with fail
                    refine (HL.out _ HE.out.2.1).mono ?_
                    rintro e w6 ⟨rfl, m6, rfl⟩
                    go_wp2_with fail
                    have HN : Hid (At w n0 n1 R c A l (.int .i64 (p : Int)) (.int .i64 ((j : Int) + 1)) (w5.drewN m6)) := Lib.hid ⟨j + 1, p + 0, by omega, by omega, by go_num, by go_num, only_drewN HE.out.1 m6, Blk.drewN HE.out.2.1 m6, HE.out.2.2.drewN m6⟩
                    go_roundw
                    case rel => first | exact HN.out | ((repeat apply Exists.intro); exact ⟨HN.out, rfl⟩)
                    case measure => simp [intOf]; omega
                  · have t1 : (K == 1) = false := by rw [beq_eq_false_iff_ne]; exact hk1
                    clear hk0 hk1
                    by_cases hxL : 0 < L
                    · have hno := Lib.hid hxL
                      have C := Lib.hid (CTn.out (by omega))
                      clear CU CI CTy CTn
                      go_wp2_with fail
                      refine C.out.mono ?_
                      rintro e w5 ⟨rfl, hg5, hr5⟩
                      have HL := Lib.hid fun W (h : Rdr W R A n0 c (p + 0)) => left_any A n0 c (p + 0) R W (by omega) (by omega) h
                      rw [show ((n0 - (p + 0) : Nat) : Int) = (n0 : Int) - (p : Int) by omega] at HL
                      have HE : Hid (w.grownBy w5 none ∧ Rdr w5 R A n0 c (p + 0) ∧ Reads w5 R 1 A n0 (bv l)) := Lib.hid ⟨grown_in G1.out hg5 (by omega), hr5, hrd1.out.grown hg5 (by simp; omega) (fun g hg => by injection hg with hg; omega)⟩
                      clear hg5 hr5 C
                      go_wp2_with fail
                      refine (HL.out _ HE.out.2.1).mono ?_
                      rintro e w6 ⟨rfl, m6, rfl⟩
                      go_wp2_with fail
                      have HN : Hid (At w n0 n1 R c A l (.int .i64 (p : Int)) (.int .i64 ((j : Int) + 1)) (w5.drewN m6)) := Lib.hid ⟨j + 1, p + 0, by omega, by omega, by go_num, by go_num, only_drewN HE.out.1 m6, Blk.drewN HE.out.2.1 m6, HE.out.2.2.drewN m6⟩
                      go_roundw
                      case rel => first | exact HN.out | ((repeat apply Exists.intro); exact ⟨HN.out, rfl⟩)
                      case measure => simp [intOf]; omega
                    · by_cases hxM : M < 0
                      · have hno := Lib.hid hxM
                        have C := Lib.hid (CTn.out (by omega))
                        clear CU CI CTy CTn
                        go_wp2_with fail
                        refine C.out.mono ?_
                        rintro e w5 ⟨rfl, hg5, hr5⟩
                        have HL := Lib.hid fun W (h : Rdr W R A n0 c (p + 0)) => left_any A n0 c (p + 0) R W (by omega) (by omega) h
                        rw [show ((n0 - (p + 0) : Nat) : Int) = (n0 : Int) - (p : Int) by omega] at HL
                        have HE : Hid (w.grownBy w5 none ∧ Rdr w5 R A n0 c (p + 0) ∧ Reads w5 R 1 A n0 (bv l)) := Lib.hid ⟨grown_in G1.out hg5 (by omega), hr5, hrd1.out.grown hg5 (by simp; omega) (fun g hg => by injection hg with hg; omega)⟩
                        clear hg5 hr5 C
                        go_wp2_with fail
                        refine (HL.out _ HE.out.2.1).mono ?_
                        rintro e w6 ⟨rfl, m6, rfl⟩
                        go_wp2_with fail
                        have HN : Hid (At w n0 n1 R c A l (.int .i64 (p : Int)) (.int .i64 ((j : Int) + 1)) (w5.drewN m6)) := Lib.hid ⟨j + 1, p + 0, by omega, by omega, by go_num, by go_num, only_drewN HE.out.1 m6, Blk.drewN HE.out.2.1 m6, HE.out.2.2.drewN m6⟩
                        go_roundw
                        case rel => first | exact HN.out | ((repeat apply Exists.intro); exact ⟨HN.out, rfl⟩)
                        case measure => simp [intOf]; omega
                      · have hno := Lib.hid hxM
                        have C := Lib.hid (CTn.out (by omega))
                        clear CU CI CTy CTn
                        go_wp2_with fail
                        refine C.out.mono ?_
                        rintro e w5 ⟨rfl, hg5, hr5⟩
                        have HL := Lib.hid fun W (h : Rdr W R A n0 c (p + 0)) => left_any A n0 c (p + 0) R W (by omega) (by omega) h
                        rw [show ((n0 - (p + 0) : Nat) : Int) = (n0 : Int) - (p : Int) by omega] at HL
                        have HE : Hid (w.grownBy w5 none ∧ Rdr w5 R A n0 c (p + 0) ∧ Reads w5 R 1 A n0 (bv l)) := Lib.hid ⟨grown_in G1.out hg5 (by omega), hr5, hrd1.out.grown hg5 (by simp; omega) (fun g hg => by injection hg with hg; omega)⟩
                        clear hg5 hr5 C
                        go_wp2_with fail
                        refine (HL.out _ HE.out.2.1).mono ?_
                        rintro e w6 ⟨rfl, m6, rfl⟩
                        go_wp2_with fail
                        have HN : Hid (At w n0 n1 R c A l (.int .i64 (p : Int)) (.int .i64 ((j : Int) + 1)) (w5.drewN m6)) := Lib.hid ⟨j + 1, p + 0, by omega, by omega, by go_num, by go_num, only_drewN HE.out.1 m6, Blk.drewN HE.out.2.1 m6, HE.out.2.2.drewN m6⟩
                        go_roundw
                        case rel => first | exact HN.out | ((repeat apply Exists.intro); exact ⟨HN.out, rfl⟩)
                        case measure => simp [intOf]; omega
            · have hcp : ¬ c0 = p := by omega
              have F := Lib.hid (F1b.out hcp)
              have hQ1 : decide ((0 : Int) < (Q : Int)) = true := decide_eq_true (by omega)
              have hQ2 : ((Q : Int) == 0) = false := by rw [beq_eq_false_iff_ne]; omega
              rw [decide_eq_true hQ] at CU CI
              clear Z Z' F1a F1b
              go_wp2_with fail
              refine F.out.mono ?_
              rintro e we ⟨rfl, rfl⟩
              clear F
              go_wp2_with fail
              refine (F2.out _).mono ?_
              rintro e we ⟨rfl, rfl⟩
              clear F2
              by_cases hk0 : K = 0
              · subst hk0
                have C := Lib.hid (CU.out)
                clear CU CI CTy CTn
                go_wp2_with fail
                refine C.out.mono ?_
                rintro e w5 ⟨rfl, hg5, hr5⟩
                have HL := Lib.hid fun W (h : Rdr W R A n0 c (p + Q)) => left_any A n0 c (p + Q) R W (by omega) (by omega) h
                rw [show ((n0 - (p + Q) : Nat) : Int) = (n0 : Int) - ((p : Int) + (Q : Int)) by omega] at HL
                have HE : Hid (w.grownBy w5 none ∧ Rdr w5 R A n0 c (p + Q) ∧ Reads w5 R 1 A n0 (bv l)) := Lib.hid ⟨grown_in G1.out hg5 (by omega), hr5, hrd1.out.grown hg5 (by simp; omega) (fun g hg => by injection hg with hg; omega)⟩
                clear hg5 hr5 C
                go_wp2_with fail
                refine (HL.out _ HE.out.2.1).mono ?_
                rintro e w6 ⟨rfl, m6, rfl⟩
                go_wp2_with fail
                have HN : Hid (At w n0 n1 R c A l (.int .i64 ((p : Int) + (Q : Int))) (.int .i64 ((j : Int) + 1)) (w5.drewN m6)) := Lib.hid ⟨j + 1, p + Q, by omega, by omega, by go_num, by go_num, only_drewN HE.out.1 m6, Blk.drewN HE.out.2.1 m6, HE.out.2.2.drewN m6⟩
                go_roundw
                case rel => first | exact HN.out | ((repeat apply Exists.intro); exact ⟨HN.out, rfl⟩)
                case measure => simp [intOf]; omega
              · have t0 : (K == 0) = false := by rw [beq_eq_false_iff_ne]; exact hk0
                by_cases hk1 : K = 1
                · subst hk1
                  clear hk0 t0
                  have C := Lib.hid (CI.out)
                  clear CU CI CTy CTn
                  go_wp2_with fail
                  refine C.out.mono ?_
                  rintro e w5 ⟨rfl, hg5, hr5⟩
                  have HL := Lib.hid fun W (h : Rdr W R A n0 c (p + Q)) => left_any A n0 c (p + Q) R W (by omega) (by omega) h
                  rw [show ((n0 - (p + Q) : Nat) : Int) = (n0 : Int) - ((p : Int) + (Q : Int)) by omega] at HL
                  have HE : Hid (w.grownBy w5 none ∧ Rdr w5 R A n0 c (p + Q) ∧ Reads w5 R 1 A n0 (bv l)) := Lib.hid ⟨grown_in G1.out hg5 (by omega), hr5, hrd1.out.grown hg5 (by simp; omega) (fun g hg => by injection hg with hg; omega)⟩
                  clear hg5 hr5 C
                  go_wp2_with fail
                  refine (HL.out _ HE.out.2.1).mono ?_
                  rintro e w6 ⟨rfl, m6, rfl⟩
                  go_wp2_with fail
                  have HN : Hid (At w n0 n1 R c A l (.int .i64 ((p : Int) + (Q : Int))) (.int .i64 ((j : Int) + 1)) (w5.drewN m6)) := Lib.hid ⟨j + 1, p + Q, by omega, by omega, by go_num, by go_num, only_drewN HE.out.1 m6, Blk.drewN HE.out.2.1 m6, HE.out.2.2.drewN m6⟩
                  go_roundw
                  case rel => first | exact HN.out | ((repeat apply Exists.intro); exact ⟨HN.out, rfl⟩)
                  case measure => simp [intOf]; omega
                · have t1 : (K == 1) = false := by rw [beq_eq_false_iff_ne]; exact hk1
                  clear hk0 hk1
                  by_cases hxL : x < L
                  · have hno := Lib.hid hxL
                    have C := Lib.hid (CTn.out (by omega))
                    clear CU CI CTy CTn
                    go_wp2_with fail
                    refine C.out.mono ?_
                    rintro e w5 ⟨rfl, hg5, hr5⟩
                    have HL := Lib.hid fun W (h : Rdr W R A n0 c (p + 0)) => left_any A n0 c (p + 0) R W (by omega) (by omega) h
                    rw [show ((n0 - (p + 0) : Nat) : Int) = (n0 : Int) - (p : Int) by omega] at HL
                    have HE : Hid (w.grownBy w5 none ∧ Rdr w5 R A n0 c (p + 0) ∧ Reads w5 R 1 A n0 (bv l)) := Lib.hid ⟨grown_in G1.out hg5 (by omega), hr5, hrd1.out.grown hg5 (by simp; omega) (fun g hg => by injection hg with hg; omega)⟩
                    clear hg5 hr5 C
                    go_wp2_with fail
                    refine (HL.out _ HE.out.2.1).mono ?_
                    rintro e w6 ⟨rfl, m6, rfl⟩
                    go_wp2_with fail
                    have HN : Hid (At w n0 n1 R c A l (.int .i64 (p : Int)) (.int .i64 ((j : Int) + 1)) (w5.drewN m6)) := Lib.hid ⟨j + 1, p + 0, by omega, by omega, by go_num, by go_num, only_drewN HE.out.1 m6, Blk.drewN HE.out.2.1 m6, HE.out.2.2.drewN m6⟩
                    go_roundw
                    case rel => first | exact HN.out | ((repeat apply Exists.intro); exact ⟨HN.out, rfl⟩)
                    case measure => simp [intOf]; omega
                  · by_cases hxM : M < x
                    · have hno := Lib.hid hxM
                      have C := Lib.hid (CTn.out (by omega))
                      clear CU CI CTy CTn
                      go_wp2_with fail
                      refine C.out.mono ?_
                      rintro e w5 ⟨rfl, hg5, hr5⟩
                      have HL := Lib.hid fun W (h : Rdr W R A n0 c (p + 0)) => left_any A n0 c (p + 0) R W (by omega) (by omega) h
                      rw [show ((n0 - (p + 0) : Nat) : Int) = (n0 : Int) - (p : Int) by omega] at HL
                      have HE : Hid (w.grownBy w5 none ∧ Rdr w5 R A n0 c (p + 0) ∧ Reads w5 R 1 A n0 (bv l)) := Lib.hid ⟨grown_in G1.out hg5 (by omega), hr5, hrd1.out.grown hg5 (by simp; omega) (fun g hg => by injection hg with hg; omega)⟩
                      clear hg5 hr5 C
                      go_wp2_with fail
                      refine (HL.out _ HE.out.2.1).mono ?_
                      rintro e w6 ⟨rfl, m6, rfl⟩
                      go_wp2_with fail
                      have HN : Hid (At w n0 n1 R c A l (.int .i64 (p : Int)) (.int .i64 ((j : Int) + 1)) (w5.drewN m6)) := Lib.hid ⟨j + 1, p + 0, by omega, by omega, by go_num, by go_num, only_drewN HE.out.1 m6, Blk.drewN HE.out.2.1 m6, HE.out.2.2.drewN m6⟩
                      go_roundw
                      case rel => first | exact HN.out | ((repeat apply Exists.intro); exact ⟨HN.out, rfl⟩)
                      case measure => simp [intOf]; omega
                    · have hno := Lib.hid hxM
                      have C := Lib.hid (CTy.out ⟨hQ, by omega, by omega⟩)
                      clear CU CI CTy CTn
                      go_wp2_with fail
                      refine C.out.mono ?_
                      rintro e w5 ⟨rfl, hg5, hr5⟩
                      have HL := Lib.hid fun W (h : Rdr W R A n0 c (p + Q)) => left_any A n0 c (p + Q) R W (by omega) (by omega) h
                      rw [show ((n0 - (p + Q) : Nat) : Int) = (n0 : Int) - ((p : Int) + (Q : Int)) by omega] at HL
                      have HE : Hid (w.grownBy w5 none ∧ Rdr w5 R A n0 c (p + Q) ∧ Reads w5 R 1 A n0 (bv l)) := Lib.hid ⟨grown_in G1.out hg5 (by omega), hr5, hrd1.out.grown hg5 (by simp; omega) (fun g hg => by injection hg with hg; omega)⟩
                      clear hg5 hr5 C
                      go_wp2_with fail
                      refine (HL.out _ HE.out.2.1).mono ?_
                      rintro e w6 ⟨rfl, m6, rfl⟩
                      go_wp2_with fail
                      have HN : Hid (At w n0 n1 R c A l (.int .i64 ((p : Int) + (Q : Int))) (.int .i64 ((j : Int) + 1)) (w5.drewN m6)) := Lib.hid ⟨j + 1, p + Q, by omega, by omega, by go_num, by go_num, only_drewN HE.out.1 m6, Blk.drewN HE.out.2.1 m6, HE.out.2.2.drewN m6⟩
                      go_roundw
                      case rel => first | exact HN.out | ((repeat apply Exists.intro); exact ⟨HN.out, rfl⟩)
                      case measure => simp [intOf]; omega
        · have hjn' : ¬ j < n1 := hjn
          have HB := Lib.hid G
          clear G hr hrd
          go_wp2_with fail
          go_ret
          exact ⟨rfl, below_of_grown HB.out⟩

set_option maxRecDepth 100000 in
theorem lifted (os : Os) (started : os.Started) (H : Type) (enc : TypeId × Value → H) :
    ReturnsInHanded {} Try.checked os 7 .any (Rows.wireReadsSpec.pre6 enc Try.prog Try.f7 Rows.wireReadsRow.domain false) (Rows.wireReadsSpec.post enc Try.prog Try.f7 false true false false) := by
  refine returnsInHanded_of_change_sized (C := Try.checked) own started (by kernel_rfl) Try.func7
    (ChangeSpec.witness6 (enc := enc) (C := Try.checked) false ⟨#[], #[.slice none 0 0, .slice none 0 0], []⟩ 8 (by kernel_rfl) (by kernel_rfl) (by kernel_rfl) (by kernel_rfl)) ?_
  intro W base args ds gs before hval0 hW hcnd hsz0 _
  have hsz : (DataW.weightsEach Try.prog (Try.f7.params.toList ++ Rows.wireReadsSpec.plain.varTypes Try.prog) (ds ++ gs)).all (· ≤ reachBytes) = true := hsz0
  clear hsz0
  have hval : ∀ (j : Nat) t v, Try.f7.params[j]? = some t → args[j]? = some v → Value.okWide Try.prog W .any base t v := hval0
  have hW' := hW
  obtain ⟨p, q, hA0, hV, rfl, hfz, hnd⟩ := hW
  have hA : DataW.TrodAll enc Try.prog W 0 (fun _ => true) true Try.f7.params.toList args.toList ds p := hA0
  rw [Try.params7] at hA hval hsz
  obtain ⟨v0, vs0, d0, ds0, p0, q0, hargs, rfl, rfl, h0, r0⟩ := trodAll_cons hA
  obtain ⟨v1, vs1, d1, ds1, p1, q1, rfl, rfl, rfl, h1, r1⟩ := trodAll_cons r0
  obtain ⟨rfl, rfl, rfl⟩ := trodAll_nil r1
  obtain rfl : args = #[v0, v1] := by cases args; simp_all
  obtain ⟨rfl, rfl⟩ := trodVars_none hV
  clear hA0 hval0
  obtain ⟨a0, n0, c0, rfl⟩ := okWide_slice Try.underlying22 (hval 0 22 v0 rfl rfl)
  have k0 := h0
  have lt0 : ∀ x ∈ p0, x.block < W.heap.size := by obtain ⟨m, hm⟩ := k0; exact DataW.trod_lt m _ _ _ hm
  obtain ⟨z0, w0⟩ : ∃ zs, InRow .u8 1 W a0 n0 c0 zs := by
    obtain ⟨fuel, hf⟩ := h0
    rcases open_ints Try.underlying22 Try.underlying5 (by kernel_rfl) hf with ⟨hcs, _⟩ | ⟨x, l, c, zs, hcs, _, hl, hm, hz, hx, hcell, hwz⟩
    · simp [Value.cells] at hcs
      obtain ⟨rfl, rfl, rfl⟩ := hcs
      exact ⟨[], InRow.nil _ _ _⟩
    · simp [Value.cells] at hcs
      obtain ⟨rfl, rfl, rfl⟩ := hcs
      simp only [Prod.mk.injEq] at hx
      obtain ⟨rfl, rfl⟩ := hx
      simp only [if_true] at hz
      have hs := sized_slice hsz (j := 0) (t := 22) (e := 5) rfl rfl Try.underlying22
      rw [show Try.prog.bytesOf 5 = 1 by kernel_rfl] at hs
      simp only [lits, List.length_map, List.length_take, List.length_drop, reachBytes] at hs
      exact ⟨zs.take _, InRow.of_open hl hm hz (by omega) hcell hwz (fun y hy => lt0 y hy)⟩
  obtain ⟨a1, n1, c1, rfl⟩ := okWide_slice Try.underlying41 (hval 1 41 v1 rfl rfl)
  have k1 := h1
  have lt1 : ∀ x ∈ p1, x.block < W.heap.size := by obtain ⟨m, hm⟩ := k1; exact DataW.trod_lt m _ _ _ hm
  obtain ⟨z1_0, z1_1, z1_2, w1, x1_0, x1_1, x1_2⟩ : ∃ (z1_0 : Nat → Int) (z1_1 : Nat → Int) (z1_2 : Nat → Int), InCells 3 24 W a1 n1 c1 (fun i j => match j with | 0 => Value.int .i64 (z1_0 i) | 1 => Value.int .i64 (z1_1 i) | _ => Value.int .i64 (z1_2 i)) ∧ (∀ i, i < n1 → (Lit.int .i64 (z1_0 i)).wf = true) ∧ (∀ i, i < n1 → (Lit.int .i64 (z1_1 i)).wf = true) ∧ (∀ i, i < n1 → (Lit.int .i64 (z1_2 i)).wf = true) := by
    obtain ⟨fuel, hf⟩ := h1
    rcases open_cells Try.underlying41 Try.underlying43 (by kernel_rfl) (by kernel_rfl) (by decide) hf lt1 with ⟨hcs, _⟩ | ⟨A', l, c, D, V, hcs, hl, hm, hx, hin, hfl⟩
    · simp [Value.cells] at hcs
      obtain ⟨rfl, rfl, rfl⟩ := hcs
      exact ⟨fun _ => 0, fun _ => 0, fun _ => 0, InCells.nil _ _ _ _, fun i hi => absurd hi (by omega), fun i hi => absurd hi (by omega), fun i hi => absurd hi (by omega)⟩
    · simp [Value.cells] at hcs
      obtain ⟨rfl, rfl, rfl⟩ := hcs
      have hx : d1 = _ := hx
      subst hx
      have hs := sized_slice hsz (j := 1) (t := 41) (e := 43) rfl rfl Try.underlying41
      rw [show Try.prog.bytesOf 43 = 24 by kernel_rfl] at hs
      simp only [List.length_map, List.length_range, reachBytes] at hs
      obtain ⟨z1_0, g0⟩ := ints_of (V := fun i => V i 0) Try.underlying3 (fun i hi => hfl 0 _ rfl i hi)
      obtain ⟨z1_1, g1⟩ := ints_of (V := fun i => V i 1) Try.underlying2 (fun i hi => hfl 1 _ rfl i hi)
      obtain ⟨z1_2, g2⟩ := ints_of (V := fun i => V i 2) Try.underlying2 (fun i hi => hfl 2 _ rfl i hi)
      have hin := hin 24 (by omega)
      refine ⟨z1_0, z1_1, z1_2, ⟨hin.len, hin.cap, hin.reach, fun hn => ?_⟩, fun i hi => (g0 i hi).2, fun i hi => (g1 i hi).2, fun i hi => (g2 i hi).2⟩
      obtain ⟨b, off, hA, hb, hc⟩ := hin.at_ hn
      refine ⟨b, off, hA, hb, fun i j hi hj => ?_⟩
      refine (hc i j hi hj).trans (congrArg some (Eq.symm ?_))
      match j, hj with
        | 0, _ => exact ((g0 i hi).1).symm
        | 1, _ => exact ((g1 i hi).1).symm
        | 2, _ => exact ((g2 i hi).1).symm
  simp only [List.append_nil] at hW'
  refine (walk W a0 n0 c0 z0 w0 a1 n1 c1 z1_0 z1_1 z1_2 w1 x1_0 x1_1 x1_2).mono fun e W' ⟨he, bel⟩ => ?_
  subst he
  exact ⟨_, rfl, _, _, _, [], _, [], hW', trodAll_mk1 (shut_bool Try.underlying4 _), (trodAll_cons_mk (Below.trod laidOut (by kernel_rfl) (of_decide_eq_true (by kernel_rfl)) k0 bel lt0) (trodAll_cons_mk (Below.trod laidOut (by kernel_rfl) (of_decide_eq_true (by kernel_rfl)) k1 bel lt1) trodAll_mk0)), rfl, bel.frame _, fun h => by cases h⟩

theorem proved : Rows.WireReadsSaid :=
  OpenClaim.holds_of_wide 7 Try.f7 rfl rfl rfl rfl rfl rfl rfl ⟨rfl, rfl, rfl, rfl, rfl⟩ rfl rfl rfl rfl rfl (by kernel_rfl) Try.func7 (by kernel_rfl)
    (of_decide_eq_true (by kernel_rfl)) (by unfold Func.isWrapper; rw [if_neg (of_decide_eq_false (by kernel_rfl))]; exact ⟨rfl, rfl⟩)
    (fun os started H enc _ => lifted os started H enc)
#print axioms proved
end Go.Proofs.Ytlccikpmnhjfoaa.wireReads

/-
  WireOne: for every input the Go function answers true, and the input reads as it did. No condition.
-/
import Derived.Test.YtlccikpmnhjfoaaRows
import Derived.Test.YtlccikpmnhjfoaaRow
import Derived.Test.YtlccikpmnhjfoaaConv
import Derived.Deep.DrawnRows
import Derived.Deep.QuietTactic
import Derived.BigQuiet
import Derived.WalkSpells
namespace Go.Proofs.Ytlccikpmnhjfoaa.wireOne
open Go.ChangeShapes Go.WideShapes Go.ChangeAt Go.RowKit
open Go.ChangeMaps (open_string shut_string)
set_option linter.unusedVariables false
set_option linter.unusedSimpArgs false

theorem own : ownKnob Try.prog.godebug = none := by kernel_rfl
theorem laidOut : laidOutB Try.prog = true := by kernel_rfl

attribute [local go_sem ↓] Go.wp_at_zero Go.wp_at_succ
set_option maxHeartbeats 8000000 in
/-- the walk: the Go text answers true and writes nothing that was there -/
theorem walk (w : World) (a0 : Option Addr) (n0 c0 : Nat) (z0 : List Int) (w0 : InRow .u8 1 w a0 n0 c0 z0) (a1 : Int) (w1 : (Lit.int .u64 a1).wf = true) (a2 : Int) (w2 : (Lit.int .u64 a2).wf = true) :
    Calls Try.prog 4 #[.slice a0 n0 c0, .int .u64 a1, .int .u64 a2] w fun e w' => e = .returned (.bool true) ∧ Below w.heap.size w w' := by
  obtain ⟨l, hl, hc, hm, hR⟩ := w0.bytes
  obtain ⟨p0, p1⟩ := bd_u64 w1
  obtain ⟨q0, q1⟩ := bd_u64 w2
  obtain ⟨n, rfl⟩ : ∃ n : Nat, a1 = n := ⟨a1.toNat, by omega⟩
  obtain ⟨m, rfl⟩ : ∃ m : Nat, a2 = m := ⟨a2.toNat, by omega⟩
  go_enter Try.func4, Try.ntmps4
  go_wp2_with fail
  refine (open_any a0 n0 c0 l w hl (by omega) hR).mono ?_
  rintro e w3 ⟨R, A, c, rfl, hRw, hr, hrd, hown, hb⟩
  have G3 := Lib.hid (only_of_below hb none)
  have HR := Lib.hid (hR.below hb)
  have U := Lib.hid (runint_any A n0 c 0 R l w3 hl (by omega) (by omega) hr hrd)
  clear hr hrd hown hb hR
  go_wp2_with fail
  refine U.out.mono ?_
  rintro e w4 ⟨rfl, hg4, hr4⟩
  have G4 := Lib.hid (grown_in G3.out hg4 hRw)
  have HR4 := Lib.hid (HR.out.grown hg4 G3.out.size (fun g hg => by injection hg with hg; omega))
  rw [List.drop_zero, Nat.zero_add] at hr4
  rw [List.drop_zero]
  go_upto_region 3 with fail
  go_cut [8, 9, 48] (fun s8 s9 s48 wx => s48 = .bool false ∧ w.grownBy wx none)
  case first =>
    rcases hd : dec l with _ | ⟨v, k⟩
    · rw [(fst_none hd).2] at hr4
      rw [(fst_none hd).1, (fst_none hd).2, show decide (0 < 0) = false from rfl]
      have HK : Hid (Rdr w4.drew R A n0 c 0) := Lib.hid hr4
      have V := Lib.hid (fun W (h : Rdr W R A n0 c 0) => left_any A n0 c 0 R W (by omega) (by omega) h)
      have G := Lib.hid (only_drew G4.out)
      rw [Nat.sub_zero] at V
      clear U HR hr4 G3 G4 HR4
      refine wp_region_any (by kernel_rfl) ?_
      change wpAny _ _ _ _ _ _ _ (World.drew _)
      refine wpAny_ready (rs := [0]) (by kernel_rfl) (by simp) ?_
      refine AllReady.cons rfl (fun K hK => ?_) AllReady.nil
      go_simp
      go_wp2_with (go_at_call 9; refine (awake_any _).mono ?_; rintro e w' ⟨rfl, hg⟩; replace HK := Lib.hid (Blk.grown HK.out hg (by simp)); replace G := Lib.hid (grown_tr G.out hg); clear hg)
      refine wpAny_take (i := 1) (v := ?_) rfl (by kernel_rfl) (by kernel_rfl) (by kernel_rfl) (fun _ _ _ h => h) (Or.inl ⟨by kernel_rfl, ?_⟩) ?_
      rotate_left
      · (intro w'; go_simp; try with_reducible rfl)
      refine wpAny_take (i := 2) (v := ?_) rfl (by kernel_rfl) (by kernel_rfl) (by kernel_rfl) (fun _ _ _ h => h) (Or.inl ⟨by kernel_rfl, ?_⟩) ?_
      rotate_left
      · (intro w'; go_simp; try with_reducible rfl)
      refine wpAny_take (i := 3) (v := ?_) rfl (by kernel_rfl) (by kernel_rfl) (by kernel_rfl) (fun _ _ _ h => h) (Or.inl ⟨by kernel_rfl, ?_⟩) ?_
      rotate_left
      · (intro w'; go_simp; try with_reducible rfl)
      refine wpAny_take (i := 4) (v := ?_) rfl (by kernel_rfl) (by kernel_rfl) (by kernel_rfl) (fun _ _ _ h => h) (Or.inl ⟨by kernel_rfl, ?_⟩) ?_
      rotate_left
      · (intro w'; go_simp; try with_reducible rfl)
      refine wpAny_take (i := 5) (v := undef) rfl (by kernel_rfl) (by kernel_rfl) (by kernel_rfl) (fun _ _ _ h => h) (Or.inr ⟨by kernel_rfl, rfl⟩) ?_
      refine wpAny_take (i := 6) (v := undef) rfl (by kernel_rfl) (by kernel_rfl) (by kernel_rfl) (fun _ _ _ h => h) (Or.inr ⟨by kernel_rfl, rfl⟩) ?_
      refine wpAny_take (i := 7) (v := undef) rfl (by kernel_rfl) (by kernel_rfl) (by kernel_rfl) (fun _ _ _ h => h) (Or.inr ⟨by kernel_rfl, rfl⟩) ?_
      refine wpAny_take (i := 8) (v := undef) rfl (by kernel_rfl) (by kernel_rfl) (by kernel_rfl) (fun _ _ _ h => h) (Or.inr ⟨by kernel_rfl, rfl⟩) ?_
      refine wpAny_take (i := 9) (v := undef) rfl (by kernel_rfl) (by kernel_rfl) (by kernel_rfl) (fun _ _ _ h => h) (Or.inr ⟨by kernel_rfl, rfl⟩) ?_
      refine wpAny_take (i := 10) (v := undef) rfl (by kernel_rfl) (by kernel_rfl) (by kernel_rfl) (fun _ _ _ h => h) (Or.inr ⟨by kernel_rfl, rfl⟩) ?_
      refine wpAny_take (i := 11) (v := undef) rfl (by kernel_rfl) (by kernel_rfl) (by kernel_rfl) (fun _ _ _ h => h) (Or.inr ⟨by kernel_rfl, rfl⟩) ?_
      refine wpAny_take (i := 12) (v := undef) rfl (by kernel_rfl) (by kernel_rfl) (by kernel_rfl) (fun _ _ _ h => h) (Or.inr ⟨by kernel_rfl, rfl⟩) ?_
      refine wpAny_take (i := 13) (v := undef) rfl (by kernel_rfl) (by kernel_rfl) (by kernel_rfl) (fun _ _ _ h => h) (Or.inr ⟨by kernel_rfl, rfl⟩) ?_
      refine wpAny_take (i := 14) (v := undef) rfl (by kernel_rfl) (by kernel_rfl) (by kernel_rfl) (fun _ _ _ h => h) (Or.inr ⟨by kernel_rfl, rfl⟩) ?_
      refine wpAny_take (i := 15) (v := undef) rfl (by kernel_rfl) (by kernel_rfl) (by kernel_rfl) (fun _ _ _ h => h) (Or.inr ⟨by kernel_rfl, rfl⟩) ?_
      refine wpAny_take (i := 16) (v := undef) rfl (by kernel_rfl) (by kernel_rfl) (by kernel_rfl) (fun _ _ _ h => h) (Or.inr ⟨by kernel_rfl, rfl⟩) ?_
      refine wpAny_take (i := 17) (v := ?_) rfl (by kernel_rfl) (by kernel_rfl) (by kernel_rfl) (fun _ _ _ h => h) (Or.inl ⟨by kernel_rfl, ?_⟩) ?_
      rotate_left
      · (intro w'; go_simp; try with_reducible rfl)
      refine wpAny_take (i := 18) (v := ?_) rfl (by kernel_rfl) (by kernel_rfl) (by kernel_rfl) (fun _ _ _ h => h) (Or.inl ⟨by kernel_rfl, ?_⟩) ?_
      rotate_left
      · (intro w'; go_simp; try with_reducible rfl)
      refine wpAny_take (i := 19) (v := ?_) rfl (by kernel_rfl) (by kernel_rfl) (by kernel_rfl) (fun _ _ _ h => h) (Or.inl ⟨by kernel_rfl, ?_⟩) ?_
      rotate_left
      · (intro w'; go_simp; try with_reducible rfl)
      refine wpAny_take (i := 20) (v := ?_) rfl (by kernel_rfl) (by kernel_rfl) (by kernel_rfl) (fun _ _ _ h => h) (Or.inl ⟨by kernel_rfl, ?_⟩) ?_
      rotate_left
      · (intro w'; go_simp; try with_reducible rfl)
      refine wpAny_take (i := 21) (v := ?_) rfl (by kernel_rfl) (by kernel_rfl) (by kernel_rfl) (fun _ _ _ h => h) (Or.inl ⟨by kernel_rfl, ?_⟩) ?_
      rotate_left
      · (intro w'; go_simp; try with_reducible rfl)
      refine wpAny_take (i := 22) (v := ?_) rfl (by kernel_rfl) (by kernel_rfl) (by kernel_rfl) (fun _ _ _ h => h) (Or.inl ⟨by kernel_rfl, ?_⟩) ?_
      rotate_left
      · (intro w'; go_simp; try with_reducible rfl)
      refine wpAny_take (i := 23) (v := ?_) rfl (by kernel_rfl) (by kernel_rfl) (by kernel_rfl) (fun _ _ _ h => h) (Or.inl ⟨by kernel_rfl, ?_⟩) ?_
      rotate_left
      · (intro w'; go_simp; try with_reducible rfl)
      refine wpAny_take (i := 25) (v := ?_) rfl (by kernel_rfl) (by kernel_rfl) (by kernel_rfl) (fun _ _ _ h => h) (Or.inl ⟨by kernel_rfl, ?_⟩) ?_
      rotate_left
      · (intro w'; go_simp; try with_reducible rfl)
      refine wpAny_take (i := 26) (v := ?_) rfl (by kernel_rfl) (by kernel_rfl) (by kernel_rfl) (fun _ _ _ h => h) (Or.inl ⟨by kernel_rfl, ?_⟩) ?_
      rotate_left
      · (intro w'; go_simp; try with_reducible rfl)
      refine wpAny_ready (rs := [24]) (by kernel_rfl) (by simp) ?_
      refine AllReady.cons rfl (fun K hK => ?_) AllReady.nil
      go_simp
      go_wp2_with (go_at_call 15; refine (V.out _ HK.out).mono ?_; rintro e w' ⟨rfl, mm, rfl⟩; replace G := Lib.hid (only_drewN G.out mm); replace HK := Lib.hid (Blk.drewN HK.out mm))
      refine wpAny_take (i := 27) (v := ?_) rfl (by kernel_rfl) (by kernel_rfl) (by kernel_rfl) (fun _ _ _ h => h) (Or.inl ⟨by kernel_rfl, ?_⟩) ?_
      rotate_left
      · (intro w'; go_simp; try with_reducible rfl)
      refine wpAny_take (i := 28) (v := ?_) rfl (by kernel_rfl) (by kernel_rfl) (by kernel_rfl) (fun _ _ _ h => h) (Or.inl ⟨by kernel_rfl, ?_⟩) ?_
      rotate_left
      · (intro w'; go_simp; try with_reducible rfl)
      refine wpAny_take (i := 29) (v := ?_) rfl (by kernel_rfl) (by kernel_rfl) (by kernel_rfl) (fun _ _ _ h => h) (Or.inl ⟨by kernel_rfl, ?_⟩) ?_
      rotate_left
      · (intro w'; go_simp; try with_reducible rfl)
      refine wpAny_done (by kernel_rfl) ?_ _
      go_wp2_with fail
      go_meet
      exact ⟨rfl, G.out⟩
    · obtain ⟨hkl, htk, hkv, hv⟩ := dec_take hd
      rw [(fst_some hd).2] at hr4
      rw [(fst_some hd).1, (fst_some hd).2]
      have hk1 := dec_pos hd
      rw [show decide (0 < k) = true from decide_eq_true (by omega)]
      have HK : Hid (Rdr w4.drew R A n0 c k) := Lib.hid hr4
      have HB : Hid (Reads w4.drew w.heap.size 1 a0 n0 (bv l)) := Lib.hid HR4.out
      have V := Lib.hid (fun W (h : Rdr W R A n0 c k) => left_any A n0 c k R W (by omega) (by omega) h)
      have U1 := Lib.hid fun W => uint_any v W hv
      have G := Lib.hid (only_drew G4.out)
      obtain ⟨L, hL⟩ : ∃ L : Int, ((n0 - k : Nat) : Int) = L := ⟨_, rfl⟩
      have s1 : IntKind.i64.wrap ((n0 : Int) - L) = (k : Int) := by rw [← hL, IntKind.wrap_i64]; omega
      have s2 : (n0 : Int) - L = (k : Int) := by omega
      have s0 : IntKind.i64.wrap (k : Int) = (k : Int) := by rw [IntKind.wrap_i64]; omega
      have s3 : (0 : Int) ≤ (k : Int) := by omega
      have s4 : (k : Int) ≤ (c0 : Int) := by omega
      have hkn : k ≤ n0 := by omega
      rw [hL] at V
      have L1 := vb_len v
      obtain ⟨la, hla⟩ : ∃ la, vb v = la := ⟨_, rfl⟩
      rw [hla] at U1 L1 htk hkv
      obtain ⟨na, hna⟩ : ∃ na, la.length = na := ⟨_, rfl⟩
      rw [hna] at L1 hkv
      have HT : Hid (l.take k = la) := Lib.hid htk
      have HLN := Lib.hid hl
      have HNA := Lib.hid hna
      have HKV : Hid (k = na) := Lib.hid hkv
      clear U HR hr4 G3 G4 HR4 hd hL htk hkv hkl hla hl hna
      refine wp_region_any (by kernel_rfl) ?_
      change wpAny _ _ _ _ _ _ _ (World.drew _)
      refine wpAny_ready (rs := [0]) (by kernel_rfl) (by simp) ?_
      refine AllReady.cons rfl (fun K hK => ?_) AllReady.nil
      go_simp
      go_wp2_with (go_at_call 9; refine (awake_any _).mono ?_; rintro e w' ⟨rfl, hg⟩; replace HK := Lib.hid (Blk.grown HK.out hg (by simp)); replace HB := Lib.hid (HB.out.grown hg G.out.size (fun g hg => by cases hg)); replace G := Lib.hid (grown_tr G.out hg); clear hg)
      refine wpAny_take (i := 1) (v := ?_) rfl (by kernel_rfl) (by kernel_rfl) (by kernel_rfl) (fun _ _ _ h => h) (Or.inl ⟨by kernel_rfl, ?_⟩) ?_
      rotate_left
      · (intro w'; go_simp; try with_reducible rfl)
      refine wpAny_take (i := 2) (v := ?_) rfl (by kernel_rfl) (by kernel_rfl) (by kernel_rfl) (fun _ _ _ h => h) (Or.inl ⟨by kernel_rfl, ?_⟩) ?_
      rotate_left
      · (intro w'; go_simp; try with_reducible rfl)
      refine wpAny_take (i := 3) (v := ?_) rfl (by kernel_rfl) (by kernel_rfl) (by kernel_rfl) (fun _ _ _ h => h) (Or.inl ⟨by kernel_rfl, ?_⟩) ?_
      rotate_left
      · (intro w'; go_simp; try with_reducible rfl)
      refine wpAny_take (i := 4) (v := ?_) rfl (by kernel_rfl) (by kernel_rfl) (by kernel_rfl) (fun _ _ _ h => h) (Or.inl ⟨by kernel_rfl, ?_⟩) ?_
      rotate_left
      · (intro w'; go_simp; try with_reducible rfl)
      refine wpAny_take (i := 5) (v := ?_) rfl (by kernel_rfl) (by kernel_rfl) (by kernel_rfl) (fun _ _ _ h => h) (Or.inl ⟨by kernel_rfl, ?_⟩) ?_
      rotate_left
      · (intro w'; go_simp; try with_reducible rfl)
      refine wpAny_take (i := 8) (v := ?_) rfl (by kernel_rfl) (by kernel_rfl) (by kernel_rfl) (fun _ _ _ h => h) (Or.inl ⟨by kernel_rfl, ?_⟩) ?_
      rotate_left
      · (intro w'; go_simp; try with_reducible rfl)
      refine wpAny_take (i := 9) (v := ?_) rfl (by kernel_rfl) (by kernel_rfl) (by kernel_rfl) (fun _ _ _ h => h) (Or.inl ⟨by kernel_rfl, ?_⟩) ?_
      rotate_left
      · (intro w'; go_simp; try with_reducible rfl)
      refine wpAny_take (i := 10) (v := ?_) rfl (by kernel_rfl) (by kernel_rfl) (by kernel_rfl) (fun _ _ _ h => h) (Or.inl ⟨by kernel_rfl, ?_⟩) ?_
      rotate_left
      · (intro w'; go_simp; try with_reducible rfl)
      refine wpAny_take (i := 11) (v := ?_) rfl (by kernel_rfl) (by kernel_rfl) (by kernel_rfl) (fun _ _ _ h => h) (Or.inl ⟨by kernel_rfl, ?_⟩) ?_
      rotate_left
      · (intro w'; go_simp; try with_reducible rfl)
      refine wpAny_ready (rs := [6]) (by kernel_rfl) (by simp) ?_
      refine AllReady.cons rfl (fun K hK => ?_) ?_
      · skip
        go_simp
        go_wp2_with (go_at_call 14; refine (U1.out _).mono ?_; rintro e w' ⟨g3, k3, rfl, o3, b3⟩; rw [HNA.out] at o3 ⊢; have K1 := Lib.hid (Kept.of_own o3 (by omega)); replace HK := Lib.hid (HK.out.below b3 (Blk.lt HK.out)); replace HB := Lib.hid (HB.out.keep fun q hq => b3.cell (p := q) (Nat.lt_of_lt_of_le hq G.out.size)); replace G := Lib.hid (grown_below G.out b3); clear o3 b3)
        refine wpAny_ready (rs := [7, 12]) (by kernel_rfl) (by simp) ?_
        refine AllReady.cons rfl (fun K hK => ?_) ?_
        · skip
          have x1 := Kept.text (cap := k3) K1.out HNA.out
          go_simp
          (refine hK _ _ ?_; clear hK K x1)
          refine wpAny_ready (rs := [12]) (by kernel_rfl) (by simp) ?_
          refine AllReady.cons rfl (fun K hK => ?_) ?_
          · skip
            go_simp
            go_wp2_with (go_at_call 15; refine (V.out _ HK.out).mono ?_; rintro e w' ⟨rfl, mm, rfl⟩; replace HB := Lib.hid (HB.out.drewN mm); replace G := Lib.hid (only_drewN G.out mm); replace K1 := Lib.hid (Kept.grown (row := none) K1.out (only_drewN (World.grownBy.refl _ _) mm) (by simp)); replace HK := Lib.hid (Blk.drewN HK.out mm))
            refine wpAny_take (i := 13) (v := ?_) rfl (by kernel_rfl) (by kernel_rfl) (by kernel_rfl) (fun _ _ _ h => h) (Or.inl ⟨by kernel_rfl, ?_⟩) ?_
            rotate_left
            · (intro w'; go_simp; try with_reducible rfl)
            refine wpAny_take (i := 14) (v := ?_) rfl (by kernel_rfl) (by kernel_rfl) (by kernel_rfl) (fun _ _ _ h => h) (Or.inl ⟨by kernel_rfl, ?_⟩) ?_
            rotate_left
            · (intro w'; go_simp; try with_reducible rfl)
            refine wpAny_ready (rs := [15]) (by kernel_rfl) (by simp) ?_
            refine AllReady.cons rfl (fun K hK => ?_) ?_
            · skip
              have x2 := reads_text (cap := c0) (HB.out.take HLN.out k hkn) (by rw [HT.out, HNA.out]; exact HKV.out.symm)
              rw [HT.out] at x2
              go_simp
              (refine hK _ _ ?_; clear hK K x2)
              refine wpAny_take (i := 16) (v := ?_) rfl (by kernel_rfl) (by kernel_rfl) (by kernel_rfl) (fun _ _ _ h => h) (Or.inl ⟨by kernel_rfl, ?_⟩) ?_
              rotate_left
              · (intro w'; go_simp; try with_reducible rfl)
              refine wpAny_take (i := 17) (v := ?_) rfl (by kernel_rfl) (by kernel_rfl) (by kernel_rfl) (fun _ _ _ h => h) (Or.inl ⟨by kernel_rfl, ?_⟩) ?_
              rotate_left
              · (intro w'; go_simp; try with_reducible rfl)
              refine wpAny_take (i := 18) (v := ?_) rfl (by kernel_rfl) (by kernel_rfl) (by kernel_rfl) (fun _ _ _ h => h) (Or.inl ⟨by kernel_rfl, ?_⟩) ?_
              rotate_left
              · (intro w'; go_simp; try with_reducible rfl)
              refine wpAny_take (i := 19) (v := ?_) rfl (by kernel_rfl) (by kernel_rfl) (by kernel_rfl) (fun _ _ _ h => h) (Or.inl ⟨by kernel_rfl, ?_⟩) ?_
              rotate_left
              · (intro w'; go_simp; try with_reducible rfl)
              refine wpAny_take (i := 20) (v := ?_) rfl (by kernel_rfl) (by kernel_rfl) (by kernel_rfl) (fun _ _ _ h => h) (Or.inl ⟨by kernel_rfl, ?_⟩) ?_
              rotate_left
              · (intro w'; go_simp; try with_reducible rfl)
              refine wpAny_take (i := 21) (v := ?_) rfl (by kernel_rfl) (by kernel_rfl) (by kernel_rfl) (fun _ _ _ h => h) (Or.inl ⟨by kernel_rfl, ?_⟩) ?_
              rotate_left
              · (intro w'; go_simp; try with_reducible rfl)
              refine wpAny_take (i := 22) (v := ?_) rfl (by kernel_rfl) (by kernel_rfl) (by kernel_rfl) (fun _ _ _ h => h) (Or.inl ⟨by kernel_rfl, ?_⟩) ?_
              rotate_left
              · (intro w'; go_simp; try with_reducible rfl)
              refine wpAny_take (i := 23) (v := undef) rfl (by kernel_rfl) (by kernel_rfl) (by kernel_rfl) (fun _ _ _ h => h) (Or.inr ⟨by kernel_rfl, rfl⟩) ?_
              refine wpAny_take (i := 24) (v := undef) rfl (by kernel_rfl) (by kernel_rfl) (by kernel_rfl) (fun _ _ _ h => h) (Or.inr ⟨by kernel_rfl, rfl⟩) ?_
              refine wpAny_take (i := 25) (v := undef) rfl (by kernel_rfl) (by kernel_rfl) (by kernel_rfl) (fun _ _ _ h => h) (Or.inr ⟨by kernel_rfl, rfl⟩) ?_
              refine wpAny_take (i := 26) (v := undef) rfl (by kernel_rfl) (by kernel_rfl) (by kernel_rfl) (fun _ _ _ h => h) (Or.inr ⟨by kernel_rfl, rfl⟩) ?_
              refine wpAny_take (i := 27) (v := undef) rfl (by kernel_rfl) (by kernel_rfl) (by kernel_rfl) (fun _ _ _ h => h) (Or.inr ⟨by kernel_rfl, rfl⟩) ?_
              refine wpAny_take (i := 28) (v := ?_) rfl (by kernel_rfl) (by kernel_rfl) (by kernel_rfl) (fun _ _ _ h => h) (Or.inl ⟨by kernel_rfl, ?_⟩) ?_
              rotate_left
              · (intro w'; go_simp; try with_reducible rfl)
              refine wpAny_take (i := 29) (v := ?_) rfl (by kernel_rfl) (by kernel_rfl) (by kernel_rfl) (fun _ _ _ h => h) (Or.inl ⟨by kernel_rfl, ?_⟩) ?_
              rotate_left
              · (intro w'; go_simp; try with_reducible rfl)
              refine wpAny_done (by kernel_rfl) ?_ _
              clear s0 s1 s2 s3 s4
              go_simp
              go_wp2_with fail
              go_meet
              exact ⟨rfl, G.out⟩
            exact AllReady.nil
          exact AllReady.nil
        refine AllReady.cons rfl (fun K hK => ?_) ?_
        · skip
          go_simp
          go_wp2_with (go_at_call 15; refine (V.out _ HK.out).mono ?_; rintro e w' ⟨rfl, mm, rfl⟩; replace HB := Lib.hid (HB.out.drewN mm); replace G := Lib.hid (only_drewN G.out mm); replace K1 := Lib.hid (Kept.grown (row := none) K1.out (only_drewN (World.grownBy.refl _ _) mm) (by simp)); replace HK := Lib.hid (Blk.drewN HK.out mm))
          refine wpAny_take (i := 13) (v := ?_) rfl (by kernel_rfl) (by kernel_rfl) (by kernel_rfl) (fun _ _ _ h => h) (Or.inl ⟨by kernel_rfl, ?_⟩) ?_
          rotate_left
          · (intro w'; go_simp; try with_reducible rfl)
          refine wpAny_take (i := 14) (v := ?_) rfl (by kernel_rfl) (by kernel_rfl) (by kernel_rfl) (fun _ _ _ h => h) (Or.inl ⟨by kernel_rfl, ?_⟩) ?_
          rotate_left
          · (intro w'; go_simp; try with_reducible rfl)
          refine wpAny_ready (rs := [7, 15]) (by kernel_rfl) (by simp) ?_
          refine AllReady.cons rfl (fun K hK => ?_) ?_
          · skip
            have x1 := Kept.text (cap := k3) K1.out HNA.out
            go_simp
            (refine hK _ _ ?_; clear hK K x1)
            refine wpAny_ready (rs := [15]) (by kernel_rfl) (by simp) ?_
            refine AllReady.cons rfl (fun K hK => ?_) ?_
            · skip
              have x2 := reads_text (cap := c0) (HB.out.take HLN.out k hkn) (by rw [HT.out, HNA.out]; exact HKV.out.symm)
              rw [HT.out] at x2
              go_simp
              (refine hK _ _ ?_; clear hK K x2)
              refine wpAny_take (i := 16) (v := ?_) rfl (by kernel_rfl) (by kernel_rfl) (by kernel_rfl) (fun _ _ _ h => h) (Or.inl ⟨by kernel_rfl, ?_⟩) ?_
              rotate_left
              · (intro w'; go_simp; try with_reducible rfl)
              refine wpAny_take (i := 17) (v := ?_) rfl (by kernel_rfl) (by kernel_rfl) (by kernel_rfl) (fun _ _ _ h => h) (Or.inl ⟨by kernel_rfl, ?_⟩) ?_
              rotate_left
              · (intro w'; go_simp; try with_reducible rfl)
              refine wpAny_take (i := 18) (v := ?_) rfl (by kernel_rfl) (by kernel_rfl) (by kernel_rfl) (fun _ _ _ h => h) (Or.inl ⟨by kernel_rfl, ?_⟩) ?_
              rotate_left
              · (intro w'; go_simp; try with_reducible rfl)
              refine wpAny_take (i := 19) (v := ?_) rfl (by kernel_rfl) (by kernel_rfl) (by kernel_rfl) (fun _ _ _ h => h) (Or.inl ⟨by kernel_rfl, ?_⟩) ?_
              rotate_left
              · (intro w'; go_simp; try with_reducible rfl)
              refine wpAny_take (i := 20) (v := ?_) rfl (by kernel_rfl) (by kernel_rfl) (by kernel_rfl) (fun _ _ _ h => h) (Or.inl ⟨by kernel_rfl, ?_⟩) ?_
              rotate_left
              · (intro w'; go_simp; try with_reducible rfl)
              refine wpAny_take (i := 21) (v := ?_) rfl (by kernel_rfl) (by kernel_rfl) (by kernel_rfl) (fun _ _ _ h => h) (Or.inl ⟨by kernel_rfl, ?_⟩) ?_
              rotate_left
              · (intro w'; go_simp; try with_reducible rfl)
              refine wpAny_take (i := 22) (v := ?_) rfl (by kernel_rfl) (by kernel_rfl) (by kernel_rfl) (fun _ _ _ h => h) (Or.inl ⟨by kernel_rfl, ?_⟩) ?_
              rotate_left
              · (intro w'; go_simp; try with_reducible rfl)
              refine wpAny_take (i := 23) (v := undef) rfl (by kernel_rfl) (by kernel_rfl) (by kernel_rfl) (fun _ _ _ h => h) (Or.inr ⟨by kernel_rfl, rfl⟩) ?_
              refine wpAny_take (i := 24) (v := undef) rfl (by kernel_rfl) (by kernel_rfl) (by kernel_rfl) (fun _ _ _ h => h) (Or.inr ⟨by kernel_rfl, rfl⟩) ?_
              refine wpAny_take (i := 25) (v := undef) rfl (by kernel_rfl) (by kernel_rfl) (by kernel_rfl) (fun _ _ _ h => h) (Or.inr ⟨by kernel_rfl, rfl⟩) ?_
              refine wpAny_take (i := 26) (v := undef) rfl (by kernel_rfl) (by kernel_rfl) (by kernel_rfl) (fun _ _ _ h => h) (Or.inr ⟨by kernel_rfl, rfl⟩) ?_
              refine wpAny_take (i := 27) (v := undef) rfl (by kernel_rfl) (by kernel_rfl) (by kernel_rfl) (fun _ _ _ h => h) (Or.inr ⟨by kernel_rfl, rfl⟩) ?_
              refine wpAny_take (i := 28) (v := ?_) rfl (by kernel_rfl) (by kernel_rfl) (by kernel_rfl) (fun _ _ _ h => h) (Or.inl ⟨by kernel_rfl, ?_⟩) ?_
              rotate_left
              · (intro w'; go_simp; try with_reducible rfl)
              refine wpAny_take (i := 29) (v := ?_) rfl (by kernel_rfl) (by kernel_rfl) (by kernel_rfl) (fun _ _ _ h => h) (Or.inl ⟨by kernel_rfl, ?_⟩) ?_
              rotate_left
              · (intro w'; go_simp; try with_reducible rfl)
              refine wpAny_done (by kernel_rfl) ?_ _
              clear s0 s1 s2 s3 s4
              go_simp
              go_wp2_with fail
              go_meet
              exact ⟨rfl, G.out⟩
            exact AllReady.nil
          refine AllReady.cons rfl (fun K hK => ?_) ?_
          · skip
            have x2 := reads_text (cap := c0) (HB.out.take HLN.out k hkn) (by rw [HT.out, HNA.out]; exact HKV.out.symm)
            rw [HT.out] at x2
            go_simp
            (refine hK _ _ ?_; clear hK K x2)
            refine wpAny_ready (rs := [7]) (by kernel_rfl) (by simp) ?_
            refine AllReady.cons rfl (fun K hK => ?_) ?_
            · skip
              have x1 := Kept.text (cap := k3) K1.out HNA.out
              go_simp
              (refine hK _ _ ?_; clear hK K x1)
              refine wpAny_take (i := 16) (v := ?_) rfl (by kernel_rfl) (by kernel_rfl) (by kernel_rfl) (fun _ _ _ h => h) (Or.inl ⟨by kernel_rfl, ?_⟩) ?_
              rotate_left
              · (intro w'; go_simp; try with_reducible rfl)
              refine wpAny_take (i := 17) (v := ?_) rfl (by kernel_rfl) (by kernel_rfl) (by kernel_rfl) (fun _ _ _ h => h) (Or.inl ⟨by kernel_rfl, ?_⟩) ?_
              rotate_left
              · (intro w'; go_simp; try with_reducible rfl)
              refine wpAny_take (i := 18) (v := ?_) rfl (by kernel_rfl) (by kernel_rfl) (by kernel_rfl) (fun _ _ _ h => h) (Or.inl ⟨by kernel_rfl, ?_⟩) ?_
              rotate_left
              · (intro w'; go_simp; try with_reducible rfl)
              refine wpAny_take (i := 19) (v := ?_) rfl (by kernel_rfl) (by kernel_rfl) (by kernel_rfl) (fun _ _ _ h => h) (Or.inl ⟨by kernel_rfl, ?_⟩) ?_
              rotate_left
              · (intro w'; go_simp; try with_reducible rfl)
              refine wpAny_take (i := 20) (v := ?_) rfl (by kernel_rfl) (by kernel_rfl) (by kernel_rfl) (fun _ _ _ h => h) (Or.inl ⟨by kernel_rfl, ?_⟩) ?_
              rotate_left
              · (intro w'; go_simp; try with_reducible rfl)
              refine wpAny_take (i := 21) (v := ?_) rfl (by kernel_rfl) (by kernel_rfl) (by kernel_rfl) (fun _ _ _ h => h) (Or.inl ⟨by kernel_rfl, ?_⟩) ?_
              rotate_left
              · (intro w'; go_simp; try with_reducible rfl)
              refine wpAny_take (i := 22) (v := ?_) rfl (by kernel_rfl) (by kernel_rfl) (by kernel_rfl) (fun _ _ _ h => h) (Or.inl ⟨by kernel_rfl, ?_⟩) ?_
              rotate_left
              · (intro w'; go_simp; try with_reducible rfl)
              refine wpAny_take (i := 23) (v := undef) rfl (by kernel_rfl) (by kernel_rfl) (by kernel_rfl) (fun _ _ _ h => h) (Or.inr ⟨by kernel_rfl, rfl⟩) ?_
              refine wpAny_take (i := 24) (v := undef) rfl (by kernel_rfl) (by kernel_rfl) (by kernel_rfl) (fun _ _ _ h => h) (Or.inr ⟨by kernel_rfl, rfl⟩) ?_
              refine wpAny_take (i := 25) (v := undef) rfl (by kernel_rfl) (by kernel_rfl) (by kernel_rfl) (fun _ _ _ h => h) (Or.inr ⟨by kernel_rfl, rfl⟩) ?_
              refine wpAny_take (i := 26) (v := undef) rfl (by kernel_rfl) (by kernel_rfl) (by kernel_rfl) (fun _ _ _ h => h) (Or.inr ⟨by kernel_rfl, rfl⟩) ?_
              refine wpAny_take (i := 27) (v := undef) rfl (by kernel_rfl) (by kernel_rfl) (by kernel_rfl) (fun _ _ _ h => h) (Or.inr ⟨by kernel_rfl, rfl⟩) ?_
              refine wpAny_take (i := 28) (v := ?_) rfl (by kernel_rfl) (by kernel_rfl) (by kernel_rfl) (fun _ _ _ h => h) (Or.inl ⟨by kernel_rfl, ?_⟩) ?_
              rotate_left
              · (intro w'; go_simp; try with_reducible rfl)
              refine wpAny_take (i := 29) (v := ?_) rfl (by kernel_rfl) (by kernel_rfl) (by kernel_rfl) (fun _ _ _ h => h) (Or.inl ⟨by kernel_rfl, ?_⟩) ?_
              rotate_left
              · (intro w'; go_simp; try with_reducible rfl)
              refine wpAny_done (by kernel_rfl) ?_ _
              clear s0 s1 s2 s3 s4
              go_simp
              go_wp2_with fail
              go_meet
              exact ⟨rfl, G.out⟩
            exact AllReady.nil
          exact AllReady.nil
        exact AllReady.nil
      exact AllReady.nil
  case rest =>
    obtain ⟨rfl, G5⟩ := hcut
    clear U HR hr4 G3 G4 HR4 hg4
    have hn : n < 18446744073709551616 := by omega
    have hm' : m < 18446744073709551616 := by omega
    have U1 := Lib.hid fun W => uint_any n W hn
    have U2 := Lib.hid fun W => uint_any m W hm'
    have L1 := vb_len n
    have L2 := vb_len m
    have PX := Lib.hid (vb_prefix n m hn hm')
    obtain ⟨la, hla⟩ : ∃ la, vb n = la := ⟨_, rfl⟩
    obtain ⟨lb, hlb⟩ : ∃ lb, vb m = lb := ⟨_, rfl⟩
    rw [hla] at U1 L1 PX
    rw [hlb] at U2 L2 PX
    have HE : Hid (n = m → la = lb) := Lib.hid fun h => by rw [← hla, ← hlb, h]
    obtain ⟨na, hna⟩ : ∃ na, la.length = na := ⟨_, rfl⟩
    obtain ⟨nb, hnb⟩ : ∃ nb, lb.length = nb := ⟨_, rfl⟩
    rw [hna] at L1 PX
    rw [hnb] at L2
    have G := Lib.hid G5
    have HA := Lib.hid hna
    have HB := Lib.hid hnb
    clear hla hlb w1 w2 G5 hn hm' hna hnb p0 p1 q0 q1 w0 hl hm hc
    go_wp2_with fail
    refine (U1.out _).mono ?_
    rintro e w5 ⟨g1, k1, rfl, o1, b1⟩
    rw [HA.out] at o1 ⊢
    go_wp2_with fail
    refine (U2.out _).mono ?_
    rintro e w6 ⟨g2, k2, rfl, o2, b2⟩
    rw [HB.out] at o2 ⊢
    have K1 := Lib.hid ((Kept.of_own o1 (by omega)).below b2)
    have K2 := Lib.hid (Kept.of_own o2 (by omega))
    obtain ⟨hk1, hk1m⟩ := own_cap o1 (by omega)
    obtain ⟨hk2, hk2m⟩ := own_cap o2 (by omega)
    unfold maxLen at hk1m hk2m
    have GB := Lib.hid (grown_below (grown_below G.out b1) b2)
    clear o1 o2 b1 b2 G U1 U2
    by_cases he : n = m
    · subst he
      clear PX HE
      go_wp2_with fail
      go_quiet (fail)
      go_wp2_with fail
      go_ret
      exact ⟨rfl, below_of_grown (only_drewN GB.out nq)⟩
    · have te : ((n : Int) == (m : Int)) = false := by rw [beq_eq_false_iff_ne]; omega
      by_cases hlt : nb < na
      · have tl : decide ((nb : Int) < (na : Int)) = true := decide_eq_true (by omega)
        clear PX HE he
        go_wp2_with fail
        go_quiet (fail)
        go_wp2_with fail
        go_ret
        exact ⟨rfl, below_of_grown (only_drewN GB.out nq)⟩
      · have tl : decide ((nb : Int) < (na : Int)) = false := decide_eq_false (by omega)
        have x1 := fun j => Kept.text (cap := k1) (w := w6.drewN j) K1.out HA.out
        have x2 := fun j => reads_text (w := w6.drewN j) (cap := k2) ((K2.out.reads HB.out).take HB.out na (by omega)) (by rw [List.length_take, HB.out]; omega)
        have hne : (lb.take na == la) = false := by
          rw [beq_eq_false_iff_ne]
          exact fun h => he (PX.out h)
        have hb1 : (0 : Int) ≤ (na : Int) := by omega
        have hb2 : (na : Int) ≤ (k2 : Int) := by omega
        clear PX HE
        go_wp2_with fail
        go_quiet (fail)
        go_wp2_with fail
        go_ret
        exact ⟨rfl, below_of_grown (only_drewN GB.out nq)⟩

set_option maxRecDepth 100000 in
theorem lifted (os : Os) (started : os.Started) (H : Type) (enc : TypeId × Value → H) :
    ReturnsInHanded {} Try.checked os 4 .any (Rows.wireOneSpec.pre6 enc Try.prog Try.f4 Rows.wireOneRow.domain false) (Rows.wireOneSpec.post enc Try.prog Try.f4 false true false false) := by
  refine returnsInHanded_of_change_sized (C := Try.checked) own started (by kernel_rfl) Try.func4
    (ChangeSpec.witness6 (enc := enc) (C := Try.checked) false ⟨#[], #[.slice none 0 0, .int .u64 0, .int .u64 0], []⟩ 8 (by kernel_rfl) (by kernel_rfl) (by kernel_rfl) (by kernel_rfl)) ?_
  intro W base args ds gs before hval0 hW hcnd hsz0 _
  have hsz : (DataW.weightsEach Try.prog (Try.f4.params.toList ++ Rows.wireOneSpec.plain.varTypes Try.prog) (ds ++ gs)).all (· ≤ reachBytes) = true := hsz0
  clear hsz0
  have hval : ∀ (j : Nat) t v, Try.f4.params[j]? = some t → args[j]? = some v → Value.okWide Try.prog W .any base t v := hval0
  have hW' := hW
  obtain ⟨p, q, hA0, hV, rfl, hfz, hnd⟩ := hW
  have hA : DataW.TrodAll enc Try.prog W 0 (fun _ => true) true Try.f4.params.toList args.toList ds p := hA0
  rw [Try.params4] at hA hval hsz
  obtain ⟨v0, vs0, d0, ds0, p0, q0, hargs, rfl, rfl, h0, r0⟩ := trodAll_cons hA
  obtain ⟨v1, vs1, d1, ds1, p1, q1, rfl, rfl, rfl, h1, r1⟩ := trodAll_cons r0
  obtain ⟨v2, vs2, d2, ds2, p2, q2, rfl, rfl, rfl, h2, r2⟩ := trodAll_cons r1
  obtain ⟨rfl, rfl, rfl⟩ := trodAll_nil r2
  obtain rfl : args = #[v0, v1, v2] := by cases args; simp_all
  obtain ⟨rfl, rfl⟩ := trodVars_none hV
  clear hA0 hval0
  obtain ⟨a0, n0, c0, rfl⟩ := okWide_slice Try.underlying22 (hval 0 22 v0 rfl rfl)
  have k0 := h0
  have lt0 : ∀ x ∈ p0, x.block < W.heap.size := by obtain ⟨m, hm⟩ := k0; exact DataW.trod_lt m _ _ _ hm
  obtain ⟨z0, w0⟩ : ∃ zs, InRow .u8 1 W a0 n0 c0 zs := by
    obtain ⟨fuel, hf⟩ := h0
    rcases open_ints Try.underlying22 Try.underlying5 (by kernel_rfl) hf with ⟨hcs, _⟩ | ⟨x, l, c, zs, hcs, _, hl, hm, hz, hx, hcell, hwz⟩
    · simp [Value.cells] at hcs
      obtain ⟨rfl, rfl, rfl⟩ := hcs
      exact ⟨[], InRow.nil _ _ _⟩
    · simp [Value.cells] at hcs
      obtain ⟨rfl, rfl, rfl⟩ := hcs
      simp only [Prod.mk.injEq] at hx
      obtain ⟨rfl, rfl⟩ := hx
      simp only [if_true] at hz
      have hs := sized_slice hsz (j := 0) (t := 22) (e := 5) rfl rfl Try.underlying22
      rw [show Try.prog.bytesOf 5 = 1 by kernel_rfl] at hs
      simp only [lits, List.length_map, List.length_take, List.length_drop, reachBytes] at hs
      exact ⟨zs.take _, InRow.of_open hl hm hz (by omega) hcell hwz (fun y hy => lt0 y hy)⟩
  obtain ⟨a1, rfl, rfl, rfl, w1⟩ := open_int Try.underlying27 (hval 1 27 v1 rfl rfl) h1
  obtain ⟨a2, rfl, rfl, rfl, w2⟩ := open_int Try.underlying27 (hval 2 27 v2 rfl rfl) h2
  simp only [List.append_nil] at hW'
  refine (walk W a0 n0 c0 z0 w0 a1 w1 a2 w2).mono fun e W' ⟨he, bel⟩ => ?_
  subst he
  exact ⟨_, rfl, _, _, _, [], _, [], hW', trodAll_mk1 (shut_bool Try.underlying4 _), (trodAll_cons_mk (Below.trod laidOut (by kernel_rfl) (of_decide_eq_true (by kernel_rfl)) k0 bel lt0) (trodAll_cons_mk (shut_int Try.underlying27 w1) (trodAll_cons_mk (shut_int Try.underlying27 w2) trodAll_mk0))), rfl, bel.frame _, fun h => by cases h⟩

theorem proved : Rows.WireOneSaid :=
  OpenClaim.holds_of_wide 4 Try.f4 rfl rfl rfl rfl rfl rfl rfl ⟨rfl, rfl, rfl, rfl, rfl⟩ rfl rfl rfl rfl rfl (by kernel_rfl) Try.func4 (by kernel_rfl)
    (of_decide_eq_true (by kernel_rfl)) (by unfold Func.isWrapper; rw [if_neg (of_decide_eq_false (by kernel_rfl))]; exact ⟨rfl, rfl⟩)
    (fun os started H enc _ => lifted os started H enc)
#print axioms proved
end Go.Proofs.Ytlccikpmnhjfoaa.wireOne

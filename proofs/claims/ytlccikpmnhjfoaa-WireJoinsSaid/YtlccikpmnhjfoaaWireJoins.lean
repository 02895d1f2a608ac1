/-
  WireJoins: for every input the Go function answers true, and the input reads as it did. No condition.
-/
import Derived.Test.YtlccikpmnhjfoaaRows
import Derived.Test.YtlccikpmnhjfoaaRow
import Derived.Test.YtlccikpmnhjfoaaJoin
import Derived.Test.YtlccikpmnhjfoaaConv
import Derived.Deep.DrawnRows
import Derived.Deep.QuietTactic
import Derived.BigQuiet
import Derived.WalkSpells
import Derived.WalkLawsBesides
namespace Go.Proofs.Ytlccikpmnhjfoaa.wireJoins
open Go.ChangeShapes Go.WideShapes Go.ChangeAt Go.RowKit
open Go.ChangeMaps (open_string shut_string)
set_option linter.unusedVariables false
set_option linter.unusedSimpArgs false

theorem own : ownKnob Try.prog.godebug = none := by kernel_rfl
theorem laidOut : laidOutB Try.prog = true := by kernel_rfl

/-- two rows of the call's own: the first holds l, the second noughts -/
def Two (w : World) (n g1 g2 : Nat) (l : List UInt8) (wr : World) : Prop :=
  g1 ≠ g2 ∧ w.heap.size ≤ g1 ∧ w.heap.size ≤ g2 ∧ w.grownBy wr none ∧ l.length = n ∧ Blk wr g1 5 (bv l).toArray ∧ Blk wr g2 5 (bv (List.replicate n 0)).toArray
theorem made_zeros (n : Nat) : madeCells #[Value.int .u8 0] n = (bv (List.replicate n 0)).toArray := by
  unfold madeCells bv
  apply Array.ext
  · simp
  · intro i h1 h2
    simp [Nat.mod_one]
theorem Two.made {w w3 : World} {n : Nat} (G : w.grownBy w3 none) : Two w n w3.heap.size (w3.heap.size + 1) (List.replicate n 0) ((w3.drew.alloc (.cells (madeCells #[.int .u8 0] n) 5)).alloc (.cells (madeCells #[.int .u8 0] n) 5)) := by
  rw [made_zeros]
  have h1 : Blk (w3.drew.alloc (.cells (bv (List.replicate n 0)).toArray 5)) w3.heap.size 5 (bv (List.replicate n 0)).toArray := Blk.new w3.drew 5 _
  have h2 := Blk.new (w3.drew.alloc (.cells (bv (List.replicate n 0)).toArray 5)) 5 (bv (List.replicate n 0)).toArray
  rw [World.size_alloc] at h2
  exact ⟨by omega, G.size, Nat.le_succ_of_le G.size, only_alloc (only_alloc (only_drew G) _) _, by simp, h1.alloc _, h2⟩
theorem Two.swap {w wr : World} {n g1 g2 : Nat} (h : Two w n g1 g2 (List.replicate n 0) wr) : Two w n g2 g1 (List.replicate n 0) wr :=
  ⟨h.1.symm, h.2.2.1, h.2.1, h.2.2.2.1, h.2.2.2.2.1, h.2.2.2.2.2.2, h.2.2.2.2.2.1⟩
/-- what the first row holds after k rounds -/
def mix (ka kb : List UInt8) (n k : Nat) : List UInt8 := (List.zipWith (· ^^^ ·) ka kb).take k ++ List.replicate (n - k) 0
theorem mix_zero (ka kb : List UInt8) (n : Nat) : mix ka kb n 0 = List.replicate n 0 := by unfold mix; simp
theorem mix_all (ka kb : List UInt8) (n : Nat) (ha : ka.length = n) (hb : kb.length = n) : mix ka kb n n = List.zipWith (· ^^^ ·) ka kb := by
  unfold mix
  rw [List.take_of_length_le (by rw [List.length_zipWith]; omega), Nat.sub_self, List.replicate_zero, List.append_nil]
theorem mix_len (ka kb : List UInt8) (n k : Nat) (ha : ka.length = n) (hb : kb.length = n) (hk : k ≤ n) : (mix ka kb n k).length = n := by
  unfold mix
  rw [List.length_append, List.length_take, List.length_zipWith, List.length_replicate]; omega
theorem mix_set (ka kb : List UInt8) (n k : Nat) (ha : ka.length = n) (hb : kb.length = n) (hk : k < n) (v : UInt8) (hv : v = ka[k] ^^^ kb[k]) : (mix ka kb n k).set k v = mix ka kb n (k + 1) := by
  have hz : (List.zipWith (· ^^^ ·) ka kb).length = n := by rw [List.length_zipWith]; omega
  unfold mix
  rw [List.take_succ_eq_append_getElem (by omega), List.getElem_zipWith, ← hv, List.set_append, List.length_take, if_neg (by omega)]
  rw [show n - k = (n - (k + 1)) + 1 by omega, List.replicate_succ, show k - min k (List.zipWith (· ^^^ ·) ka kb).length = 0 by omega, List.set_cons_zero, List.append_assoc]
  rfl
def Xored (w : World) (n g1 g2 : Nat) (ka kb : List UInt8) (i : Value) (wr : World) : Prop :=
  ∃ k : Nat, k ≤ n ∧ i = .int .i64 k ∧ Two w n g1 g2 (mix ka kb n k) wr
theorem Two.step {w wr : World} {n g1 g2 k : Nat} {ka kb : List UInt8} (h : Two w n g1 g2 (mix ka kb n k) wr) (ha : ka.length = n) (hb : kb.length = n) (hk : k < n) (X : Nat) (hX : X = (ka[k]).toNat ^^^ (kb[k]).toNat) :
    Two w n g1 g2 (mix ka kb n (k + 1)) ((wr.setCell ⟨g1, k, none⟩ (.int .u8 X)).drew) := by
  obtain ⟨h1, h2, h3, h4, h5, h6, h7⟩ := h
  refine ⟨h1, h2, h3, only_drew (grown_new h4 h2 _), mix_len _ _ _ _ ha hb hk, ?_, (h7.far (p := ⟨g1, k, none⟩) (fun e => h1 e.symm) _).drew⟩
  have h8 := (h6.set_ k (.int .u8 X)).drew
  rw [← mix_set ka kb n k ha hb hk _ rfl]
  have e : ((bv (mix ka kb n k)).toArray).setIfInBounds k (Value.int .u8 X) = (bv ((mix ka kb n k).set k (ka[k] ^^^ kb[k]))).toArray := by
    unfold bv
    rw [List.setIfInBounds_toArray, List.map_set, UInt8.toNat_xor, hX]
  rw [e] at h8
  exact h8
theorem nums_zip (l : List UInt8) : ∀ m : List UInt8, nums (List.zipWith (· ^^^ ·) l m) = List.zipWith (· ^^^ ·) (nums l) (nums m) := by
  induction l with
  | nil => intro m; rfl
  | cons c l ih =>
    intro m
    cases m with
    | nil => rfl
    | cons d m =>
      show (c ^^^ d).toNat :: nums (List.zipWith (· ^^^ ·) l m) = _ :: _
      rw [ih m, UInt8.toNat_xor]
      rfl
theorem turned (l : List UInt8) (q D Y : Nat) (hq : q < l.length) (h0 : 0 < D) (h1 : D < 256) (hY : Y = (l[q]).toNat ^^^ D) : crc (nums (l.set q Y.toUInt8)) ≠ crc (nums l) := by
  have hn : (nums l).length = l.length := by unfold nums; simp
  have h := crc_turn (nums l) q D (by omega) h0 h1
  have e : nums (l.set q Y.toUInt8) = (nums l).set q ((nums l)[q]?.getD 0 ^^^ D) := by
    have hYl : Y < 256 := by rw [hY]; exact Nat.xor_lt_two_pow (n := 8) (UInt8.toNat_lt _) h1
    unfold nums
    rw [List.map_set, toU8 Y hYl, List.getElem?_map, List.getElem?_eq_getElem hq, hY]
    rfl
  rw [e]; exact h
theorem nums_zero (n : Nat) : nums (List.replicate n 0) = List.replicate n 0 := by unfold nums; simp
theorem crc_lt (l : List UInt8) : crc (nums l) < 4294967296 := by
  unfold crc
  exact Nat.xor_lt_two_pow (n := 32) (crcF_lt _ _ (by decide) (nums_lt l)) (by decide)
/-- the four texts as they lie -/
structure Four (w : World) (a0 a1 : Option Addr) (n g1 g2 : Nat) (ka kb kl : List UInt8) (wr : World) : Prop where
  g : w.grownBy wr none
  a : Reads wr wr.heap.size 1 a0 n (bv ka)
  b : Reads wr wr.heap.size 1 a1 n (bv kb)
  l : Reads wr wr.heap.size 1 (some ⟨g1, 0, none⟩) n (bv kl)
  z : Reads wr wr.heap.size 1 (some ⟨g2, 0, none⟩) n (bv (List.replicate n 0))
theorem Four.below {w : World} {a0 a1 : Option Addr} {n g1 g2 : Nat} {ka kb kl : List UInt8} {wr w' : World} (h : Four w a0 a1 n g1 g2 ka kb kl wr) (hb : Below wr.heap.size wr w') : Four w a0 a1 n g1 g2 ka kb kl w' :=
  ⟨grown_below h.g hb, (h.a.below hb).more hb.size, (h.b.below hb).more hb.size, (h.l.below hb).more hb.size, (h.z.below hb).more hb.size⟩
theorem Four.drew {w : World} {a0 a1 : Option Addr} {n g1 g2 : Nat} {ka kb kl : List UInt8} {wr : World} (h : Four w a0 a1 n g1 g2 ka kb kl wr) : Four w a0 a1 n g1 g2 ka kb kl wr.drew :=
  ⟨only_drew h.g, h.a.drew, h.b.drew, h.l.drew, h.z.drew⟩
theorem Four.app {w : World} {a0 a1 : Option Addr} {n g1 g2 : Nat} {ka kb kl : List UInt8} {wr wa : World} (h : Four w a0 a1 n g1 g2 ka kb kl wr) (hg : (wr.alloc (.cells #[] 5)).grownBy wa (some wr.heap.size)) : w.grownBy wa none :=
  grown_in (only_alloc h.g _) hg h.g.size
def Last (w : World) (n g3 : Nat) (a0 : Option Addr) (kt ka : List UInt8) (wr : World) : Prop :=
  w.grownBy wr none ∧ Reads wr wr.heap.size 1 (some ⟨g3, 0, none⟩) n (bv kt) ∧ Reads wr wr.heap.size 1 a0 n (bv ka)
theorem Last.below {w : World} {n g3 : Nat} {a0 : Option Addr} {kt ka : List UInt8} {wr w' : World} (h : Last w n g3 a0 kt ka wr) (hb : Below wr.heap.size wr w') : Last w n g3 a0 kt ka w' :=
  ⟨grown_below h.1 hb, (h.2.1.below hb).more hb.size, (h.2.2.below hb).more hb.size⟩
theorem Last.drew {w : World} {n g3 : Nat} {a0 : Option Addr} {kt ka : List UInt8} {wr : World} (h : Last w n g3 a0 kt ka wr) : Last w n g3 a0 kt ka wr.drew := ⟨only_drew h.1, h.2.1.drew, h.2.2.drew⟩
theorem Last.of {w wa : World} {n g3 cap q : Nat} {a0 : Option Addr} {kt ka : List UInt8} {v : Value} (G : w.grownBy wa none) (hg : w.heap.size ≤ g3) (ho : wa.ownsRow w.heap.size 5 1 (.slice (some ⟨g3, 0, none⟩) n cap) n (bv ka)) (e : (bv ka).set q v = bv kt) (ha : Reads w w.heap.size 1 a0 n (bv ka)) :
    Last w n g3 a0 kt ka (wa.setCell ⟨g3, q, none⟩ v).drew := by
  have h1 : w.grownBy (wa.setCell ⟨g3, q, none⟩ v) none := grown_new G hg _
  have h2 := (ho.stored q v).1
  rw [e] at h2
  exact ⟨only_drew h1, (Reads.of_own h2).drew, ((ha.grown h1 (Nat.le_refl _) (fun g hg => by cases hg)).more h1.size).drew⟩
theorem blk_reads {w : World} {g n : Nat} {l : List UInt8} (h : Blk w g 5 (bv l).toArray) (hl : l.length = n) : Reads w w.heap.size 1 (some ⟨g, 0, none⟩) n (bv l) := by
  refine ⟨by rw [bv_len]; omega, fun _ => ⟨_, rfl, h.lt, fun j u hu => ?_⟩⟩
  rw [Go.WideShapes.add_plain, Nat.zero_add, h.cell j, List.getElem?_toArray]
  exact hu
theorem Four.of {w : World} {a0 a1 : Option Addr} {n g1 g2 : Nat} {ka kb kl : List UInt8} {wr : World} (h : Two w n g1 g2 kl wr) (ha : Reads w w.heap.size 1 a0 n (bv ka)) (hb : Reads w w.heap.size 1 a1 n (bv kb)) (hl : kl.length = n) : Four w a0 a1 n g1 g2 ka kb kl wr :=
  ⟨h.2.2.2.1, (ha.grown h.2.2.2.1 (Nat.le_refl _) (fun g hg => by cases hg)).more h.2.2.2.1.size, (hb.grown h.2.2.2.1 (Nat.le_refl _) (fun g hg => by cases hg)).more h.2.2.2.1.size, blk_reads h.2.2.2.2.2.1 hl, blk_reads h.2.2.2.2.2.2 (by simp)⟩
set_option maxRecDepth 1000000 in
set_option maxHeartbeats 8000000 in
/-- the walk: the Go text answers true and writes nothing that was there -/
theorem walk (w : World) (a0 : Option Addr) (n0 c0 : Nat) (z0 : List Int) (w0 : InRow .u8 1 w a0 n0 c0 z0) (a1 : Option Addr) (n1 c1 : Nat) (z1 : List Int) (w1 : InRow .u8 1 w a1 n1 c1 z1) (a2 : Int) (w2 : (Lit.int .i64 a2).wf = true) :
    Calls Try.prog 5 #[.slice a0 n0 c0, .slice a1 n1 c1, .int .i64 a2] w fun e w' => e = .returned (.bool true) ∧ Below w.heap.size w w' := by
  obtain ⟨la, hla, hca, hma, hA⟩ := w0.bytes
  obtain ⟨lb, hlb, hcb, hmb, hB⟩ := w1.bytes
  obtain ⟨s0, s1⟩ := bd_i64 w2
  clear w0 w1 w2
  obtain ⟨n, hn⟩ : ∃ n, min n0 n1 = n := ⟨_, rfl⟩
  have hn0 : n ≤ n0 := by omega
  have hn1 : n ≤ n1 := by omega
  have hmn : (n0 ≤ n1 → n = n0) ∧ (¬ n0 ≤ n1 → n = n1) := by omega
  have HM := Lib.hid hmn
  have HA := Lib.hid (hA.take hla n hn0)
  have HB := Lib.hid (hB.take hlb n hn1)
  have HLA : Hid ((la.take n).length = n) := Lib.hid (by rw [List.length_take]; omega)
  have HLB : Hid ((lb.take n).length = n) := Lib.hid (by rw [List.length_take]; omega)
  obtain ⟨ka, hka⟩ : ∃ ka, la.take n = ka := ⟨_, rfl⟩
  obtain ⟨kb, hkb⟩ : ∃ kb, lb.take n = kb := ⟨_, rfl⟩
  rw [hka] at HA HLA
  rw [hkb] at HB HLB
  clear hka hkb hA hB hla hlb hn hmn
  go_enter Try.func5, Try.ntmps5
  go_upto_region 1 with fail
  go_cut [7] (fun s7 wx => s7 = .int .i64 n ∧ w = wx)
  case first =>
    rcases Nat.lt_or_ge n1 n0 with hle | hle
    · have h1 : ¬ n0 ≤ n1 := by omega
      go_wp2_with fail
      go_meet
      rw [HM.out.2 h1]
      exact ⟨rfl, rfl⟩
    · go_wp2_with fail
      go_meet
      rw [HM.out.1 hle]
      exact ⟨rfl, rfl⟩
  case rest =>
    obtain ⟨rfl, rfl⟩ := hcut
    go_wp2_with fail
    refine (awake_any _).mono ?_
    rintro e w3 ⟨rfl, hg⟩
    have G := Lib.hid hg
    clear hg HM
    by_cases hbig : 50000 < n
    · go_wp2_with fail
      refine (awake_any _).mono ?_
      rintro e w4 ⟨rfl, hg⟩
      have G4 := Lib.hid (grown_tr G.out hg)
      clear hg
      go_wp2_with fail
      go_ret
      exact ⟨rfl, below_of_grown G4.out⟩
    · have hn5 : n ≤ 50000 := by omega
      clear hbig
      have hmk := run_make_row' (P := Try.prog) 22 5 (.int .u8 0) 1 Try.underlying22 infoU8 rfl .i64 .i64 n (by omega) (by omega)
      go_upto_region 4 with fail
      go_cut [8, 9] (fun s8 s9 wx => ∃ g1 g2, s8 = .slice (some ⟨g1, 0, none⟩) n n ∧ s9 = .slice (some ⟨g2, 0, none⟩) n n ∧ Two w n g1 g2 (List.replicate n 0) wx)
      case first =>
        have MK := Lib.hid (Two.made (n := n) G.out)
        clear G
        refine wp_region_any (by kernel_rfl) ?_
        change wpAny _ _ _ _ _ _ _ (World.drew _)
        refine wpAny_take (i := 0) (v := ?_) rfl (by kernel_rfl) (by kernel_rfl) (by kernel_rfl) (fun _ _ _ h => h) (Or.inl ⟨by kernel_rfl, ?_⟩) ?_
        rotate_left
        · (intro w'; go_simp; try with_reducible rfl)
        refine wpAny_take (i := 2) (v := ?_) rfl (by kernel_rfl) (by kernel_rfl) (by kernel_rfl) (fun _ _ _ h => h) (Or.inl ⟨by kernel_rfl, ?_⟩) ?_
        rotate_left
        · (intro w'; go_simp; try with_reducible rfl)
        refine wpAny_ready (rs := [1, 3]) (by kernel_rfl) (by simp) ?_
        refine AllReady.cons rfl (fun K hK => ?_) ?_
        · skip
          go_simp
          (refine hK _ _ ?_; clear hK K)
          refine wpAny_take (i := 4) (v := ?_) rfl (by kernel_rfl) (by kernel_rfl) (by kernel_rfl) (fun _ _ _ h => h) (Or.inl ⟨by kernel_rfl, ?_⟩) ?_
          rotate_left
          · (intro w'; go_simp; try with_reducible rfl)
          refine wpAny_ready (rs := [3]) (by kernel_rfl) (by simp) ?_
          refine AllReady.cons rfl (fun K hK => ?_) AllReady.nil
          go_simp
          (refine hK _ _ ?_; clear hK K)
          refine wpAny_take (i := 5) (v := ?_) rfl (by kernel_rfl) (by kernel_rfl) (by kernel_rfl) (fun _ _ _ h => h) (Or.inl ⟨by kernel_rfl, ?_⟩) ?_
          rotate_left
          · (intro w'; go_simp; try with_reducible rfl)
          refine wpAny_done (by kernel_rfl) ?_ _
          go_simp
          go_wp2_with fail
          go_meet
          first | exact ⟨_, _, rfl, rfl, MK.out⟩ | exact ⟨_, _, rfl, rfl, MK.out.swap⟩
        refine AllReady.cons rfl (fun K hK => ?_) AllReady.nil
        go_simp
        (refine hK _ _ ?_; clear hK K)
        refine wpAny_ready (rs := [1]) (by kernel_rfl) (by simp) ?_
        refine AllReady.cons rfl (fun K hK => ?_) AllReady.nil
        go_simp
        (refine hK _ _ ?_; clear hK K)
        refine wpAny_take (i := 4) (v := ?_) rfl (by kernel_rfl) (by kernel_rfl) (by kernel_rfl) (fun _ _ _ h => h) (Or.inl ⟨by kernel_rfl, ?_⟩) ?_
        rotate_left
        · (intro w'; go_simp; try with_reducible rfl)
        refine wpAny_take (i := 5) (v := ?_) rfl (by kernel_rfl) (by kernel_rfl) (by kernel_rfl) (fun _ _ _ h => h) (Or.inl ⟨by kernel_rfl, ?_⟩) ?_
        rotate_left
        · (intro w'; go_simp; try with_reducible rfl)
        refine wpAny_done (by kernel_rfl) ?_ _
        go_simp
        go_wp2_with fail
        go_meet
        first | exact ⟨_, _, rfl, rfl, MK.out⟩ | exact ⟨_, _, rfl, rfl, MK.out.swap⟩
      case rest =>
        obtain ⟨g1, g2, rfl, rfl, HT⟩ := hcut
        have HT := Lib.hid HT
        clear hmk G
        go_wp2_with fail
        go_loopw [30] (fun i wr => Xored w n g1 g2 ka kb i wr) (fun i _ => n - (intOf i).toNat)
        case atStart => exact ⟨0, Nat.zero_le _, rfl, by rw [mix_zero]; exact HT.out⟩
        case round =>
          clear HT
          obtain ⟨k, hk, rfl, HT⟩ := hrel
          by_cases hlt : k < n
          · obtain ⟨ba, oa, rfl, hba, hcA⟩ := HA.out.shape (by omega)
            obtain ⟨bb, ob, rfl, hbb, hcB⟩ := HB.out.shape (by omega)
            have la := HLA.out
            have lb := HLB.out
            have c1 := (World.cell?_of_block (HT.2.2.2.1.block ba hba (by simp))).trans (hcA k _ (bv_get ka k (by omega)))
            have c2 := (World.cell?_of_block (HT.2.2.2.1.block bb hbb (by simp))).trans (hcB k _ (bv_get kb k (by omega)))
            have c3 : wr.cell? ⟨g1, k, none⟩ = some (.int .u8 ((mix ka kb n k)[k]'(by rw [mix_len _ _ _ _ la lb hk]; exact hlt)).toNat) := by
              rw [HT.2.2.2.2.2.1.cell k, List.getElem?_toArray]
              exact bv_get _ _ _
            have f3 := HT.2.2.2.2.2.1.frozen k
            have hxx := u8_xor_nat (ka[k]).toNat (kb[k]).toNat (UInt8.toNat_lt _) (UInt8.toNat_lt _)
            obtain ⟨X, hX⟩ : ∃ X, (ka[k]).toNat ^^^ (kb[k]).toNat = X := ⟨_, rfl⟩
            have HN := Lib.hid (HT.step la lb hlt X hX.symm)
            rw [hX] at hxx
            obtain ⟨x, hx⟩ : ∃ x, (ka[k]).toNat = x := ⟨_, rfl⟩
            obtain ⟨y, hy⟩ : ∃ y, (kb[k]).toNat = y := ⟨_, rfl⟩
            obtain ⟨z, hz⟩ : ∃ z, ((mix ka kb n k)[k]'(by rw [mix_len _ _ _ _ la lb hk]; exact hlt)).toNat = z := ⟨_, rfl⟩
            rw [hx, hy] at hxx
            rw [hx] at c1
            rw [hy] at c2
            rw [hz] at c3
            clear hX hx hy hz hcA hcB HT la lb
            have k0 : (0 : Int) ≤ (k : Int) := by omega
            have k1 : (k : Int) < (n : Int) := by omega
            have k2 : (k : Int) < (n0 : Int) := by omega
            have k3 : (k : Int) < (n1 : Int) := by omega
            go_wp2_with fail
            refine wp_region_any (by kernel_rfl) ?_
            change wpAny _ _ _ _ _ _ _ (World.drew _)
            refine wpAny_take (i := 0) (v := ?_) rfl (by kernel_rfl) (by kernel_rfl) (by kernel_rfl) (fun _ _ _ h => h) (Or.inl ⟨by kernel_rfl, ?_⟩) ?_
            rotate_left
            · (intro w'; go_simp; try with_reducible rfl)
            refine wpAny_take (i := 1) (v := ?_) rfl (by kernel_rfl) (by kernel_rfl) (by kernel_rfl) (fun _ _ _ h => h) (Or.inl ⟨by kernel_rfl, ?_⟩) ?_
            rotate_left
            · (intro w'; go_simp; try with_reducible rfl)
            refine wpAny_take (i := 2) (v := ?_) rfl (by kernel_rfl) (by kernel_rfl) (by kernel_rfl) (fun _ _ _ h => h) (Or.inl ⟨by kernel_rfl, ?_⟩) ?_
            rotate_left
            · (intro w'; go_simp; try with_reducible rfl)
            refine wpAny_take (i := 3) (v := ?_) rfl (by kernel_rfl) (by kernel_rfl) (by kernel_rfl) (fun _ _ _ h => h) (Or.inl ⟨by kernel_rfl, ?_⟩) ?_
            rotate_left
            · (intro w'; go_simp; try with_reducible rfl)
            refine wpAny_take (i := 4) (v := ?_) rfl (by kernel_rfl) (by kernel_rfl) (by kernel_rfl) (fun _ _ _ h => h) (Or.inl ⟨by kernel_rfl, ?_⟩) ?_
            rotate_left
            · (intro w'; go_simp; try with_reducible rfl)
            refine wpAny_take (i := 6) (v := ?_) rfl (by kernel_rfl) (by kernel_rfl) (by kernel_rfl) (fun _ _ _ h => h) (Or.inl ⟨by kernel_rfl, ?_⟩) ?_
            rotate_left
            · (intro w'; go_simp; try with_reducible rfl)
            refine wpAny_take (i := 7) (v := ?_) rfl (by kernel_rfl) (by kernel_rfl) (by kernel_rfl) (fun _ _ _ h => h) (Or.inl ⟨by kernel_rfl, ?_⟩) ?_
            rotate_left
            · (intro w'; go_simp; try with_reducible rfl)
            refine wpAny_take (i := 8) (v := ?_) rfl (by kernel_rfl) (by kernel_rfl) (by kernel_rfl) (fun _ _ _ h => h) (Or.inl ⟨by kernel_rfl, ?_⟩) ?_
            rotate_left
            · (intro w'; go_simp; try with_reducible rfl)
            refine wpAny_ready (rs := [5, 9]) (by kernel_rfl) (by simp) ?_
            refine AllReady.cons rfl (fun K hK => ?_) ?_
            · skip
              go_simp
              (refine hK _ _ ?_; clear hK K)
              refine wpAny_ready (rs := [9]) (by kernel_rfl) (by simp) ?_
              refine AllReady.cons rfl (fun K hK => ?_) AllReady.nil
              go_simp
              (refine hK _ _ ?_; clear hK K)
              refine wpAny_take (i := 10) (v := ?_) rfl (by kernel_rfl) (by kernel_rfl) (by kernel_rfl) (fun _ _ _ h => h) (Or.inl ⟨by kernel_rfl, ?_⟩) ?_
              rotate_left
              · (intro w'; go_simp; try with_reducible rfl)
              refine wpAny_take (i := 11) (v := ?_) rfl (by kernel_rfl) (by kernel_rfl) (by kernel_rfl) (fun _ _ _ h => h) (Or.inl ⟨by kernel_rfl, ?_⟩) ?_
              rotate_left
              · (intro w'; go_simp; try with_reducible rfl)
              refine wpAny_ready (rs := [12]) (by kernel_rfl) (by simp) ?_
              refine AllReady.cons rfl (fun K hK => ?_) AllReady.nil
              go_simp
              (refine hK _ _ ?_; clear hK K)
              refine wpAny_done (by kernel_rfl) ?_ _
              go_simp
              go_wp2_with fail
              go_roundw
              case rel => exact ⟨k + 1, by omega, by go_num, HN.out⟩
              case measure => simp [intOf]; omega
            refine AllReady.cons rfl (fun K hK => ?_) AllReady.nil
            go_simp
            (refine hK _ _ ?_; clear hK K)
            refine wpAny_ready (rs := [5]) (by kernel_rfl) (by simp) ?_
            refine AllReady.cons rfl (fun K hK => ?_) AllReady.nil
            go_simp
            (refine hK _ _ ?_; clear hK K)
            refine wpAny_take (i := 10) (v := ?_) rfl (by kernel_rfl) (by kernel_rfl) (by kernel_rfl) (fun _ _ _ h => h) (Or.inl ⟨by kernel_rfl, ?_⟩) ?_
            rotate_left
            · (intro w'; go_simp; try with_reducible rfl)
            refine wpAny_take (i := 11) (v := ?_) rfl (by kernel_rfl) (by kernel_rfl) (by kernel_rfl) (fun _ _ _ h => h) (Or.inl ⟨by kernel_rfl, ?_⟩) ?_
            rotate_left
            · (intro w'; go_simp; try with_reducible rfl)
            refine wpAny_ready (rs := [12]) (by kernel_rfl) (by simp) ?_
            refine AllReady.cons rfl (fun K hK => ?_) AllReady.nil
            go_simp
            (refine hK _ _ ?_; clear hK K)
            refine wpAny_done (by kernel_rfl) ?_ _
            go_simp
            go_wp2_with fail
            go_roundw
            case rel => exact ⟨k + 1, by omega, by go_num, HN.out⟩
            case measure => simp [intOf]; omega
          · obtain rfl : n = k := by omega
            have e := mix_all ka kb n HLA.out HLB.out
            rw [e] at HT
            obtain ⟨X, e1, e2⟩ : ∃ X, crc (nums ka) ^^^ crc (nums kb) = X ∧ crc (nums (List.zipWith (· ^^^ ·) ka kb)) ^^^ crc (nums (List.replicate n 0)) = X :=
              ⟨_, rfl, by rw [nums_zip, nums_zero]; exact (crc_join (nums ka) (nums kb) (by unfold nums; rw [List.length_map, List.length_map, HLA.out, HLB.out]) n (by unfold nums; rw [List.length_map, HLA.out])).symm⟩
            obtain ⟨kl, hkl⟩ : ∃ kl, List.zipWith (· ^^^ ·) ka kb = kl := ⟨_, rfl⟩
            rw [hkl] at HT e2
            have HLL : Hid (kl.length = n) := Lib.hid (by rw [← hkl, List.length_zipWith, HLA.out, HLB.out]; omega)
            have F := Lib.hid (Four.of HT HA.out HB.out HLL.out)
            clear HT hkl e hlt
            have x1 := u32_xor_nat (crc (nums ka)) (crc (nums kb)) (crc_lt ka) (crc_lt kb)
            have x2 := u32_xor_nat (crc (nums kl)) (crc (nums (List.replicate n 0))) (crc_lt kl) (crc_lt _)
            rw [e1] at x1
            rw [e2] at x2
            have T := Lib.hid (crc_lt ka)
            obtain ⟨ca, hca'⟩ : ∃ ca, crc (nums ka) = ca := ⟨_, rfl⟩
            obtain ⟨cb, hcb'⟩ : ∃ cb, crc (nums kb) = cb := ⟨_, rfl⟩
            obtain ⟨cl, hcl'⟩ : ∃ cl, crc (nums kl) = cl := ⟨_, rfl⟩
            obtain ⟨cz, hcz'⟩ : ∃ cz, crc (nums (List.replicate n 0)) = cz := ⟨_, rfl⟩
            rw [hca', hcb'] at x1
            rw [hcl', hcz'] at x2
            have CA := Lib.hid hca'
            have CB := Lib.hid hcb'
            have CL := Lib.hid hcl'
            have CZ := Lib.hid hcz'
            clear e1 e2 hca' hcb' hcl' hcz'
            have k0 : (0 : Int) ≤ (n : Int) := by omega
            have k1 : (n : Int) ≤ (c0 : Int) := by omega
            have k2 : (n : Int) ≤ (c1 : Int) := by omega
            obtain ⟨wo, rfl⟩ : ∃ wo : World, wo = wr := ⟨_, rfl⟩
            go_upto_region 10 with fail
            replace F := Lib.hid F.out.drew
            refine wp_region_any (by kernel_rfl) ?_
            change wpAny _ _ _ _ _ _ _ (World.drew _)
            refine wpAny_take (i := 0) (v := ?_) rfl (by kernel_rfl) (by kernel_rfl) (by kernel_rfl) (fun _ _ _ h => h) (Or.inl ⟨by kernel_rfl, ?_⟩) ?_
            rotate_left
            · (intro w'; go_simp; try with_reducible rfl)
            refine wpAny_take (i := 1) (v := ?_) rfl (by kernel_rfl) (by kernel_rfl) (by kernel_rfl) (fun _ _ _ h => h) (Or.inl ⟨by kernel_rfl, ?_⟩) ?_
            rotate_left
            · (intro w'; go_simp; try with_reducible rfl)
            refine wpAny_take (i := 2) (v := ?_) rfl (by kernel_rfl) (by kernel_rfl) (by kernel_rfl) (fun _ _ _ h => h) (Or.inl ⟨by kernel_rfl, ?_⟩) ?_
            rotate_left
            · (intro w'; go_simp; try with_reducible rfl)
            refine wpAny_take (i := 4) (v := ?_) rfl (by kernel_rfl) (by kernel_rfl) (by kernel_rfl) (fun _ _ _ h => h) (Or.inl ⟨by kernel_rfl, ?_⟩) ?_
            rotate_left
            · (intro w'; go_simp; try with_reducible rfl)
            refine wpAny_take (i := 5) (v := ?_) rfl (by kernel_rfl) (by kernel_rfl) (by kernel_rfl) (fun _ _ _ h => h) (Or.inl ⟨by kernel_rfl, ?_⟩) ?_
            rotate_left
            · (intro w'; go_simp; try with_reducible rfl)
            refine wpAny_take (i := 6) (v := ?_) rfl (by kernel_rfl) (by kernel_rfl) (by kernel_rfl) (fun _ _ _ h => h) (Or.inl ⟨by kernel_rfl, ?_⟩) ?_
            rotate_left
            · (intro w'; go_simp; try with_reducible rfl)
            refine wpAny_take (i := 9) (v := ?_) rfl (by kernel_rfl) (by kernel_rfl) (by kernel_rfl) (fun _ _ _ h => h) (Or.inl ⟨by kernel_rfl, ?_⟩) ?_
            rotate_left
            · (intro w'; go_simp; try with_reducible rfl)
            refine wpAny_take (i := 11) (v := ?_) rfl (by kernel_rfl) (by kernel_rfl) (by kernel_rfl) (fun _ _ _ h => h) (Or.inl ⟨by kernel_rfl, ?_⟩) ?_
            rotate_left
            · (intro w'; go_simp; try with_reducible rfl)
            refine wpAny_ready (rs := [3]) (by kernel_rfl) (by simp) ?_
            refine AllReady.cons rfl (fun K hK => ?_) AllReady.nil
            go_simp
            go_wp2_with (go_at_call 10; refine (sum_any a0 n c0 ka _ HLA.out (by omega) (by omega) (F.out.a)).mono ?_; rintro e w' ⟨rfl, hb⟩; rw [CA.out]; replace F := Lib.hid (F.out.below hb); clear hb)
            refine wpAny_ready (rs := [7]) (by kernel_rfl) (by simp) ?_
            refine AllReady.cons rfl (fun K hK => ?_) AllReady.nil
            go_simp
            go_wp2_with (go_at_call 10; refine (sum_any a1 n c1 kb _ HLB.out (by omega) (by omega) (F.out.b)).mono ?_; rintro e w' ⟨rfl, hb⟩; rw [CB.out]; replace F := Lib.hid (F.out.below hb); clear hb)
            refine wpAny_take (i := 8) (v := ?_) rfl (by kernel_rfl) (by kernel_rfl) (by kernel_rfl) (fun _ _ _ h => h) (Or.inl ⟨by kernel_rfl, ?_⟩) ?_
            rotate_left
            · (intro w'; go_simp; try with_reducible rfl)
            refine wpAny_ready (rs := [10]) (by kernel_rfl) (by simp) ?_
            refine AllReady.cons rfl (fun K hK => ?_) AllReady.nil
            go_simp
            go_wp2_with (go_at_call 10; refine (sum_any (some ⟨g1, 0, none⟩) n n kl _ HLL.out (by omega) (by omega) (F.out.l)).mono ?_; rintro e w' ⟨rfl, hb⟩; rw [CL.out]; replace F := Lib.hid (F.out.below hb); clear hb)
            refine wpAny_ready (rs := [12]) (by kernel_rfl) (by simp) ?_
            refine AllReady.cons rfl (fun K hK => ?_) AllReady.nil
            go_simp
            go_wp2_with (go_at_call 10; refine (sum_any (some ⟨g2, 0, none⟩) n n (List.replicate n 0) _ (by simp) (by omega) (by omega) (F.out.z)).mono ?_; rintro e w' ⟨rfl, hb⟩; rw [CZ.out]; replace F := Lib.hid (F.out.below hb); clear hb)
            refine wpAny_take (i := 13) (v := ?_) rfl (by kernel_rfl) (by kernel_rfl) (by kernel_rfl) (fun _ _ _ h => h) (Or.inl ⟨by kernel_rfl, ?_⟩) ?_
            rotate_left
            · (intro w'; go_simp; try with_reducible rfl)
            refine wpAny_take (i := 14) (v := ?_) rfl (by kernel_rfl) (by kernel_rfl) (by kernel_rfl) (fun _ _ _ h => h) (Or.inl ⟨by kernel_rfl, ?_⟩) ?_
            rotate_left
            · (intro w'; go_simp; try with_reducible rfl)
            refine wpAny_done (by kernel_rfl) ?_ _
            go_simp
            clear x1 x2
            rcases Nat.eq_zero_or_pos n with hz | hz
            · have tz : ((n : Int) == 0) = true := by rw [beq_iff_eq]; omega
              clear k0 k1 k2
              go_wp2_with fail
              go_ret
              exact ⟨rfl, below_of_grown F.out.g⟩
            · have tz : ((n : Int) == 0) = false := by rw [beq_eq_false_iff_ne]; omega
              obtain ⟨i0, hi, hz0, hz1, hz2⟩ := info_parts infoU8
              obtain ⟨U, hU⟩ : ∃ U : Nat, IntKind.u64.wrap a2 = (U : Int) := ⟨(IntKind.u64.wrap a2).toNat, by rw [IntKind.wrap_u64]; omega⟩
              obtain ⟨Q, hQ⟩ : ∃ Q : Nat, (U : Int) % (8 * (n : Int)) = (Q : Int) := ⟨U % (8 * n), by rw [Int.natCast_emod, Int.natCast_mul]; rfl⟩
              have hQn : Q < 8 * n := by
                have := Int.emod_lt_of_pos (U : Int) (show (0 : Int) < 8 * (n : Int) by omega)
                omega
              obtain ⟨q, hq⟩ : ∃ q : Nat, (Q : Int) / 8 = (q : Int) := ⟨Q / 8, by omega⟩
              obtain ⟨r, hr⟩ : ∃ r : Nat, (Q : Int) % 8 = (r : Int) := ⟨Q % 8, by omega⟩
              have hqn : q < n := by omega
              have hr8 : r < 8 := by omega
              have q0 : (0 : Int) ≤ (q : Int) := by omega
              have q1 : (q : Int) < (n : Int) := by omega
              have r0 : (0 : Int) ≤ (r : Int) := by omega
              have q2 : IntKind.i64.wrap (q : Int) = (q : Int) := by rw [IntKind.wrap_i64]; omega
              have r2 : ((Q : Int)).tmod 8 = (r : Int) := by rw [Int.tmod_eq_emod_of_nonneg (by omega)]; exact hr
              obtain ⟨D, hD0, hD1, hsh⟩ : ∃ D : Nat, 0 < D ∧ D < 256 ∧ IntKind.u8.wrap (2 ^ r) = (D : Int) := by
                rcases r with _ | _ | _ | _ | _ | _ | _ | _ | r
                · exact ⟨1, by decide, by decide, by decide⟩
                · exact ⟨2, by decide, by decide, by decide⟩
                · exact ⟨4, by decide, by decide, by decide⟩
                · exact ⟨8, by decide, by decide, by decide⟩
                · exact ⟨16, by decide, by decide, by decide⟩
                · exact ⟨32, by decide, by decide, by decide⟩
                · exact ⟨64, by decide, by decide, by decide⟩
                · exact ⟨128, by decide, by decide, by decide⟩
                · omega
              have hxx := u8_xor_nat (ka[q]'(by rw [HLA.out]; exact hqn)).toNat D (UInt8.toNat_lt _) hD1
              obtain ⟨Y, hY⟩ : ∃ Y, (ka[q]'(by rw [HLA.out]; exact hqn)).toNat ^^^ D = Y := ⟨_, rfl⟩
              rw [hY] at hxx
              have hYl : Y < 256 := by rw [← hY]; exact Nat.xor_lt_two_pow (n := 8) (UInt8.toNat_lt _) hD1
              have HTU : Hid (crc (nums (ka.set q Y.toUInt8)) ≠ crc (nums ka)) := Lib.hid (turned ka q D Y (by rw [HLA.out]; exact hqn) hD0 hD1 hY.symm)
              have HBV : Hid ((bv ka).set q (Value.int .u8 (Y : Int)) = bv (ka.set q Y.toUInt8)) := Lib.hid (by unfold bv; rw [List.map_set]; congr 2; rw [toU8 Y hYl])
              obtain ⟨x, hx⟩ : ∃ x, (ka[q]'(by rw [HLA.out]; exact hqn)).toNat = x := ⟨_, rfl⟩
              rw [hx] at hxx
              have HX := Lib.hid hx
              clear hx hY hYl
              go_wp2_with (at_builtin; refine wpList_append_any _ rfl (.tmp 70) (.tmp 73) _ rfl w.heap.size 5 i0 _ 1 1 Try.underlying22 hi hz0 hz1 hz2 rfl (by omega) _ 0 [] rfl (World.ownsRow_lit _ #[] 0 F.out.g.size (by decide) rfl) _ a0 n c0 (bv ka) rfl (F.out.a.alloc (Nat.le_refl _) _) (bv_one ka) ?c1 ?c2 ?c3 ?_; rotate_left 3; intro v1 wa hown1 hg1 hat1; obtain ⟨g3, cap, rfl, hgw, hgl, hgc, hgm, hcells, hfz⟩ := own_shape hown1 (by omega))
              case c1 => unfold maxLen; omega
              case c2 => omega
              case c3 => simp; exact Nat.le_succ_of_le F.out.g.size
              have c4 := hcells q _ (bv_get ka q (by rw [HLA.out]; exact hqn))
              have f4 := hfz q
              rw [HX.out] at c4
              rw [Nat.zero_add] at hown1 hgc
              unfold maxLen at hgm
              have GA := F.out.app hg1
              have PP := Lib.hid (Last.of GA hgw hown1 HBV.out HA.out)
              have HLT : Hid ((ka.set q Y.toUInt8).length = n) := Lib.hid (by rw [List.length_set]; exact HLA.out)
              obtain ⟨kt, hkt⟩ : ∃ kt, ka.set q Y.toUInt8 = kt := ⟨_, rfl⟩
              rw [hkt] at PP HLT HTU
              obtain ⟨ct, hct⟩ : ∃ ct, crc (nums kt) = ct := ⟨_, rfl⟩
              rw [hct, CA.out] at HTU
              have CT := Lib.hid hct
              have tne : (((ct : Nat) : Int) == ((ca : Nat) : Int)) = false := by
                have := HTU.out
                rw [beq_eq_false_iff_ne]; omega
              have tne2 : (((ct : Nat) : Int) != ((ca : Nat) : Int)) = true := by
                have := HTU.out
                rw [bne_iff_ne]; omega
              clear GA hown1 hg1 hat1 hcells hfz HBV HTU HX hkt hct CB CL CZ T F HB HLB HLL hi hz0 hz1 hz2 hU hQ hD1
              go_wp2_with fail
              refine wp_region_any (by kernel_rfl) ?_
              change wpAny _ _ _ _ _ _ _ (World.drew _)
              refine wpAny_take (i := 0) (v := ?_) rfl (by kernel_rfl) (by kernel_rfl) (by kernel_rfl) (fun _ _ _ h => h) (Or.inl ⟨by kernel_rfl, ?_⟩) ?_
              rotate_left
              · (intro w'; go_simp; try with_reducible rfl)
              refine wpAny_take (i := 1) (v := ?_) rfl (by kernel_rfl) (by kernel_rfl) (by kernel_rfl) (fun _ _ _ h => h) (Or.inl ⟨by kernel_rfl, ?_⟩) ?_
              rotate_left
              · (intro w'; go_simp; try with_reducible rfl)
              refine wpAny_take (i := 2) (v := ?_) rfl (by kernel_rfl) (by kernel_rfl) (by kernel_rfl) (fun _ _ _ h => h) (Or.inl ⟨by kernel_rfl, ?_⟩) ?_
              rotate_left
              · (intro w'; go_simp; try with_reducible rfl)
              refine wpAny_take (i := 3) (v := ?_) rfl (by kernel_rfl) (by kernel_rfl) (by kernel_rfl) (fun _ _ _ h => h) (Or.inl ⟨by kernel_rfl, ?_⟩) ?_
              rotate_left
              · (intro w'; go_simp; try with_reducible rfl)
              refine wpAny_take (i := 5) (v := ?_) rfl (by kernel_rfl) (by kernel_rfl) (by kernel_rfl) (fun _ _ _ h => h) (Or.inl ⟨by kernel_rfl, ?_⟩) ?_
              rotate_left
              · (intro w'; go_simp; try with_reducible rfl)
              refine wpAny_take (i := 6) (v := ?_) rfl (by kernel_rfl) (by kernel_rfl) (by kernel_rfl) (fun _ _ _ h => h) (Or.inl ⟨by kernel_rfl, ?_⟩) ?_
              rotate_left
              · (intro w'; go_simp; try with_reducible rfl)
              refine wpAny_take (i := 7) (v := ?_) rfl (by kernel_rfl) (by kernel_rfl) (by kernel_rfl) (fun _ _ _ h => h) (Or.inl ⟨by kernel_rfl, ?_⟩) ?_
              rotate_left
              · (intro w'; go_simp; try with_reducible rfl)
              refine wpAny_ready (rs := [4]) (by kernel_rfl) (by simp) ?_
              refine AllReady.cons rfl (fun K hK => ?_) AllReady.nil
              go_simp
              (refine hK _ _ ?_; clear hK K)
              refine wpAny_take (i := 8) (v := ?_) rfl (by kernel_rfl) (by kernel_rfl) (by kernel_rfl) (fun _ _ _ h => h) (Or.inl ⟨by kernel_rfl, ?_⟩) ?_
              rotate_left
              · (intro w'; go_simp; try with_reducible rfl)
              refine wpAny_take (i := 9) (v := ?_) rfl (by kernel_rfl) (by kernel_rfl) (by kernel_rfl) (fun _ _ _ h => h) (Or.inl ⟨by kernel_rfl, ?_⟩) ?_
              rotate_left
              · (intro w'; go_simp; try with_reducible rfl)
              refine wpAny_ready (rs := [10]) (by kernel_rfl) (by simp) ?_
              refine AllReady.cons rfl (fun K hK => ?_) AllReady.nil
              go_simp
              (refine hK _ _ ?_; clear hK K)
              refine wpAny_done (by kernel_rfl) ?_ _
              go_simp
              clear hsh hxx q2 r2 c4 f4 q0 q1 r0 hq hr
              go_upto_region 17 with fail
              replace PP := Lib.hid PP.out.drew
              refine wp_region_any (by kernel_rfl) ?_
              change wpAny _ _ _ _ _ _ _ (World.drew _)
              refine wpAny_take (i := 0) (v := ?_) rfl (by kernel_rfl) (by kernel_rfl) (by kernel_rfl) (fun _ _ _ h => h) (Or.inl ⟨by kernel_rfl, ?_⟩) ?_
              rotate_left
              · (intro w'; go_simp; try with_reducible rfl)
              refine wpAny_take (i := 2) (v := ?_) rfl (by kernel_rfl) (by kernel_rfl) (by kernel_rfl) (fun _ _ _ h => h) (Or.inl ⟨by kernel_rfl, ?_⟩) ?_
              rotate_left
              · (intro w'; go_simp; try with_reducible rfl)
              refine wpAny_take (i := 3) (v := ?_) rfl (by kernel_rfl) (by kernel_rfl) (by kernel_rfl) (fun _ _ _ h => h) (Or.inl ⟨by kernel_rfl, ?_⟩) ?_
              rotate_left
              · (intro w'; go_simp; try with_reducible rfl)
              refine wpAny_take (i := 4) (v := ?_) rfl (by kernel_rfl) (by kernel_rfl) (by kernel_rfl) (fun _ _ _ h => h) (Or.inl ⟨by kernel_rfl, ?_⟩) ?_
              rotate_left
              · (intro w'; go_simp; try with_reducible rfl)
              refine wpAny_ready (rs := [1]) (by kernel_rfl) (by simp) ?_
              refine AllReady.cons rfl (fun K hK => ?_) AllReady.nil
              go_simp
              go_wp2_with (go_at_call 10; refine (sum_any (some ⟨g3, 0, none⟩) n cap kt _ HLT.out (by omega) (by omega) PP.out.2.1).mono ?_; rintro e w' ⟨rfl, hb⟩; rw [CT.out]; replace PP := Lib.hid (PP.out.below hb); clear hb)
              refine wpAny_ready (rs := [5]) (by kernel_rfl) (by simp) ?_
              refine AllReady.cons rfl (fun K hK => ?_) AllReady.nil
              go_simp
              go_wp2_with (go_at_call 10; refine (sum_any a0 n c0 ka _ HLA.out (by omega) (by omega) PP.out.2.2).mono ?_; rintro e w' ⟨rfl, hb⟩; rw [CA.out]; replace PP := Lib.hid (PP.out.below hb); clear hb)
              refine wpAny_take (i := 6) (v := ?_) rfl (by kernel_rfl) (by kernel_rfl) (by kernel_rfl) (fun _ _ _ h => h) (Or.inl ⟨by kernel_rfl, ?_⟩) ?_
              rotate_left
              · (intro w'; go_simp; try with_reducible rfl)
              refine wpAny_take (i := 7) (v := ?_) rfl (by kernel_rfl) (by kernel_rfl) (by kernel_rfl) (fun _ _ _ h => h) (Or.inl ⟨by kernel_rfl, ?_⟩) ?_
              rotate_left
              · (intro w'; go_simp; try with_reducible rfl)
              refine wpAny_done (by kernel_rfl) ?_ _
              go_simp
              go_wp2_with fail
              go_ret
              exact ⟨rfl, below_of_grown PP.out.1⟩

set_option maxRecDepth 100000 in
theorem lifted (os : Os) (started : os.Started) (H : Type) (enc : TypeId × Value → H) :
    ReturnsInHanded {} Try.checked os 5 .any (Rows.wireJoinsSpec.pre6 enc Try.prog Try.f5 Rows.wireJoinsRow.domain false) (Rows.wireJoinsSpec.post enc Try.prog Try.f5 false true false false) := by
  refine returnsInHanded_of_change_sized (C := Try.checked) own started (by kernel_rfl) Try.func5
    (ChangeSpec.witness6 (enc := enc) (C := Try.checked) false ⟨#[], #[.slice none 0 0, .slice none 0 0, .int .i64 0], []⟩ 8 (by kernel_rfl) (by kernel_rfl) (by kernel_rfl) (by kernel_rfl)) ?_
  intro W base args ds gs before hval0 hW hcnd hsz0 _
  have hsz : (DataW.weightsEach Try.prog (Try.f5.params.toList ++ Rows.wireJoinsSpec.plain.varTypes Try.prog) (ds ++ gs)).all (· ≤ reachBytes) = true := hsz0
  clear hsz0
  have hval : ∀ (j : Nat) t v, Try.f5.params[j]? = some t → args[j]? = some v → Value.okWide Try.prog W .any base t v := hval0
  have hW' := hW
  obtain ⟨p, q, hA0, hV, rfl, hfz, hnd⟩ := hW
  have hA : DataW.TrodAll enc Try.prog W 0 (fun _ => true) true Try.f5.params.toList args.toList ds p := hA0
  rw [Try.params5] at hA hval hsz
  obtain ⟨v0, vs0, d0, ds0, p0, q0, hargs, rfl, rfl, h0, r0⟩ := trodAll_cons hA
  obtain ⟨v1, vs1, d1, ds1, p1, q1, rfl, rfl, rfl, h1, r1⟩ := trodAll_cons r0
  obtain ⟨v2, vs2, d2, ds2, p2, q2, rfl, rfl, rfl, h2, r2⟩ := trodAll_cons r1
  obtain ⟨rfl, rfl, rfl⟩ := trodAll_nil r2
  obtain rfl : args = #[v0, v1, v2] := by cases args; simp_all
  obtain ⟨rfl, rfl⟩ := trodVars_none hV
  clear hA0 hval0
  obtain ⟨a0, n0, c0, rfl⟩ := okWide_slice Try.underlying22 (hval 0 22 v0 rfl rfl)
  have k0 := h0
  have lt0 : ∀ x ∈ p0, x.block < W.heap.size := by obtain ⟨m, hm⟩ := k0; exact DataW.trod_lt m _ _ _ hm
  obtain ⟨z0, w0⟩ : ∃ zs, InRow .u8 1 W a0 n0 c0 zs := by
    obtain ⟨fuel, hf⟩ := h0
    rcases open_ints Try.underlying22 Try.underlying5 (by kernel_rfl) hf with ⟨hcs, _⟩ | ⟨x, l, c, zs, hcs, _, hl, hm, hz, hx, hcell, hwz⟩
    · simp [Value.cells] at hcs
      obtain ⟨rfl, rfl, rfl⟩ := hcs
      exact ⟨[], InRow.nil _ _ _⟩
    · simp [Value.cells] at hcs
      obtain ⟨rfl, rfl, rfl⟩ := hcs
      simp only [Prod.mk.injEq] at hx
      obtain ⟨rfl, rfl⟩ := hx
      simp only [if_true] at hz
      have hs := sized_slice hsz (j := 0) (t := 22) (e := 5) rfl rfl Try.underlying22
      rw [show Try.prog.bytesOf 5 = 1 by kernel_rfl] at hs
      simp only [lits, List.length_map, List.length_take, List.length_drop, reachBytes] at hs
      exact ⟨zs.take _, InRow.of_open hl hm hz (by omega) hcell hwz (fun y hy => lt0 y hy)⟩
  obtain ⟨a1, n1, c1, rfl⟩ := okWide_slice Try.underlying22 (hval 1 22 v1 rfl rfl)
  have k1 := h1
  have lt1 : ∀ x ∈ p1, x.block < W.heap.size := by obtain ⟨m, hm⟩ := k1; exact DataW.trod_lt m _ _ _ hm
  obtain ⟨z1, w1⟩ : ∃ zs, InRow .u8 1 W a1 n1 c1 zs := by
    obtain ⟨fuel, hf⟩ := h1
    rcases open_ints Try.underlying22 Try.underlying5 (by kernel_rfl) hf with ⟨hcs, _⟩ | ⟨x, l, c, zs, hcs, _, hl, hm, hz, hx, hcell, hwz⟩
    · simp [Value.cells] at hcs
      obtain ⟨rfl, rfl, rfl⟩ := hcs
      exact ⟨[], InRow.nil _ _ _⟩
    · simp [Value.cells] at hcs
      obtain ⟨rfl, rfl, rfl⟩ := hcs
      simp only [Prod.mk.injEq] at hx
      obtain ⟨rfl, rfl⟩ := hx
      simp only [if_true] at hz
      have hs := sized_slice hsz (j := 1) (t := 22) (e := 5) rfl rfl Try.underlying22
      rw [show Try.prog.bytesOf 5 = 1 by kernel_rfl] at hs
      simp only [lits, List.length_map, List.length_take, List.length_drop, reachBytes] at hs
      exact ⟨zs.take _, InRow.of_open hl hm hz (by omega) hcell hwz (fun y hy => lt1 y hy)⟩
  obtain ⟨a2, rfl, rfl, rfl, w2⟩ := open_int Try.underlying3 (hval 2 3 v2 rfl rfl) h2
  simp only [List.append_nil] at hW'
  refine (walk W a0 n0 c0 z0 w0 a1 n1 c1 z1 w1 a2 w2).mono fun e W' ⟨he, bel⟩ => ?_
  subst he
  exact ⟨_, rfl, _, _, _, [], _, [], hW', trodAll_mk1 (shut_bool Try.underlying4 _), (trodAll_cons_mk (Below.trod laidOut (by kernel_rfl) (of_decide_eq_true (by kernel_rfl)) k0 bel lt0) (trodAll_cons_mk (Below.trod laidOut (by kernel_rfl) (of_decide_eq_true (by kernel_rfl)) k1 bel lt1) (trodAll_cons_mk (shut_int Try.underlying3 w2) trodAll_mk0))), rfl, bel.frame _, fun h => by cases h⟩

theorem proved : Rows.WireJoinsSaid :=
  OpenClaim.holds_of_wide 5 Try.f5 rfl rfl rfl rfl rfl rfl rfl ⟨rfl, rfl, rfl, rfl, rfl⟩ rfl rfl rfl rfl rfl (by kernel_rfl) Try.func5 (by kernel_rfl)
    (of_decide_eq_true (by kernel_rfl)) (by unfold Func.isWrapper; rw [if_neg (of_decide_eq_false (by kernel_rfl))]; exact ⟨rfl, rfl⟩)
    (fun os started H enc _ => lifted os started H enc)
#print axioms proved
end Go.Proofs.Ytlccikpmnhjfoaa.wireJoins

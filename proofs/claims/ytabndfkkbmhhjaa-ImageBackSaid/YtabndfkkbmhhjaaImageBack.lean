/-
  ImageBack: for every input the Go function answers true, and the input reads as it did. No condition.
-/
import Derived.Test.YtabndfkkbmhhjaaRows
import Derived.Test.YtabndfkkbmhhjaaRow
import Derived.Test.YtabndfkkbmhhjaaImb
import Derived.Test.YtabndfkkbmhhjaaBytes
import Derived.Deep.DeepCutAuto
namespace Go.Proofs.Ytabndfkkbmhhjaa.imageBack
open Go.ChangeShapes Go.WideShapes Go.ChangeAt Go.RowKit
open Go.ChangeMaps (open_string shut_string)
set_option linter.unusedVariables false
set_option linter.unusedSimpArgs false

theorem own : ownKnob Try.prog.godebug = none := by kernel_rfl
theorem laidOut : laidOutB Try.prog = true := by kernel_rfl

open Go.Deep
theorem decErr_ne (l : List UInt8) : (decErr l == 0) = false ∧ (decErr l != 0) = true := by
  unfold decErr
  repeat' split
  all_goals exact ⟨rfl, rfl⟩
theorem wpList_append_eq {w : World} {ops : Array Oper} {rest : List Oper} {o : Oper} {a : Act} {Q : Exit → Act → World → Prop} (hgd : o.guard = none) (s x : Operand) (t : TypeId)
    (ho : o.op = .call { callee := .builtin .append, args := #[s, x], argTypes := #[t, t] }) (v u v' : Value) (hs : a.eval s = v) (hx : a.eval x = u) (w' : World) (hrun : (Builtin.append_ #[t, t] o.type #[v, u]).run Try.prog w = .ok v' w')
    (h : wpList Try.prog ops Q rest (a.put o.dst v') w') : wpList Try.prog ops Q (o :: rest) a w :=
  wpList_plain hgd fun K hK => by
    unfold Oper.wp execOp
    simp only [ho, resolve, invoke, builtin, Sem.run_bind, Sem.run_pure, Result.andThen_ok, List.map_toArray, List.map_cons, List.map_nil, hs, hx, hrun]
    exact hK _ _ h
set_option maxRecDepth 100000
set_option maxHeartbeats 8000000 in
/-- the walk: the Go text answers true and writes nothing that was there -/
theorem walk (w : World) (a0 : Option Addr) (n0 c0 : Nat) (z0 : List Int) (w0 : InRow .u8 1 w a0 n0 c0 z0) (a1 : Bool) :
    Calls Try.prog 6 #[.slice a0 n0 c0, .bool a1] w fun e w' => e = .returned (.bool true) ∧ Below w.heap.size w w' := by
  obtain ⟨l0, hl0, hc0, hm0, hR0⟩ := w0.bytes
  obtain ⟨i0, hi, hz0, hz1, hz2⟩ := info_parts infoU8
  have HR0 := Lib.hid hR0
  have HL0 := Lib.hid hl0
  have hcs := fun (C : Array Value) (n c : Nat) => Lib.run_convert_bytes_const (P := Try.prog) w 31 5 C n c Try.underlying31 Try.underlying5
  have nn : (0 : Int) ≤ (n0 : Int) := by omega
  have HAW := Lib.hid (fun W => image_awake W)
  clear w0 hR0 hl0
  go_enter Try.func6, Try.ntmps6
  go_upto_region 1 with fail
  go_cut [14] from 9 to 14 (fun b wx => ∃ tb : Bool, b = .bool tb ∧ (tb = true → n0 < 70000) ∧ w = wx)
  case first =>
    cases a1 with
    | false =>
      go_wp2_with fail
      go_meet
      exact ⟨false, rfl, fun h => (by cases h), rfl⟩
    | true =>
      go_wp2_with fail
      go_meet
      exact ⟨_, rfl, fun h => (by have h2 := of_decide_eq_true h; omega), rfl⟩
  case rest =>
    obtain ⟨tb, rfl, htb, rfl⟩ := hcut
    have HTB := Lib.hid htb
    clear htb
    go_upto_if 14 with fail
    go_cut [0] from 15 to 19 (fun b wx => ∃ A n c l, b = .slice A n c ∧ l.length = n ∧ n ≤ c ∧ c ≤ 9223372036854775807 ∧ Reads wx wx.heap.size 1 A n (bv l) ∧ Below w.heap.size w wx)
    case first =>
      cases tb with
      | false =>
        go_wp2_with fail
        go_meet
        exact ⟨a0, n0, c0, l0, rfl, HL0.out, hc0, by omega, HR0.out, Below.refl _ _⟩
      | true =>
        have hlt := HTB.out rfl
        skip
        · skip
          obtain ⟨W1, hW1⟩ : ∃ W, W = w.alloc (.cells #[.int .u8 65, .int .u8 85, .int .u8 83, .int .u8 80] 5 (4, 5)) := ⟨_, rfl⟩
          have ha1 : Below w.heap.size w W1 := by rw [hW1]; exact (Below.refl _ _).alloc (Nat.le_refl _) _
          have hob : OwnB w.heap.size W1 (.slice (some ⟨w.heap.size, 0, none⟩) 4 4) magicB := .inr ⟨w.heap.size, (4, 5), rfl, by decide, Nat.le_refl _, by rw [hW1]; exact heap_alloc_new w _, by decide⟩
          have HOB := Lib.hid hob
          have HA1 := Lib.hid ha1
          have HR1 : Hid (Reads W1 w.heap.size 1 a0 n0 (bv l0)) := Lib.hid (HR0.out.below ha1)
          have HW1 := Lib.hid hW1
          have CSU := Lib.hid (fun A n c l W (hn : List.length l = n) h1 h2 h3 h4 => summed_any A n c l W hn h1 h2 h3 h4)
          clear ha1 hob hW1
          by_cases hz : n0 = 0
          · subst hz
            have hap : (Builtin.append_ #[31, 31] 31 #[.slice (some ⟨w.heap.size, 0, none⟩) 4 4, .slice a0 0 c0]).run Try.prog (w.alloc (.cells #[.int .u8 65, .int .u8 85, .int .u8 83, .int .u8 80] 5 (4, 5))) = .ok (.slice (some ⟨w.heap.size, 0, none⟩) 4 4) (w.alloc (.cells #[.int .u8 65, .int .u8 85, .int .u8 83, .int .u8 80] 5 (4, 5))) := by
              cases a0 <;> simp [Builtin.append_, run_underlying Try.underlying31, sizeOf, typeInfo, hi, Builtin.lenOf, Builtin.firstCells, storeCells, loadCells, loadCellsFrom]
            have hrm := HOB.out.reads rfl
            have CQ := Lib.hid (CSU.out (some ⟨w.heap.size, 0, none⟩) 4 4 magicB W1 rfl (by decide) (by decide) (by decide) hrm)
            have HAP := Lib.hid hap
            clear hrm hap
            go_wp2_with (at_builtin; refine wpList_append_eq rfl (.tmp 16) (.tmp 17) 31 rfl (.slice (some ⟨w.heap.size, 0, none⟩) 4 4) (.slice a0 0 c0) _ rfl rfl _ HAP.out ?_)
            rw [← HW1.out]
            refine CQ.out.mono ?_
            rintro e w3 ⟨v, rfl, ho3, hb3⟩
            generalize magicB ++ sumBy magicB = lq at ho3
            obtain ⟨A3, c3, rfl⟩ := own_slice ho3
            have HO3 := Lib.hid ho3
            have HA3 := Lib.hid (HA1.out.trans (hb3.mono HA1.out.size))
            have hcp3 := own_caps ho3
            clear ho3 hb3 CQ
            go_wp2_with fail
            go_meet
            exact ⟨A3, _, c3, _, rfl, rfl, hcp3.1, by have := hcp3.2; unfold maxLen at this; omega, Reads.of_own HO3.out, HA3.out⟩
          · obtain ⟨N, hN⟩ : ∃ N, 4 + n0 = N := ⟨_, rfl⟩
            have HNN : Hid (magicB.length + n0 = N) := Lib.hid hN
            have HB9 : Hid (magicB.length + n0 ≤ 70368744177664) := Lib.hid (by have : magicB.length = 4 := rfl; omega)
            have H1N : Hid (1 ≤ n0) := Lib.hid (by omega)
            have hN9 : Hid (N ≤ 70004) := Lib.hid (by omega)
            clear hN hz
            go_wp2_with (at_builtin; rw [← HW1.out]; refine wpList_append_b rfl (.tmp 16) (.tmp 17) 31 rfl (B := w.heap.size) (v := .slice (some ⟨w.heap.size, 0, none⟩) 4 4) (l := magicB) i0 Try.underlying31 hi hz0 hz1 hz2 rfl HOB.out w.heap.size a0 n0 c0 l0 rfl HR1.out H1N.out HB9.out HA1.out.size N HNN.out ?_; intro v2 w2 ho2 hg2; obtain ⟨A2, c2, rfl⟩ := own_slice ho2; have HO2 := Lib.hid ho2; have HA2 : Hid (Below w.heap.size w w2) := Lib.hid (HA1.out.grown hg2 HA1.out.size (fun q hq => (HOB.out.lt hq).2)); clear ho2 hg2)
            have hcp := own_caps HO2.out
            refine (CSU.out A2 N c2 (magicB ++ l0) w2 (by rw [List.length_append, HL0.out]; exact HNN.out) hcp.1 (by have := hcp.2; unfold maxLen at this; omega) (by have := hN9.out; omega) (Reads.of_own (by rw [bv_app]; exact HO2.out))).mono ?_
            rintro e w3 ⟨v, rfl, ho3, hb3⟩
            generalize magicB ++ l0 ++ sumBy (magicB ++ l0) = lq at ho3
            obtain ⟨A3, c3, rfl⟩ := own_slice ho3
            have HO3 := Lib.hid ho3
            have HA3 := Lib.hid (HA2.out.trans (hb3.mono HA2.out.size))
            have hcp3 := own_caps ho3
            clear ho3 hb3 hcp
            go_wp2_with fail
            go_meet
            exact ⟨A3, _, c3, _, rfl, rfl, hcp3.1, by have := hcp3.2; unfold maxLen at this; omega, Reads.of_own HO3.out, HA3.out⟩
    case rest =>
      obtain ⟨A, n, c, l, rfl, hn, hc, hm, hR, hbw⟩ := hcut
      have CD := Lib.hid (decode_any A n c l wc hn hc hm hR)
      have HR := Lib.hid hR
      have HN := Lib.hid hn
      have HBW := Lib.hid hbw
      clear hn hc hm hR hbw hcs
      go_wp2_with fail
      refine CD.out.mono ?_
      rintro e w3 ⟨hb3, ⟨y, vk, vkk, vs, vc, hi3, rfl, htab⟩ | ⟨hno, rfl⟩⟩
      · obtain ⟨A1, x1, rfl, _, _⟩ := htab.keys.slice
        obtain ⟨B1, x2, rfl, _, _⟩ := htab.kinds.slice
        obtain ⟨C1, x3, rfl, _, _⟩ := htab.states.slice
        obtain ⟨D1, x4, rfl, _, _⟩ := htab.codes.slice
        obtain ⟨W4, hW4⟩ : ∃ W, W = w3.alloc (.cells #[.int .i64 y.strategy, .slice A1 y.keys.length x1, .slice B1 y.kinds.length x2, .int .i64 y.syms, .int .i64 y.runs, .int .i64 y.cells, .slice C1 y.states.length x3, .slice D1 y.codes.length x4] 27) := ⟨_, rfl⟩
        have ha4 : Below w3.heap.size w3 W4 := by rw [hW4]; exact (Below.refl _ _).alloc (Nat.le_refl _) _
        have HBX : Hid (Blk W4 w3.heap.size 27 #[.int .i64 y.strategy, .slice A1 y.keys.length x1, .slice B1 y.kinds.length x2, .int .i64 y.syms, .int .i64 y.runs, .int .i64 y.cells, .slice C1 y.states.length x3, .slice D1 y.codes.length x4]) := Lib.hid (by rw [hW4]; exact Blk.new _ _ _)
        have HT4 := Lib.hid (htab.below ha4)
        have HB34 := Lib.hid (hb3.trans (ha4.mono hb3.size))
        have HIM := Lib.hid hi3
        have HW4 := Lib.hid hW4
        clear hb3 hi3 htab ha4 hW4 CD
        go_upto_region 4 with fail
        rw [← HW4.out]
        clear HW4
        go_wp2_with fail
        refine (HAW.out _).mono ?_
        rintro e w5 ⟨rfl, hb5⟩
        have CE := Lib.hid (encode_any y _ _ _ _ w5 (HT4.out.below hb5))
        have HB35 := Lib.hid (HB34.out.trans (hb5.mono HB34.out.size))
        obtain ⟨k0, k1, k2, k3, k4, k5, k6, k7⟩ := blk8s (HBX.out.below hb5 HBX.out.lt)
        clear hb5
        go_wp2_with fail
        refine CE.out.mono ?_
        rintro e w6 ⟨hb6, hor⟩
        have HB36 := Lib.hid (HB35.out.trans (hb6.mono HB35.out.size))
        obtain ⟨m, him, hlm, hlen⟩ := HIM.out
        have ht : tabF (.wr magicB) y = some (.wr (magicB ++ m), y) := him.enc magicB
        have hlm2 : (magicB ++ m).length + 4 = l.length := by rw [hlm]; simp only [List.length_append]; rfl
        rw [ht] at hor
        rcases hor with ⟨b, z, h1, h2⟩ | ⟨h1, _⟩
        · simp only [Option.some.injEq, Prod.mk.injEq, FSt.wr.injEq] at h1
          obtain ⟨rfl, _⟩ := h1
          rw [hlm2, HN.out, ← hlm] at h2
          rcases h2 with ⟨_, A6, c6, rfl, ho6⟩ | ⟨h3, _⟩
          · have hcv1 := reads_text (cap := c6) (Reads.of_own ho6) HN.out
            have hcv2 := reads_text (cap := c) (HR.out.below HB36.out) HN.out
            obtain ⟨BS, hBS⟩ : ∃ BS : ByteArray, BS = ⟨l.toArray⟩ := ⟨_, rfl⟩
            rw [← hBS] at hcv1 hcv2
            have HF := Lib.hid (HBW.out.trans (HB36.out.mono HBW.out.size))
            clear hb6 him hlm hlen ht hlm2 ho6 hBS k0 k1 k2 k3 k4 k5 k6 k7 CE
            go_wp2_with fail
            go_ret
            exact ⟨rfl, HF.out⟩
          · have := HN.out
            omega
        · cases h1
      · obtain ⟨q1, q2⟩ := decErr_ne l
        obtain ⟨ec, hec⟩ : ∃ ec, decErr l = ec := ⟨_, rfl⟩
        rw [hec] at q1 q2 ⊢
        have HB3 := Lib.hid hb3
        clear hb3 hec CD hno
        go_wp2_with fail
        refine (HAW.out _).mono ?_
        rintro e w5 ⟨rfl, hb5⟩
        have HB5 := Lib.hid ((HB3.out.alloc HB3.out.size _).trans (hb5.mono (Nat.le_trans HB3.out.size (by simp))))
        clear hb5
        go_wp2_with fail
        refine (HAW.out _).mono ?_
        rintro e w6 ⟨rfl, hb6⟩
        have HB6 := Lib.hid (HBW.out.trans ((HB5.out.trans (hb6.mono HB5.out.size)).mono HBW.out.size))
        clear hb6
        go_wp2_with fail
        go_ret
        exact ⟨rfl, HB6.out⟩

set_option maxRecDepth 100000 in
theorem lifted (os : Os) (started : os.Started) (H : Type) (enc : TypeId × Value → H) :
    ReturnsInHanded {} Try.checked os 6 .any (Rows.imageBackSpec.pre6 enc Try.prog Try.f6 Rows.imageBackRow.domain false) (Rows.imageBackSpec.post enc Try.prog Try.f6 false true false false) := by
  refine returnsInHanded_of_change_sized (C := Try.checked) own started (by kernel_rfl) Try.func6
    (ChangeSpec.witness6 (enc := enc) (C := Try.checked) false ⟨#[], #[.slice none 0 0, .bool false], []⟩ 8 (by kernel_rfl) (by kernel_rfl) (by kernel_rfl) (by kernel_rfl)) ?_
  intro W base args ds gs before hval0 hW hcnd hsz0 _
  have hsz : (DataW.weightsEach Try.prog (Try.f6.params.toList ++ Rows.imageBackSpec.plain.varTypes Try.prog) (ds ++ gs)).all (· ≤ reachBytes) = true := hsz0
  clear hsz0
  have hval : ∀ (j : Nat) t v, Try.f6.params[j]? = some t → args[j]? = some v → Value.okWide Try.prog W .any base t v := hval0
  have hW' := hW
  obtain ⟨p, q, hA0, hV, rfl, hfz, hnd⟩ := hW
  have hA : DataW.TrodAll enc Try.prog W 0 (fun _ => true) true Try.f6.params.toList args.toList ds p := hA0
  rw [Try.params6] at hA hval hsz
  obtain ⟨v0, vs0, d0, ds0, p0, q0, hargs, rfl, rfl, h0, r0⟩ := trodAll_cons hA
  obtain ⟨v1, vs1, d1, ds1, p1, q1, rfl, rfl, rfl, h1, r1⟩ := trodAll_cons r0
  obtain ⟨rfl, rfl, rfl⟩ := trodAll_nil r1
  obtain rfl : args = #[v0, v1] := by cases args; simp_all
  obtain ⟨rfl, rfl⟩ := trodVars_none hV
  clear hA0 hval0
  obtain ⟨a0, n0, c0, rfl⟩ := okWide_slice Try.underlying31 (hval 0 31 v0 rfl rfl)
  have k0 := h0
  have lt0 : ∀ x ∈ p0, x.block < W.heap.size := by obtain ⟨m, hm⟩ := k0; exact DataW.trod_lt m _ _ _ hm
  obtain ⟨z0, w0⟩ : ∃ zs, InRow .u8 1 W a0 n0 c0 zs := by
    obtain ⟨fuel, hf⟩ := h0
    rcases open_ints Try.underlying31 Try.underlying5 (by kernel_rfl) hf with ⟨hcs, _⟩ | ⟨x, l, c, zs, hcs, _, hl, hm, hz, hx, hcell, hwz⟩
    · simp [Value.cells] at hcs
      obtain ⟨rfl, rfl, rfl⟩ := hcs
      exact ⟨[], InRow.nil _ _ _⟩
    · simp [Value.cells] at hcs
      obtain ⟨rfl, rfl, rfl⟩ := hcs
      simp only [Prod.mk.injEq] at hx
      obtain ⟨rfl, rfl⟩ := hx
      simp only [if_true] at hz
      have hs := sized_slice hsz (j := 0) (t := 31) (e := 5) rfl rfl Try.underlying31
      rw [show Try.prog.bytesOf 5 = 1 by kernel_rfl] at hs
      simp only [lits, List.length_map, List.length_take, List.length_drop, reachBytes] at hs
      exact ⟨zs.take _, InRow.of_open hl hm hz (by omega) hcell hwz (fun y hy => lt0 y hy)⟩
  obtain ⟨a1, rfl, rfl, rfl⟩ := open_bool Try.underlying4 (hval 1 4 v1 rfl rfl) h1
  simp only [List.append_nil] at hW'
  refine (walk W a0 n0 c0 z0 w0 a1).mono fun e W' ⟨he, bel⟩ => ?_
  subst he
  exact ⟨_, rfl, _, _, _, [], _, [], hW', trodAll_mk1 (shut_bool Try.underlying4 _), (trodAll_cons_mk (Below.trod laidOut (by kernel_rfl) (of_decide_eq_true (by kernel_rfl)) k0 bel lt0) (trodAll_cons_mk (shut_bool Try.underlying4 a1) trodAll_mk0)), rfl, bel.frame _, fun h => by cases h⟩

theorem proved : Rows.ImageBackSaid :=
  OpenClaim.holds_of_wide 6 Try.f6 rfl rfl rfl rfl rfl rfl rfl ⟨rfl, rfl, rfl, rfl, rfl⟩ rfl rfl rfl rfl rfl (by kernel_rfl) Try.func6 (by kernel_rfl)
    (of_decide_eq_true (by kernel_rfl)) (by unfold Func.isWrapper; rw [if_neg (of_decide_eq_false (by kernel_rfl))]; exact ⟨rfl, rfl⟩)
    (fun os started H enc _ => lifted os started H enc)
#print axioms proved
end Go.Proofs.Ytabndfkkbmhhjaa.imageBack

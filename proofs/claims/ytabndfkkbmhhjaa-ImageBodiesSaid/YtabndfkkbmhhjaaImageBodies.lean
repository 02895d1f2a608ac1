/-
  ImageBodies: for every input the Go function answers true, and the input reads as it did. No condition.
-/
import Derived.Test.YtabndfkkbmhhjaaRows
import Derived.Test.YtabndfkkbmhhjaaRow
import Derived.Test.YtabndfkkbmhhjaaIda
import Derived.Test.YtabndfkkbmhhjaaBytes
namespace Go.Proofs.Ytabndfkkbmhhjaa.imageBodies
open Go.ChangeShapes Go.WideShapes Go.ChangeAt Go.RowKit
open Go.ChangeMaps (open_string shut_string)
set_option linter.unusedVariables false
set_option linter.unusedSimpArgs false

theorem own : ownKnob Try.prog.godebug = none := by kernel_rfl
theorem laidOut : laidOutB Try.prog = true := by kernel_rfl

open Go.Deep
theorem wpList_append_eq {w : World} {ops : Array Oper} {rest : List Oper} {o : Oper} {a : Act} {Q : Exit → Act → World → Prop} (hgd : o.guard = none) (s x : Operand) (t : TypeId)
    (ho : o.op = .call { callee := .builtin .append, args := #[s, x], argTypes := #[t, t] }) (v u v' : Value) (hs : a.eval s = v) (hx : a.eval x = u) (w' : World) (hrun : (Builtin.append_ #[t, t] o.type #[v, u]).run Try.prog w = .ok v' w')
    (h : wpList Try.prog ops Q rest (a.put o.dst v') w') : wpList Try.prog ops Q (o :: rest) a w :=
  wpList_plain hgd fun K hK => by
    unfold Oper.wp execOp
    simp only [ho, resolve, invoke, builtin, Sem.run_bind, Sem.run_pure, Result.andThen_ok, List.map_toArray, List.map_cons, List.map_nil, hs, hx, hrun]
    exact hK _ _ h
set_option maxRecDepth 100000
set_option maxHeartbeats 8000000 in
/-- the walk: the Go text answers true and writes nothing that was there -/
theorem walk (w : World) (a0 : Option Addr) (n0 c0 : Nat) (z0 : List Int) (w0 : InRow .u8 1 w a0 n0 c0 z0) :
    Calls Try.prog 5 #[.slice a0 n0 c0] w fun e w' => e = .returned (.bool true) ∧ Below w.heap.size w w' := by
  obtain ⟨l0, hl0, hc0, hm0, hR0⟩ := w0.bytes
  obtain ⟨i0, hi, hz0, hz1, hz2⟩ := info_parts infoU8
  have HR0 := Lib.hid hR0
  have HL0 := Lib.hid hl0
  have hcs := fun (C : Array Value) (n c : Nat) => Lib.run_convert_bytes_const (P := Try.prog) w 31 5 C n c Try.underlying31 Try.underlying5
  have nn : (0 : Int) ≤ (n0 : Int) := by omega
  have HAW := Lib.hid (fun W => image_awake W)
  clear w0 hR0 hl0
  go_enter Try.func5, Try.ntmps5
  by_cases hbig : 70000 < n0
  · have hb2 : (70000 : Int) < (n0 : Int) := by omega
    go_wp2_with fail
    refine (HAW.out _).mono ?_
    rintro e w5 ⟨rfl, hb5⟩
    have HB5 := Lib.hid hb5
    clear hb5
    go_wp2_with fail
    go_ret
    exact ⟨rfl, HB5.out⟩
  · have hb2 : (n0 : Int) ≤ 70000 := by omega
    obtain ⟨W1, hW1⟩ : ∃ W, W = w.alloc (.cells #[.int .u8 65, .int .u8 85, .int .u8 83, .int .u8 80] 5 (4, 5)) := ⟨_, rfl⟩
    have ha1 : Below w.heap.size w W1 := by rw [hW1]; exact (Below.refl _ _).alloc (Nat.le_refl _) _
    have hob : OwnB w.heap.size W1 (.slice (some ⟨w.heap.size, 0, none⟩) 4 4) magicB := .inr ⟨w.heap.size, (4, 5), rfl, by decide, Nat.le_refl _, by rw [hW1]; exact heap_alloc_new w _, by decide⟩
    have HOB := Lib.hid hob
    have HA1 := Lib.hid ha1
    have HR1 : Hid (Reads W1 w.heap.size 1 a0 n0 (bv l0)) := Lib.hid (HR0.out.below ha1)
    have HW1 := Lib.hid hW1
    have CSU := Lib.hid (fun A n c l W (hn : List.length l = n) h1 h2 h3 h4 => summed_any A n c l W hn h1 h2 h3 h4)
    have CDE := Lib.hid (fun A n c l W (hn : List.length l = n) h1 h2 h4 h3 => decodes_any A n c l W hn h1 h2 h4 h3)
    clear ha1 hob hW1
    by_cases hz : n0 = 0
    · subst hz
      have hap : (Builtin.append_ #[31, 31] 31 #[.slice (some ⟨w.heap.size, 0, none⟩) 4 4, .slice a0 0 c0]).run Try.prog (w.alloc (.cells #[.int .u8 65, .int .u8 85, .int .u8 83, .int .u8 80] 5 (4, 5))) = .ok (.slice (some ⟨w.heap.size, 0, none⟩) 4 4) (w.alloc (.cells #[.int .u8 65, .int .u8 85, .int .u8 83, .int .u8 80] 5 (4, 5))) := by
        cases a0 <;> simp [Builtin.append_, run_underlying Try.underlying31, sizeOf, typeInfo, hi, Builtin.lenOf, Builtin.firstCells, storeCells, loadCells, loadCellsFrom]
      have hrm := HOB.out.reads rfl
      have CQ := Lib.hid (CSU.out (some ⟨w.heap.size, 0, none⟩) 4 4 magicB W1 rfl (by decide) (by decide) (by decide) hrm)
      have HAP := Lib.hid hap
      clear hrm hap
      go_wp2_with (at_builtin; refine wpList_append_eq rfl (.tmp 8) (.tmp 9) 31 rfl (.slice (some ⟨w.heap.size, 0, none⟩) 4 4) (.slice a0 0 c0) _ rfl rfl _ HAP.out ?_)
      rw [← HW1.out]
      refine CQ.out.mono ?_
      rintro e w3 ⟨v, rfl, ho3, hb3⟩
      obtain ⟨lq, hlq⟩ : ∃ lq, magicB ++ sumBy magicB = lq := ⟨_, rfl⟩
      have hql : lq.length ≤ 70008 := by rw [← hlq]; decide
      rw [hlq] at ho3
      clear hlq
      obtain ⟨A3, c3, rfl⟩ := own_slice ho3
      have HA3 := Lib.hid (HA1.out.trans (hb3.mono HA1.out.size))
      obtain ⟨n3, hn3⟩ : ∃ n, lq.length = n := ⟨_, rfl⟩
      rw [hn3] at ho3 hql ⊢
      have HO3 := Lib.hid ho3
      have hcp3 := own_caps ho3
      have CD := Lib.hid (CDE.out A3 n3 c3 lq w3 hn3 hcp3.1 (by have := hcp3.2; unfold maxLen at this; omega) (by omega) (Reads.of_own ho3))
      clear ho3 hb3 CQ
      go_wp2_with fail
      refine CD.out.mono ?_
      rintro e w4 ⟨rfl, hb4⟩
      have HF := Lib.hid (HA3.out.trans (hb4.mono HA3.out.size))
      clear hb4
      go_wp2_with fail
      go_ret
      exact ⟨rfl, HF.out⟩
    · obtain ⟨N, hN⟩ : ∃ N, 4 + n0 = N := ⟨_, rfl⟩
      have HNN : Hid (magicB.length + n0 = N) := Lib.hid hN
      have HB9 : Hid (magicB.length + n0 ≤ 70368744177664) := Lib.hid (by have : magicB.length = 4 := rfl; omega)
      have H1N : Hid (1 ≤ n0) := Lib.hid (by omega)
      have hN9 : Hid (N ≤ 70004) := Lib.hid (by omega)
      clear hN hz
      go_wp2_with (at_builtin; rw [← HW1.out]; refine wpList_append_b rfl (.tmp 8) (.tmp 9) 31 rfl (B := w.heap.size) (v := .slice (some ⟨w.heap.size, 0, none⟩) 4 4) (l := magicB) i0 Try.underlying31 hi hz0 hz1 hz2 rfl HOB.out w.heap.size a0 n0 c0 l0 rfl HR1.out H1N.out HB9.out HA1.out.size N HNN.out ?_; intro v2 w2 ho2 hg2; obtain ⟨A2, c2, rfl⟩ := own_slice ho2; have HO2 := Lib.hid ho2; have HA2 : Hid (Below w.heap.size w w2) := Lib.hid (HA1.out.grown hg2 HA1.out.size (fun q hq => (HOB.out.lt hq).2)); clear ho2 hg2)
      have hcp := own_caps HO2.out
      refine (CSU.out A2 N c2 (magicB ++ l0) w2 (by rw [List.length_append, HL0.out]; exact HNN.out) hcp.1 (by have := hcp.2; unfold maxLen at this; omega) (by have := hN9.out; omega) (Reads.of_own (by rw [bv_app]; exact HO2.out))).mono ?_
      rintro e w3 ⟨v, rfl, ho3, hb3⟩
      obtain ⟨lq, hlq⟩ : ∃ lq, magicB ++ l0 ++ sumBy (magicB ++ l0) = lq := ⟨_, rfl⟩
      have hql : lq.length ≤ 70008 := by
        rw [← hlq, List.length_append, List.length_append, HL0.out, HNN.out]
        have := hN9.out
        show N + 4 ≤ 70008
        omega
      rw [hlq] at ho3
      clear hlq
      obtain ⟨A3, c3, rfl⟩ := own_slice ho3
      have HA3 := Lib.hid (HA2.out.trans (hb3.mono HA2.out.size))
      obtain ⟨n3, hn3⟩ : ∃ n, lq.length = n := ⟨_, rfl⟩
      rw [hn3] at ho3 hql ⊢
      have HO3 := Lib.hid ho3
      have hcp3 := own_caps ho3
      have CD := Lib.hid (CDE.out A3 n3 c3 lq w3 hn3 hcp3.1 (by have := hcp3.2; unfold maxLen at this; omega) (by omega) (Reads.of_own ho3))
      clear ho3 hb3 hcp
      go_wp2_with fail
      refine CD.out.mono ?_
      rintro e w4 ⟨rfl, hb4⟩
      have HF := Lib.hid (HA3.out.trans (hb4.mono HA3.out.size))
      clear hb4
      go_wp2_with fail
      go_ret
      exact ⟨rfl, HF.out⟩

set_option maxRecDepth 100000 in
theorem lifted (os : Os) (started : os.Started) (H : Type) (enc : TypeId × Value → H) :
    ReturnsInHanded {} Try.checked os 5 .any (Rows.imageBodiesSpec.pre6 enc Try.prog Try.f5 Rows.imageBodiesRow.domain false) (Rows.imageBodiesSpec.post enc Try.prog Try.f5 false true false false) := by
  refine returnsInHanded_of_change_sized (C := Try.checked) own started (by kernel_rfl) Try.func5
    (ChangeSpec.witness6 (enc := enc) (C := Try.checked) false ⟨#[], #[.slice none 0 0], []⟩ 8 (by kernel_rfl) (by kernel_rfl) (by kernel_rfl) (by kernel_rfl)) ?_
  intro W base args ds gs before hval0 hW hcnd hsz0 _
  have hsz : (DataW.weightsEach Try.prog (Try.f5.params.toList ++ Rows.imageBodiesSpec.plain.varTypes Try.prog) (ds ++ gs)).all (· ≤ reachBytes) = true := hsz0
  clear hsz0
  have hval : ∀ (j : Nat) t v, Try.f5.params[j]? = some t → args[j]? = some v → Value.okWide Try.prog W .any base t v := hval0
  have hW' := hW
  obtain ⟨p, q, hA0, hV, rfl, hfz, hnd⟩ := hW
  have hA : DataW.TrodAll enc Try.prog W 0 (fun _ => true) true Try.f5.params.toList args.toList ds p := hA0
  rw [Try.params5] at hA hval hsz
  obtain ⟨v0, vs0, d0, ds0, p0, q0, hargs, rfl, rfl, h0, r0⟩ := trodAll_cons hA
  obtain ⟨rfl, rfl, rfl⟩ := trodAll_nil r0
  obtain rfl : args = #[v0] := by cases args; simp_all
  obtain ⟨rfl, rfl⟩ := trodVars_none hV
  clear hA0 hval0
  obtain ⟨a0, n0, c0, rfl⟩ := okWide_slice Try.underlying31 (hval 0 31 v0 rfl rfl)
  have k0 := h0
  have lt0 : ∀ x ∈ p0, x.block < W.heap.size := by obtain ⟨m, hm⟩ := k0; exact DataW.trod_lt m _ _ _ hm
  obtain ⟨z0, w0⟩ : ∃ zs, InRow .u8 1 W a0 n0 c0 zs := by
    obtain ⟨fuel, hf⟩ := h0
    rcases open_ints Try.underlying31 Try.underlying5 (by kernel_rfl) hf with ⟨hcs, _⟩ | ⟨x, l, c, zs, hcs, _, hl, hm, hz, hx, hcell, hwz⟩
    · simp [Value.cells] at hcs
      obtain ⟨rfl, rfl, rfl⟩ := hcs
      exact ⟨[], InRow.nil _ _ _⟩
    · simp [Value.cells] at hcs
      obtain ⟨rfl, rfl, rfl⟩ := hcs
      simp only [Prod.mk.injEq] at hx
      obtain ⟨rfl, rfl⟩ := hx
      simp only [if_true] at hz
      have hs := sized_slice hsz (j := 0) (t := 31) (e := 5) rfl rfl Try.underlying31
      rw [show Try.prog.bytesOf 5 = 1 by kernel_rfl] at hs
      simp only [lits, List.length_map, List.length_take, List.length_drop, reachBytes] at hs
      exact ⟨zs.take _, InRow.of_open hl hm hz (by omega) hcell hwz (fun y hy => lt0 y hy)⟩
  simp only [List.append_nil] at hW'
  refine (walk W a0 n0 c0 z0 w0).mono fun e W' ⟨he, bel⟩ => ?_
  subst he
  exact ⟨_, rfl, _, _, _, [], _, [], hW', trodAll_mk1 (shut_bool Try.underlying4 _), (trodAll_cons_mk (Below.trod laidOut (by kernel_rfl) (of_decide_eq_true (by kernel_rfl)) k0 bel lt0) trodAll_mk0), rfl, bel.frame _, fun h => by cases h⟩

theorem proved : Rows.ImageBodiesSaid :=
  OpenClaim.holds_of_wide 5 Try.f5 rfl rfl rfl rfl rfl rfl rfl ⟨rfl, rfl, rfl, rfl, rfl⟩ rfl rfl rfl rfl rfl (by kernel_rfl) Try.func5 (by kernel_rfl)
    (of_decide_eq_true (by kernel_rfl)) (by unfold Func.isWrapper; rw [if_neg (of_decide_eq_false (by kernel_rfl))]; exact ⟨rfl, rfl⟩)
    (fun os started H enc _ => lifted os started H enc)
#print axioms proved
end Go.Proofs.Ytabndfkkbmhhjaa.imageBodies

/-
  The walks of load.typed and load.stops.
-/
import Derived.Test.YtioocaicmiggoaaLfe
namespace Go.Proofs.Ytioocaicmiggoaa
set_option linter.unusedVariables false
set_option linter.unusedSimpArgs false
open Go.RowKit Go.Deep

def typedT (T : TTab) (k : Int) : Bool := decide (0 ≤ k) && decide (k < (T.kinds.length : Int))
def stopsT (T : TTab) (l : List TStop) : Bool := l.all fun b => typedT T b.ty
def BoolP (w : World) (b : Bool) (e : Ending) (w' : World) : Prop := e = .returned (.bool b) ∧ Below w.heap.size w w'
theorem stops_get {w : World} {v : Value} {l : List TStop} (h : SlR 2 StopC w v l) {i : Nat} {x : TStop} (hx : l[i]? = some x) :
    ∃ b off c, v = .slice (some ⟨b, off, none⟩) l.length c ∧ l.length ≤ c ∧ c ≤ maxLen ∧ w.cell? ⟨b, off + i * 2, none⟩ = some (.int .i64 x.ty) ∧ w.cell? ⟨b, off + i * 2 + 1, none⟩ = some (.int .i64 x.gd) ∧ wfi x.ty ∧ wfi x.gd := by
  obtain ⟨b, off, c, hv, h1, h2, hi, cs, hl, ⟨rfl, hw⟩, hc⟩ := h.get hx
  exact ⟨b, off, c, hv, h1, h2, hc 0 _ rfl, hc 1 _ rfl, hw⟩
theorem typed_any (T : TTab) (vk vkk vs vc : Value) (w : World) (h : TabX w T vk vkk vs vc) (k : Int) :
    Calls Try.prog 39 #[.agg #[.int .i64 T.strategy, vk, vkk, .int .i64 T.syms, .int .i64 T.runs, .int .i64 T.cells, vs, vc], .int .i64 k] w (BoolP w (typedT T k)) := by
  obtain ⟨A3, c3, rfl, hc5, hc6⟩ := h.kinds.slice
  have B0 := Lib.hid (fun o => (Below.refl w.heap.size w).alloc (Nat.le_refl _) o)
  unfold maxLen at hc6
  clear h
  unfold typedT
  by_cases h0 : 0 ≤ k
  · by_cases h1 : k < (T.kinds.length : Int)
    · rw [decide_eq_true h0, decide_eq_true h1]
      go_enter Try.func39, Try.ntmps39
      go_wp2_with fail
      go_ret
      exact ⟨rfl, B0.out _⟩
    · rw [decide_eq_true h0, decide_eq_false h1]
      have h2 : (T.kinds.length : Int) ≤ k := by omega
      go_enter Try.func39, Try.ntmps39
      go_wp2_with fail
      go_ret
      exact ⟨rfl, B0.out _⟩
  · rw [decide_eq_false h0]
    have h2 : k < 0 := by omega
    go_enter Try.func39, Try.ntmps39
    go_wp2_with fail
    go_ret
    exact ⟨rfl, B0.out _⟩
set_option maxRecDepth 100000 in
theorem stops_any (T : TTab) (vk vkk vs vc : Value) (w : World) (h : TabX w T vk vkk vs vc) (v : Value) (l : List TStop) (hl : SlR 2 StopC w v l) :
    Calls Try.prog 40 #[.agg #[.int .i64 T.strategy, vk, vkk, .int .i64 T.syms, .int .i64 T.runs, .int .i64 T.cells, vs, vc], v] w (BoolP w (stopsT T l)) := by
  obtain ⟨A, c, rfl, hc1, hc2⟩ := hl.slice
  have HX := Lib.hid (fun W (hb : Below w.heap.size w W) => h.below hb)
  have HL := Lib.hid (fun W (hb : Below w.heap.size w W) => keep_stops (KeepC.of_below hb) hl)
  have B0 := Lib.hid (fun o => (Below.refl w.heap.size w).alloc (Nat.le_refl _) o)
  have BX := Lib.hid (Blk.new w 27 #[.int .i64 T.strategy, vk, vkk, .int .i64 T.syms, .int .i64 T.runs, .int .i64 T.cells, vs, vc])
  unfold maxLen at hc2
  have hnn : (0 : Int) ≤ (l.length : Int) := by omega
  clear h hl
  go_enter Try.func40, Try.ntmps40
  go_wp2_with fail
  go_loopw [9] (fun i wr => ∃ r : Nat, r ≤ l.length ∧ i = .int .i64 r ∧ Hid (stopsT T (l.take r) = true) ∧ Below (w.heap.size + 1) (w.alloc (.cells #[.int .i64 T.strategy, vk, vkk, .int .i64 T.syms, .int .i64 T.runs, .int .i64 T.cells, vs, vc] 27)) wr) (fun i _ => l.length - (intOf i).toNat)
  case atStart => exact ⟨0, Nat.zero_le _, rfl, Lib.hid (by simp [stopsT]), Below.refl _ _⟩
  case round =>
    obtain ⟨r, hr, rfl, hso, hb⟩ := hrel
    have hb0 := Lib.hid ((B0.out _).trans (hb.mono (by omega)))
    have hwr : w.heap.size + 1 ≤ wr.heap.size := by have := hb.size; simpa using this
    have hwr2 : w.heap.size < wr.heap.size := hwr
    by_cases hlt : r < l.length
    · obtain ⟨y, hy⟩ : ∃ y, l[r]? = some y := ⟨_, List.getElem?_eq_getElem hlt⟩
      obtain ⟨b, off, c5, hv, _, _, q0, q1, _⟩ := stops_get (HL.out wr hb0.out) hy
      injection hv with hv1 hv2 hv3
      subst hv1
      have b1 : (0 : Int) ≤ (r : Int) := by omega
      have b2 : (r : Int) < (l.length : Int) := by omega
      have BK := BX.out.below hb (by omega)
      have k0 := BK.cell 0
      have k1 := BK.cell 1
      have k2 := BK.cell 2
      have k3 := BK.cell 3
      have k4 := BK.cell 4
      have k5 := BK.cell 5
      have k6 := BK.cell 6
      have k7 := BK.cell 7
      have HB1 := Lib.hid (fun o => hb.alloc hwr o)
      have CT := Lib.hid (fun o => typed_any T vk vkk vs vc (wr.alloc o) ((HX.out wr hb0.out).below ((Below.refl wr.heap.size wr).alloc (Nat.le_refl _) o)) y.ty)
      have HT : stopsT T (l.take (r + 1)) = typedT T y.ty := by
        have e : l[r] = y := by rw [List.getElem?_eq_getElem hlt] at hy; injection hy
        unfold stopsT at hso ⊢
        rw [List.take_succ_eq_append_getElem hlt, List.all_append, hso.out, e]
        simp
      have HF : typedT T y.ty = false → stopsT T l = false := fun hf => by
        rw [hf] at HT
        unfold stopsT at HT ⊢
        rw [List.all_eq_false] at HT ⊢
        obtain ⟨z, hz, hz2⟩ := HT
        exact ⟨z, List.mem_of_mem_take hz, hz2⟩
      obtain ⟨tb, htb⟩ : ∃ tb, typedT T y.ty = tb := ⟨_, rfl⟩
      rw [htb] at CT HT HF
      have HT := Lib.hid HT
      have HF := Lib.hid HF
      clear hv2 hv3 hy BK htb hso hb
      go_wp2_with fail
      refine (CT.out _).mono ?_
      rintro e w3 ⟨rfl, hb3⟩
      rw [World.size_alloc] at hb3
      have HB3 := Lib.hid ((HB1.out _).trans (hb3.mono (by omega)))
      clear hb3 CT k0 k1 k2 k3 k4 k5 k6 k7 q0 q1
      cases tb with
      | true =>
        go_wp2_with fail
        go_roundw
        case rel => first | exact ⟨r + 1, by omega, by go_num, HT, HB3.out⟩ | ((repeat apply Exists.intro); exact ⟨⟨r + 1, by omega, by go_num, HT, HB3.out⟩, rfl⟩)
        case measure => simp [intOf]; omega
      | false =>
        have HF2 := Lib.hid (HF.out rfl)
        clear HF HT
        go_wp2_with fail
        go_ret
        exact ⟨by rw [HF2.out]; rfl, (B0.out _).trans (HB3.out.mono (by omega))⟩
    · have hge : (l.length : Int) ≤ (r : Int) := by omega
      have hrn : r = l.length := by omega
      have HS : stopsT T l = true := by have := hso.out; rw [hrn, List.take_length] at this; exact this
      have HS := Lib.hid HS
      clear hso hb hrn
      go_wp2_with fail
      go_ret
      exact ⟨by rw [HS.out]; rfl, hb0.out⟩
end Go.Proofs.Ytioocaicmiggoaa

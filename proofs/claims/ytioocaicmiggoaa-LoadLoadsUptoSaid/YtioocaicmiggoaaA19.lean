/- Wrb, Lro: texts merged for a claim by a program of mine. -/
import Derived.Test.YtioocaicmiggoaaA16
import Derived.Test.YtioocaicmiggoaaA17
import Derived.Deep.DeepCutAuto
import Derived.Test.YtioocaicmiggoaaA05
namespace Go.Proofs.Ytioocaicmiggoaa
set_option linter.unusedVariables false
set_option linter.unusedSimpArgs false
open Go.RowKit Go.Deep
def WrE {α : Type} (one : FSt → α → Option (FSt × α)) (f : α → List UInt8) (p : α → Bool) : Prop := ∀ bs x, one (.wr bs) x = if p x = true then some (.wr (bs ++ f x), x) else none
section
variable {α β : Type} {one : FSt → α → Option (FSt × α)} {two : FSt → β → Option (FSt × β)} {f : α → List UInt8} {g : β → List UInt8} {p : α → Bool} {q : β → Bool} {z : α}
theorem WrE.run (h : WrE one f p) : ∀ (xs : List α) (bs : List UInt8), runL one (.wr bs) xs = if xs.all p = true then some (.wr (bs ++ (xs.map f).flatten), xs) else none := by
 intro xs
 induction xs with
 | nil => intro bs; simp [runL]
 | cons x xs ih =>
  intro bs
  simp only [runL, h bs x]
  by_cases hx : p x = true
  ·rw [if_pos hx]
   simp only [ih, List.all_cons, hx, Bool.true_and, List.map_cons, List.flatten_cons]
   by_cases hq : xs.all p = true
   ·rw [if_pos hq, if_pos hq]; simp [List.append_assoc]
   ·rw [if_neg hq, if_neg hq]
  ·rw [if_neg hx, if_neg (by simp [hx])]
theorem wr_num : WrE num (fun n => numsB [n]) numOk := fun bs x => by
 unfold num numsB
 simp
theorem WrE.list (h : WrE one f p) : WrE (listF one z) (listBy f) (listOk p) := fun bs xs => by
 unfold listF listOk listBy
 by_cases hl : 1024 < xs.length
 ·rw [if_pos hl, if_neg (by simp; omega)]
 ·rw [if_neg hl]
  have h1 : numOk (xs.length : Int) = true := by unfold numOk; simp; omega
  have h2 : num (.wr bs) (xs.length : Int) = some (.wr (bs ++ numsB [(xs.length : Int)]), (xs.length : Int)) := by rw [wr_num bs, if_pos h1]
  rw [h2]
  simp only
  rw [h.run, show decide (xs.length ≤ 1024) = true from decide_eq_true (by omega), Bool.true_and, List.append_assoc]
theorem WrE.pair (h : WrE one f p) (k : WrE two g q) : WrE (pairF one two) (fun x => f x.1 ++ g x.2) (fun x => p x.1 && q x.2) := fun bs x => by
 unfold pairF
 rw [h bs]
 by_cases hx : p x.1 = true
 ·rw [if_pos hx]
  simp only [Option.bind_some, hx, Bool.true_and]
  rw [k (bs ++ f x.1) x.2]
  by_cases hy : q x.2 = true
  ·rw [if_pos hy, if_pos hy]; simp [List.append_assoc]
  ·rw [if_neg hy, if_neg hy]; rfl
 ·rw [if_neg hx, if_neg (by simp [hx])]; rfl
theorem WrE.map_ (h : WrE one f p) (e : β → α) (d : α → β) (h1 : ∀ x, d (e x) = x) : WrE (mapF e d one) (fun x => f (e x)) (fun x => p (e x)) := fun bs x => by
 unfold mapF
 rw [h bs]
 by_cases hx : p (e x) = true
 ·rw [if_pos hx, if_pos hx]; simp [h1]
 ·rw [if_neg hx, if_neg hx]; rfl
theorem WrE.congr {one' : FSt → α → Option (FSt × α)} {f' : α → List UInt8} {p' : α → Bool} (h : WrE one f p) (h1 : ∀ st x, one' st x = one st x) (h2 : ∀ x, f' x = f x) (h3 : ∀ x, p' x = p x) : WrE one' f' p' := fun bs x => by
 rw [h1, h2, h3]; exact h bs x
end
theorem numsB_cons (a : Int) (l : List Int) : numsB (a :: l) = numsB [a] ++ numsB l := by simp [numsB]
theorem wr_bits : WrE bitsF (fun a => vb a.toNat) (fun _ => true) := fun bs x => by simp [bitsF]
theorem wr_flag : WrE flagF (fun b => numsB [mInt b]) (fun _ => true) := fun bs x => by
 unfold flagF
 rw [wr_num bs, if_pos (by cases x <;> decide)]
 cases x <;> rfl
theorem wr_int : WrE intF (fun n => numsB [n]) numOk := wr_num.congr (fun st x => by
 unfold intF
 rw [run1_bind]
 rcases num st x with _ | ⟨s, y⟩ <;> rfl) (fun _ => rfl) (fun _ => rfl)
theorem wr_stop : WrE stopF stopBy stopOk := ((wr_num.pair wr_num).map_ (fun x : TStop => (x.ty, x.gd)) (fun p => ⟨p.1, p.2⟩) (fun _ => rfl)).congr (fun st x => by
  simp only [stopF, run2_bind, mapF, pairF, Option.bind_assoc, Option.bind_some, List.getD_cons_zero, List.getD_cons_succ]) (fun x => by unfold stopBy; rw [numsB_cons]) (fun _ => rfl)
theorem wr_tail : WrE tailF tailBy tailOk := ((wr_num.pair (wr_num.pair (wr_stop.list (z := zStop)))).map_ (fun x : TTail => (x.br, x.cl, x.bars)) (fun p => ⟨p.1, p.2.1, p.2.2⟩) (fun _ => rfl)).congr (fun st x => by
  simp only [tailF, run2_bind, mapF, pairF, Option.bind_assoc, Option.bind_some, List.getD_cons_zero, List.getD_cons_succ]) (fun x => by unfold tailBy; rw [numsB_cons, List.append_assoc]) (fun x => by unfold tailOk; rw [Bool.and_assoc])
theorem wr_row : WrE rowF rowBy rowOk := ((wr_num.pair (wr_num.pair (wr_flag.pair (wr_num.pair ((wr_stop.list (z := zStop)).pair (wr_num.pair (wr_num.pair (wr_tail.list (z := zTail))))))))).map_ (fun x : TRow => (x.par, x.ty, x.many, x.win, x.bars, x.leave, x.guard, x.ends)) (fun p => ⟨p.1, p.2.1, p.2.2.1, p.2.2.2.1, p.2.2.2.2.1, p.2.2.2.2.2.1, p.2.2.2.2.2.2.1, p.2.2.2.2.2.2.2⟩) (fun _ => rfl)).congr (fun st x => by
  simp only [rowF, run2_bind, mapF, pairF, Option.bind_assoc, Option.bind_some, List.getD_cons_zero, List.getD_cons_succ]) (fun x => by
  unfold rowBy
  rw [numsB_cons, numsB_cons x.ty, numsB_cons (mInt x.many), numsB_cons x.leave]
  simp only [List.append_assoc]) (fun x => by unfold rowOk; simp only [Bool.and_assoc, Bool.true_and])
def inpBy (x : TInp) : List UInt8 := numsB [x.op, x.kind, x.pos, x.attr]
def inpOk (x : TInp) : Bool := numOk x.op && numOk x.kind && numOk x.pos && numOk x.attr
def insBy (x : TIns) : List UInt8 := numsB [x.op, x.dst, x.a, x.b]
def insOk (x : TIns) : Bool := numOk x.op && numOk x.dst && numOk x.a && numOk x.b
def valBy (x : TVal) : List UInt8 := numsB [x.kind] ++ vb x.bits.toNat
def valOk (x : TVal) : Bool := numOk x.kind
def codeBy (c : TCode) : List UInt8 := numsB [c.regs, c.slots] ++ listBy inpBy c.inputs ++ listBy valBy c.consts ++ listBy insBy c.list
def codeOk (c : TCode) : Bool := numOk c.regs && numOk c.slots && listOk inpOk c.inputs && listOk valOk c.consts && listOk insOk c.list
theorem four_nums (a b c d : Int) : numsB [a, b, c, d] = numsB [a] ++ (numsB [b] ++ (numsB [c] ++ numsB [d])) := by simp [numsB]
theorem wr_inp : WrE inpF inpBy inpOk := ((wr_num.pair (wr_num.pair (wr_num.pair wr_num))).map_ (fun x : TInp => (x.op, x.kind, x.pos, x.attr)) (fun p => ⟨p.1, p.2.1, p.2.2.1, p.2.2.2⟩) (fun _ => rfl)).congr (fun st x => by
  simp only [inpF, run4_bind, mapF, pairF, Option.bind_assoc, Option.bind_some, List.getD_cons_zero, List.getD_cons_succ]) (fun x => by unfold inpBy; rw [four_nums]) (fun x => by unfold inpOk; simp only [Bool.and_assoc])
theorem wr_ins : WrE insF insBy insOk := ((wr_num.pair (wr_num.pair (wr_num.pair wr_num))).map_ (fun x : TIns => (x.op, x.dst, x.a, x.b)) (fun p => ⟨p.1, p.2.1, p.2.2.1, p.2.2.2⟩) (fun _ => rfl)).congr (fun st x => by
  simp only [insF, run4_bind, mapF, pairF, Option.bind_assoc, Option.bind_some, List.getD_cons_zero, List.getD_cons_succ]) (fun x => by unfold insBy; rw [four_nums]) (fun x => by unfold insOk; simp only [Bool.and_assoc])
theorem wr_val : WrE valF valBy valOk := ((wr_num.pair wr_bits).map_ (fun x : TVal => (x.kind, x.bits)) (fun p => ⟨p.1, p.2⟩) (fun _ => rfl)).congr (fun st x => by
  simp only [valF, run1_bind, mapF, pairF, Option.bind_assoc, Option.bind_some, List.getD_cons_zero, List.getD_cons_succ]) (fun x => rfl) (fun x => by unfold valOk; rw [Bool.and_true])
theorem wr_code : WrE codeF codeBy codeOk := ((wr_num.pair (wr_num.pair ((wr_inp.list (z := zInp)).pair ((wr_val.list (z := zVal)).pair (wr_ins.list (z := zIns)))))).map_ (fun x : TCode => (x.regs, x.slots, x.inputs, x.consts, x.list)) (fun p => ⟨p.1, p.2.1, p.2.2.1, p.2.2.2.1, p.2.2.2.2⟩) (fun _ => rfl)).congr (fun st x => by
  simp only [codeF, run2_bind, mapF, pairF, Option.bind_assoc, Option.bind_some, List.getD_cons_zero, List.getD_cons_succ]) (fun x => by unfold codeBy; rw [numsB_cons]; simp only [List.append_assoc]) (fun x => by unfold codeOk; simp only [Bool.and_assoc])
def intBy (n : Int) : List UInt8 := numsB [n]
def tabBy (T : TTab) : List UInt8 := numsB [T.strategy] ++ listBy intBy T.keys ++ listBy (listBy intBy) T.kinds ++ numsB [T.syms, T.runs, T.cells] ++ listBy rowBy T.states ++ listBy codeBy T.codes
def tabOk (T : TTab) : Bool := numOk T.strategy && listOk numOk T.keys && listOk (listOk numOk) T.kinds && numOk T.syms && numOk T.runs && numOk T.cells && listOk rowOk T.states && listOk codeOk T.codes
theorem wr_tab : WrE tabF tabBy tabOk := ((wr_num.pair ((wr_int.list (z := 0)).pair (((wr_int.list (z := 0)).list (z := [])).pair (wr_num.pair (wr_num.pair (wr_num.pair ((wr_row.list (z := zRow)).pair (wr_code.list (z := zCode))))))))).map_ (fun x : TTab => (x.strategy, x.keys, x.kinds, x.syms, x.runs, x.cells, x.states, x.codes)) (fun p => ⟨p.1, p.2.1, p.2.2.1, p.2.2.2.1, p.2.2.2.2.1, p.2.2.2.2.2.1, p.2.2.2.2.2.2.1, p.2.2.2.2.2.2.2⟩) (fun _ => rfl)).congr (fun st x => by
  simp only [tabF, run1_bind, run3_bind, mapF, pairF, Option.bind_assoc, Option.bind_some, List.getD_cons_zero, List.getD_cons_succ]) (fun x => by
  unfold tabBy
  rw [numsB_cons x.syms, numsB_cons x.runs]
  simp only [List.append_assoc]
  rfl) (fun x => by unfold tabOk; simp only [Bool.and_assoc])
theorem Img.by_ {y : TTab} {m : List UInt8} (h : Img y m) : tabOk y = true ∧ m = tabBy y := by
 have h1 := h.2
 rw [wr_tab] at h1
 by_cases hp : tabOk y = true
 ·rw [if_pos hp] at h1
  simp only [List.nil_append, Option.some.injEq, Prod.mk.injEq, FSt.wr.injEq, and_true] at h1
  exact ⟨hp, h1.symm⟩
 ·rw [if_neg hp] at h1; cases h1
theorem flat_ints (l : List Int) : (l.map intBy).flatten = numsB l := by
 induction l with
 | nil => rfl
 | cons x l ih => rw [List.map_cons, List.flatten_cons, ih, numsB_cons x l]; rfl
theorem kind_by : listBy intBy = kindBy := by
 funext l
 unfold listBy kindBy
 rw [flat_ints]
theorem plain_le (T : TTab) : (plainBy T).length ≤ (tabBy T).length := by
 unfold plainBy tabBy
 rw [kind_by]
 have e1 : kindBy T.keys = numsB [(T.keys.length : Int)] ++ numsB T.keys := rfl
 have e2 : listBy kindBy T.kinds = numsB [(T.kinds.length : Int)] ++ (T.kinds.map kindBy).flatten := rfl
 rw [e1, e2, numsB_cons T.strategy, numsB_cons T.syms, numsB_cons T.runs, numsB_cons T.cells, numsB_cons T.syms [T.runs, T.cells], numsB_cons T.runs [T.cells]]
 simp only [List.length_append]
 omega
theorem IsImg.plain {y : TTab} {b : List UInt8} (h : IsImg y b) : (plainBy y).length ≤ 1000000000 := by
 obtain ⟨m, h1, h2, h3⟩ := h
 have h4 := (h1.by_).2
 have h5 := plain_le y
 rw [h2, List.length_append, List.length_append] at h3
 rw [h4] at h3
 omega
end Go.Proofs.Ytioocaicmiggoaa
namespace Go.Proofs.Ytioocaicmiggoaa
set_option linter.unusedVariables false
set_option linter.unusedSimpArgs false
open Go.RowKit Go.Deep
theorem blk8 {w : World} {g : Nat} {t : TypeId} {a0 a1 a2 a3 a4 a5 a6 a7 : Value} (h : Blk w g t #[a0, a1, a2, a3, a4, a5, a6, a7]) :
  w.cell? ⟨g, 0, none⟩ = some a0 ∧ w.cell? ⟨g, 1, none⟩ = some a1 ∧ w.cell? ⟨g, 2, none⟩ = some a2 ∧ w.cell? ⟨g, 3, none⟩ = some a3 ∧ w.cell? ⟨g, 4, none⟩ = some a4 ∧ w.cell? ⟨g, 5, none⟩ = some a5 ∧ w.cell? ⟨g, 6, none⟩ = some a6 ∧ w.cell? ⟨g, 7, none⟩ = some a7 :=
 ⟨h.cell 0, h.cell 1, h.cell 2, h.cell 3, h.cell 4, h.cell 5, h.cell 6, h.cell 7⟩
def rowN (T : TTab) (i : Nat) (x : TRow) : Bool := decide (-1 ≤ x.par) && decide (x.par < (i : Int)) && typedT T x.ty && decide (0 ≤ x.win) && decide (x.win ≤ 1152921504606846976) && decide ((pathT T.states i).length ≤ 8)
def rowB (T : TTab) (x : TRow) : Bool := (!(decide (x.par = -1)) || (decide (x.bars.length = 0) && decide (x.leave = -1))) && stopsT T x.bars
def tailB (T : TTab) (e : TTail) : Bool := decide (0 ≤ e.br) && decide (e.br < 4) && stopsT T e.bars
def rowT (T : TTab) (i : Nat) (x : TRow) : Bool := rowN T i x && rowB T x && x.ends.all (tailB T)
set_option maxRecDepth 100000 in
set_option maxHeartbeats 4000000 in
theorem row_any (T : TTab) (vk vkk vs vc : Value) (w : World) (h : TabX w T vk vkk vs vc) (hn : T.states.length ≤ 1500000000000) (i : Nat) (x : TRow) (hx : T.states[i]? = some x) :
  Calls Try.prog 21 #[.agg #[.int .i64 T.strategy, vk, vkk, .int .i64 T.syms, .int .i64 T.runs, .int .i64 T.cells, vs, vc], .int .i64 i] w (BoolP w (rowT T i x)) := by
 have hi : i < T.states.length := (List.getElem?_eq_some_iff.1 hx).1
 obtain ⟨b, off, c5, vb, ve, hv, hc1, hc2, q0, q1, q2, q3, q4, q5, q6, q7, hbars, hends, _⟩ := rows_get h.states hx
 subst hv
 obtain ⟨A6, c6, rfl, hc7, hc8⟩ := hbars.slice
 obtain ⟨A7, c7, rfl, hc9, hc10⟩ := hends.slice
 unfold maxLen at hc2 hc8 hc10
 have hbl := cell_in q0
 have b1 : (0 : Int) ≤ (i : Int) := by omega
 have b2 : (i : Int) < (T.states.length : Int) := by omega
 have HX := Lib.hid (fun W (hb : Below w.heap.size w W) => h.below hb)
 have HBA := Lib.hid (fun W (hb : Below w.heap.size w W) => keep_stops (KeepC.of_below hb) hbars)
 have HEN := Lib.hid (fun W (hb : Below w.heap.size w W) => keep_tails (KeepC.of_below hb) hends)
 obtain ⟨w1, hw1⟩ : ∃ w1, w1 = (w.alloc (.cells #[.int .i64 T.strategy, vk, vkk, .int .i64 T.syms, .int .i64 T.runs, .int .i64 T.cells, .slice (some ⟨b, off, none⟩) T.states.length c5, vc] 27)).alloc (.cells #[.int .i64 x.par, .int .i64 x.ty, .bool x.many, .int .i64 x.win, .slice A6 x.bars.length c6, .int .i64 x.leave, .int .i64 x.guard, .slice A7 x.ends.length c7] 46) := ⟨_, rfl⟩
 have B0 : Below w.heap.size w w1 := by rw [hw1]; exact ((Below.refl w.heap.size w).alloc (Nat.le_refl _) _).alloc (by simp) _
 have hs1 : w1.heap.size = w.heap.size + 2 := by rw [hw1]; simp
 have BT : Blk w1 w.heap.size 27 #[.int .i64 T.strategy, vk, vkk, .int .i64 T.syms, .int .i64 T.runs, .int .i64 T.cells, .slice (some ⟨b, off, none⟩) T.states.length c5, vc] := by rw [hw1]; exact (Blk.new w _ _).alloc _
 have BR : Blk w1 (w.heap.size + 1) 46 #[.int .i64 x.par, .int .i64 x.ty, .bool x.many, .int .i64 x.win, .slice A6 x.bars.length c6, .int .i64 x.leave, .int .i64 x.guard, .slice A7 x.ends.length c7] := by
  rw [hw1]
  have := Blk.new (w.alloc (.cells #[.int .i64 T.strategy, vk, vkk, .int .i64 T.syms, .int .i64 T.runs, .int .i64 T.cells, .slice (some ⟨b, off, none⟩) T.states.length c5, vc] 27)) 46 #[.int .i64 x.par, .int .i64 x.ty, .bool x.many, .int .i64 x.win, .slice A6 x.bars.length c6, .int .i64 x.leave, .int .i64 x.guard, .slice A7 x.ends.length c7]
  rw [World.size_alloc] at this
  exact this
 have B0 := Lib.hid B0
 have BT := Lib.hid BT
 have BR := Lib.hid BR
 have HS1 := Lib.hid hs1
 clear h hx hbars hends hs1
 go_enter Try.func21, Try.ntmps21
 go_upto_region 2 with fail
 rw [← hw1]
 clear hw1
 go_cut [45] from 13 to 45 (fun c wx => c = .bool (!rowN T i x) ∧ Below w1.heap.size w1 wx)
 case first =>
  have BT1 := BT.out
  have BR1 := BR.out
  have hs1 := HS1.out
  obtain ⟨r0, r1, r2, r3, r4, r5, r6, r7⟩ := blk8 BR1
  obtain ⟨k0, k1, k2, k3, k4, k5, k6, k7⟩ := blk8 BT1
  have CT := Lib.hid (typed_any T vk vkk _ vc w1 (HX.out w1 B0.out) x.ty)
  have HR := Lib.hid (And.intro BT1 BR1)
  have HS := Lib.hid hs1
  clear q0 q1 q2 q3 q4 q5 q6 q7 BT1 BR1 hs1
  by_cases h1 : x.par < -1
  ·have e : rowN T i x = false := by unfold rowN; rw [decide_eq_false (show ¬ -1 ≤ x.par by omega)]; simp
   go_wp2_with fail
   go_meet
   exact ⟨by rw [e]; rfl, Below.refl _ _⟩
  ·by_cases h2 : (i : Int) ≤ x.par
   ·have e : rowN T i x = false := by unfold rowN; rw [decide_eq_false (show ¬ x.par < (i : Int) by omega)]; simp
    go_wp2_with fail
    go_meet
    exact ⟨by rw [e]; rfl, Below.refl _ _⟩
   ·go_wp2_with fail
    refine CT.out.mono ?_
    rintro e w2 ⟨rfl, hb2⟩
    have BT2 := HR.out.1.below hb2 (by have := HS.out; omega)
    have BR2 := HR.out.2.below hb2 (by have := HS.out; omega)
    have hs2 := hb2.size
    have X2 := HX.out w2 (B0.out.trans (hb2.mono B0.out.size))
    have HR2 := Lib.hid (And.intro BT2 BR2)
    have HB2 := Lib.hid hb2
    have CP := Lib.hid (path_any T vk vkk _ vc hn i w2 X2)
    obtain ⟨tb, htb⟩ : ∃ tb, typedT T x.ty = tb := ⟨_, rfl⟩
    rw [htb]
    have HTB := Lib.hid htb
    clear CT htb hb2 r0 r1 r2 r3 r4 r5 r6 r7 k0 k1 k2 k3 k4 k5 k6 k7 hs2 X2
    cases tb with
    | false =>
     have e : rowN T i x = false := by unfold rowN; rw [HTB.out]; simp
     clear BT2 BR2
     go_wp2_with fail
     go_meet
     exact ⟨by rw [e]; rfl, HB2.out⟩
    | true =>
     obtain ⟨r0, r1, r2, r3, r4, r5, r6, r7⟩ := blk8 BR2
     obtain ⟨k0, k1, k2, k3, k4, k5, k6, k7⟩ := blk8 BT2
     clear BT2 BR2
     by_cases h4 : x.win < 0
     ·have e : rowN T i x = false := by unfold rowN; rw [decide_eq_false (show ¬ 0 ≤ x.win by omega)]; simp
      go_wp2_with fail
      go_meet
      exact ⟨by rw [e]; rfl, HB2.out⟩
     ·by_cases h5 : 1152921504606846976 < x.win
      ·have e : rowN T i x = false := by unfold rowN; rw [decide_eq_false (show ¬ x.win ≤ 1152921504606846976 by omega)]; simp
       go_wp2_with fail
       go_meet
       exact ⟨by rw [e]; rfl, HB2.out⟩
      ·go_wp2_with fail
       refine CP.out.mono ?_
       rintro e w3 ⟨v, rfl, ho, hb3⟩
       obtain ⟨A9, c9, rfl⟩ := own_slice ho
       have HB3 := Lib.hid (HB2.out.trans (hb3.mono HB2.out.size))
       obtain ⟨np, hnp⟩ : ∃ np, (pathT T.states i).length = np := ⟨_, rfl⟩
       have e2 : rowN T i x = decide (np ≤ 8) := by
        unfold rowN
        rw [HTB.out, hnp, decide_eq_true (show -1 ≤ x.par by omega), decide_eq_true (show x.par < (i : Int) by omega), decide_eq_true (show 0 ≤ x.win by omega), decide_eq_true (show x.win ≤ 1152921504606846976 by omega)]
        simp
       rw [hnp]
       have E2 := Lib.hid e2
       clear ho hb3 CP hnp e2 r0 r1 r2 r3 r4 r5 r6 r7 k0 k1 k2 k3 k4 k5 k6 k7
       by_cases h6 : 8 < np
       ·have h6' : (8 : Int) < (np : Int) := by omega
        go_wp2_with fail
        go_meet
        exact ⟨by rw [E2.out, decide_eq_false (show ¬ np ≤ 8 by omega)]; first | rfl | (congr 1; simp; omega), HB3.out⟩
       ·have h6' : (np : Int) ≤ 8 := by omega
        go_wp2_with fail
        go_meet
        exact ⟨by rw [E2.out, decide_eq_true (show np ≤ 8 by omega)]; first | rfl | (congr 1; simp; omega), HB3.out⟩
 case rest =>
  obtain ⟨rfl, hbx⟩ := hcut
  have HBX := Lib.hid (B0.out.trans (hbx.mono B0.out.size))
  have hs1 := HS1.out
  have hsx := hbx.size
  have BT2 := BT.out.below hbx (by omega)
  have BR2 := BR.out.below hbx (by omega)
  obtain ⟨rn, hrn⟩ : ∃ rn, rowN T i x = rn := ⟨_, rfl⟩
  have HRN := Lib.hid hrn
  rw [hrn]
  clear hrn q0 q1 q2 q3 q4 q5 q6 q7
  cases rn with
  | false =>
   have e : rowT T i x = false := by unfold rowT; rw [HRN.out]; rfl
   clear BT2 BR2
   go_wp2_with fail
   go_ret
   exact ⟨by first | rfl | (rw [e]; rfl), HBX.out⟩
  | true =>
   have HT2 := Lib.hid (And.intro BT2 BR2)
   go_upto_region 4 with fail
   clear BT2 BR2
   go_cut [66] from 46 to 66 (fun c wy => c = .bool (!rowB T x) ∧ Below wc.heap.size wc wy)
   case first =>
    obtain ⟨r0, r1, r2, r3, r4, r5, r6, r7⟩ := blk8 HT2.out.2
    obtain ⟨k0, k1, k2, k3, k4, k5, k6, k7⟩ := blk8 HT2.out.1
    have CT := Lib.hid (stops_any T vk vkk _ vc wc (HX.out wc HBX.out) _ x.bars (HBA.out wc HBX.out))
    by_cases h1 : x.par = -1
    ·rw [h1] at r0
     have H1 := Lib.hid h1
     clear h1
     by_cases h2 : 0 < x.bars.length
     ·have e : rowB T x = false := by unfold rowB; rw [H1.out, decide_eq_true rfl, decide_eq_false (show ¬ x.bars.length = 0 by omega)]; rfl
      have h2' : (0 : Int) < (x.bars.length : Int) := by omega
      go_wp2_with fail
      go_meet
      exact ⟨by rw [e]; rfl, Below.refl _ _⟩
     ·by_cases h3 : x.leave = -1
      ·rw [h3] at r5
       have H3 := Lib.hid h3
       clear h3
       go_wp2_with fail
       refine CT.out.mono ?_
       rintro e w2 ⟨rfl, hb2⟩
       obtain ⟨tb, htb⟩ : ∃ tb, stopsT T x.bars = tb := ⟨_, rfl⟩
       rw [htb]
       have HE2 : Hid (rowB T x = tb) := Lib.hid (by unfold rowB; rw [htb]; rw [H1.out, H3.out, decide_eq_true (show x.bars.length = 0 by omega)]; cases tb <;> rfl)
       have HB2 := Lib.hid hb2
       clear CT htb hb2 r0 r1 r2 r3 r4 r5 r6 r7 k0 k1 k2 k3 k4 k5 k6 k7
       cases tb
       ·go_wp2_with fail
        go_meet
        exact ⟨by rw [HE2.out]; rfl, HB2.out⟩
       ·go_wp2_with fail
        go_meet
        exact ⟨by rw [HE2.out]; rfl, HB2.out⟩
      ·have h3' : (x.leave != -1) = true := by rw [bne_iff_ne]; exact h3
       have e : rowB T x = false := by unfold rowB; rw [H1.out, decide_eq_false h3]; simp
       clear h3
       go_wp2_with fail
       go_meet
       exact ⟨by rw [e]; rfl, Below.refl _ _⟩
    ·have h1' : (x.par == -1) = false := by rw [beq_eq_false_iff_ne]; exact h1
     go_wp2_with fail
     refine CT.out.mono ?_
     rintro e w2 ⟨rfl, hb2⟩
     obtain ⟨tb, htb⟩ : ∃ tb, stopsT T x.bars = tb := ⟨_, rfl⟩
     rw [htb]
     have HE2 : Hid (rowB T x = tb) := Lib.hid (by unfold rowB; rw [htb]; rw [decide_eq_false h1]; cases tb <;> rfl)
     have HB2 := Lib.hid hb2
     clear CT htb hb2 r0 r1 r2 r3 r4 r5 r6 r7 k0 k1 k2 k3 k4 k5 k6 k7
     cases tb
     ·go_wp2_with fail
      go_meet
      exact ⟨by rw [HE2.out]; rfl, HB2.out⟩
     ·go_wp2_with fail
      go_meet
      exact ⟨by rw [HE2.out]; rfl, HB2.out⟩
   case rest =>
    obtain ⟨rfl, hby⟩ := hcut
    have HBY := Lib.hid (HBX.out.trans (hby.mono HBX.out.size))
    have BT3 := HT2.out.1.below hby (by omega)
    have BR3 := HT2.out.2.below hby (by omega)
    have hsy := hby.size
    obtain ⟨wd, hwd⟩ : ∃ wd, wc = wd := ⟨_, rfl⟩
    rw [hwd] at HBY BT3 BR3 hsy ⊢
    obtain ⟨rb, hrb⟩ : ∃ rb, rowB T x = rb := ⟨_, rfl⟩
    have HRB := Lib.hid hrb
    rw [hrb]
    have hws : w.heap.size + 2 ≤ wd.heap.size := by omega
    clear hrb hby hwd hbx hs1 hsx HT2 BT BR HS1 hsy
    cases rb with
    | false =>
     have e : rowT T i x = false := by unfold rowT; rw [HRN.out, HRB.out]; rfl
     clear BT3 BR3
     go_wp2_with fail
     go_ret
     exact ⟨by first | rfl | (rw [e]; rfl), HBY.out⟩
    | true =>
     have r7 := BR3.cell 7
     have HBT := Lib.hid BT3
     have n7 : (0 : Int) ≤ (x.ends.length : Int) := by omega
     clear BT3 BR3
     go_wp2_with fail
     go_loopw [70] (fun s wr => ∃ r : Nat, r ≤ x.ends.length ∧ s = .int .i64 r ∧ Hid ((x.ends.take r).all (tailB T) = true) ∧ Hid (Below wd.heap.size wd wr)) (fun s _ => x.ends.length - (intOf s).toNat)
     case atStart => exact ⟨0, Nat.zero_le _, rfl, Lib.hid (by simp), Lib.hid (Below.refl _ _)⟩
     case round =>
      clear r7
      obtain ⟨r, hr, rfl, hso, hb⟩ := hrel
      have hwr := hb.out.size
      have hwr2 : w.heap.size < wr.heap.size := by omega
      have HB0 := Lib.hid (HBY.out.trans (hb.out.mono HBY.out.size))
      by_cases hlt : r < x.ends.length
      ·obtain ⟨z, hz⟩ : ∃ z, x.ends[r]? = some z := ⟨_, List.getElem?_eq_getElem hlt⟩
       obtain ⟨b7, off7, c8, vb8, hv, _, _, t0, t1, t2, hb8, _⟩ := tails_get (HEN.out wr HB0.out) hz
       injection hv with hv1 hv2 hv3
       subst hv1
       obtain ⟨A8, c9, rfl, hc11, hc12⟩ := hb8.slice
       unfold maxLen at hc12
       have d1 : (0 : Int) ≤ (r : Int) := by omega
       have d2 : (r : Int) < (x.ends.length : Int) := by omega
       obtain ⟨k0, k1, k2, k3, k4, k5, k6, k7⟩ := blk8 (HBT.out.below hb.out (by omega))
       have HB1 := Lib.hid (fun o => hb.out.alloc hwr o)
       have HT : (x.ends.take (r + 1)).all (tailB T) = tailB T z := by
        have e : x.ends[r] = z := by rw [List.getElem?_eq_getElem hlt] at hz; injection hz
        rw [List.take_succ_eq_append_getElem hlt, List.all_append, hso.out, e]
        simp
       have HF : tailB T z = false → rowT T i x = false := fun hf => by
        rw [hf] at HT
        have h9 : x.ends.all (tailB T) = false := by
         rw [List.all_eq_false] at HT ⊢
         obtain ⟨y, hy, hy2⟩ := HT
         exact ⟨y, List.mem_of_mem_take hy, hy2⟩
        unfold rowT
        rw [h9]; simp
       have HT := Lib.hid HT
       have HF := Lib.hid HF
       have CT := Lib.hid (fun o => stops_any T vk vkk _ vc (wr.alloc o) ((HX.out wr HB0.out).below ((Below.refl wr.heap.size wr).alloc (Nat.le_refl _) o)) _ z.bars (keep_stops (KeepC.of_below ((Below.refl wr.heap.size wr).alloc (Nat.le_refl _) o)) hb8))
       clear hz hv2 hv3 hb8 hso hb
       by_cases g1 : z.br < 0
       ·have e : rowT T i x = false := HF.out (by unfold tailB; rw [decide_eq_false (show ¬ 0 ≤ z.br by omega)]; rfl)
        have e := Lib.hid e
        clear HT HF CT
        go_wp2_with fail
        go_ret
        exact ⟨by first | rfl | (rw [e.out]; rfl), HBY.out.trans ((HB1.out _).mono (by omega))⟩
       ·by_cases g2 : 4 ≤ z.br
        ·have e : rowT T i x = false := HF.out (by unfold tailB; rw [decide_eq_false (show ¬ z.br < 4 by omega)]; simp)
         have e := Lib.hid e
         clear HT HF CT
         go_wp2_with fail
         go_ret
         exact ⟨by first | rfl | (rw [e.out]; rfl), HBY.out.trans ((HB1.out _).mono (by omega))⟩
        ·go_wp2_with fail
         refine (CT.out _).mono ?_
         rintro e w3 ⟨rfl, hb3⟩
         rw [World.size_alloc] at hb3
         have HB3 := Lib.hid ((HB1.out _).trans (hb3.mono (by omega)))
         obtain ⟨tb, htb⟩ : ∃ tb, stopsT T z.bars = tb := ⟨_, rfl⟩
         have etb : tailB T z = tb := by unfold tailB; rw [htb, decide_eq_true (show 0 ≤ z.br by omega), decide_eq_true (show z.br < 4 by omega)]; rfl
         rw [htb]
         have HT2 := Lib.hid (HT.out.trans etb)
         have HF2 : Hid (tb = false → rowT T i x = false) := Lib.hid (fun h => HF.out (etb.trans h))
         clear hb3 CT k0 k1 k2 k3 k4 k5 k6 k7 t0 t1 t2 htb etb HT HF
         cases tb with
         | true =>
          clear HF2
          go_wp2_with fail
          go_roundw
          case rel => first | exact ⟨r + 1, by omega, by go_num, HT2, HB3⟩ | ((repeat apply Exists.intro); exact ⟨⟨r + 1, by omega, by go_num, HT2, HB3⟩, rfl⟩)
          case measure => simp [intOf]; omega
         | false =>
          have e := Lib.hid (HF2.out rfl)
          clear HF2 HT2
          go_wp2_with fail
          go_ret
          exact ⟨by first | rfl | (rw [e.out]; rfl), HBY.out.trans (HB3.out.mono (by omega))⟩
      ·have hge : (x.ends.length : Int) ≤ (r : Int) := by omega
       have hrn : r = x.ends.length := by omega
       have e : rowT T i x = true := by
        have h9 := hso.out
        rw [hrn, List.take_length] at h9
        unfold rowT
        rw [HRN.out, HRB.out, h9]; rfl
       have e := Lib.hid e
       clear hso hb hrn
       go_wp2_with fail
       go_ret
       exact ⟨by first | rfl | (rw [e.out]; rfl), HB0.out⟩
end Go.Proofs.Ytioocaicmiggoaa

/-
  What the sums of joined texts are: the law of xor, and a bit that is turned. No program in sight. What a table is written as: the bytes by the document's words are those that the program's flow writes, and both may or may not. No walk. The walk of the document's writer of codes. The walk of the document's writer over a first number, behind bytes that are a constant's. The walk of the document's Encode: the image of a table, or why there is none. The walk of the image laws' many: it answers, whatever. Of an image no byte may be another one, none may be missing, none more: the plain law. No walk. The walk of the document's Same of two codes that read alike. The walk of the document's Same of two tables that read alike. What a table's size bounds: its bytes, its lists; and what Encode told, as one. No walk.
-/
import Derived.Test.YtabndfkkbmhhjaaCrc
import Derived.Test.YtabndfkkbmhhjaaIma
import Derived.Test.YtabndfkkbmhhjaaSpl
import Derived.Test.YtabndfkkbmhhjaaSrw
import Derived.Test.YtabndfkkbmhhjaaTill
import Derived.Test.YtabndfkkbmhhjaaImb
import Derived.Deep.DeepCutAuto
import Derived.BigQuiet
import Derived.Test.YtabndfkkbmhhjaaLty
import Derived.Test.YtabndfkkbmhhjaaTxs
import Derived.Test.YtabndfkkbmhhjaaTwt
namespace Go.Proofs.Ytabndfkkbmhhjaa
set_option linter.unusedVariables false
set_option linter.unusedSimpArgs false

theorem xor_cancel (a b c : Nat) : (a ^^^ c) ^^^ (b ^^^ c) = a ^^^ b := by
  rw [Nat.xor_comm b c, Nat.xor_assoc, ← Nat.xor_assoc c c b, Nat.xor_self, Nat.zero_xor]
theorem zip_zeros (l : List Nat) : List.zipWith (· ^^^ ·) l (List.replicate l.length 0) = l := by
  induction l with
  | nil => rfl
  | cons c l ih => simp [List.replicate_succ, ih]
theorem crc_xor (l m : List Nat) (h : l.length = m.length) : crc l ^^^ crc m = crcF 0 (List.zipWith (· ^^^ ·) l m) := by
  unfold crc
  rw [xor_cancel, ← crcF_xor l m ones ones h, Nat.xor_self]
/-- the sums of two texts differ as the sum of both, xored, and that of as many noughts -/
theorem crc_join (l m : List Nat) (h : l.length = m.length) (n : Nat) (hn : l.length = n) : crc l ^^^ crc m = crc (List.zipWith (· ^^^ ·) l m) ^^^ crc (List.replicate n 0) := by
  subst hn
  have hl : (List.zipWith (· ^^^ ·) l m).length = l.length := by simp [h]
  rw [crc_xor l m h, crc_xor _ _ (by rw [hl, List.length_replicate])]
  congr 1
  have e := zip_zeros (List.zipWith (· ^^^ ·) l m)
  rw [hl] at e
  exact e.symm
theorem crcF_ne (l : List Nat) : ∀ (i d : Nat), i < l.length → 0 < d → d < 256 → ∀ x, x < 4294967296 → crcF x (l.set i (l[i]?.getD 0 ^^^ d)) ^^^ crcF x l ≠ 0 := by
  intro i d hi h0 hd x hx
  have hl : (l.set i (l[i]?.getD 0 ^^^ d)).length = l.length := by simp
  rw [← crcF_xor _ _ x x hl, Nat.xor_self]
  have e : List.zipWith (· ^^^ ·) (l.set i (l[i]?.getD 0 ^^^ d)) l = (List.replicate l.length 0).set i d := by
    apply List.ext_getElem?
    intro j
    rw [List.getElem?_zipWith, List.getElem?_set, List.getElem?_set]
    by_cases hj : i = j
    · subst hj
      simp [hi]
      rw [Nat.xor_comm, ← Nat.xor_assoc, Nat.xor_self, Nat.zero_xor]
    · simp [hj]
      by_cases hjl : j < l.length
      · rw [List.getElem?_eq_getElem hjl, List.getElem?_replicate, if_pos hjl]
        simp
      · rw [List.getElem?_eq_none (by omega), List.getElem?_replicate, if_neg hjl]
  rw [e]
  have e2 : (List.replicate l.length 0).set i d = List.replicate i 0 ++ (d :: List.replicate (l.length - i - 1) 0) := by
    apply List.ext_getElem?
    intro j
    rw [List.getElem?_set, List.getElem?_append, List.length_replicate, List.length_replicate]
    by_cases hj : i = j
    · subst hj; simp [hi]
    · rw [if_neg hj]
      by_cases h1 : j < i
      · simp [h1, List.getElem?_replicate]; omega
      · rw [if_neg h1]
        obtain ⟨q, hq⟩ : ∃ q, j - i = q + 1 := ⟨j - i - 1, by omega⟩
        rw [hq, List.getElem?_cons_succ, List.getElem?_replicate, List.getElem?_replicate]
        by_cases h2 : j < l.length
        · rw [if_pos h2, if_pos (by omega)]
        · rw [if_neg h2, if_neg (by omega)]
  rw [e2]
  unfold crcF
  rw [List.foldl_append]
  have e3 : List.foldl crcS 0 (List.replicate i 0) = 0 := crcF_zero i
  rw [e3]
  show crcF (crcS 0 d) (List.replicate (l.length - i - 1) 0) ≠ 0
  have e4 : crcS 0 d = stp8 d := by unfold crcS; rw [Nat.zero_xor]
  rw [e4]
  exact crcF_zeros _ _ (stp8_lt d (by omega)) (stp8_ne d (by omega) (by omega))
/-- a bit that is turned turns the sum -/
theorem crc_turn (l : List Nat) (i d : Nat) (hi : i < l.length) (h0 : 0 < d) (hd : d < 256) : crc (l.set i (l[i]?.getD 0 ^^^ d)) ≠ crc l := by
  intro h
  have h2 := crcF_ne l i d hi h0 hd ones (by decide)
  apply h2
  have h3 : crcF ones (l.set i (l[i]?.getD 0 ^^^ d)) = crcF ones l := by
    have := congrArg (· ^^^ ones) h
    unfold crc at this
    simpa [Nat.xor_assoc] using this
  rw [h3, Nat.xor_self]
end Go.Proofs.Ytabndfkkbmhhjaa
namespace Go.Proofs.Ytabndfkkbmhhjaa
set_option linter.unusedVariables false
set_option linter.unusedSimpArgs false
open Go.RowKit Go.Deep

/-- a part that writes these bytes, if it may -/
def WrE {α : Type} (one : FSt → α → Option (FSt × α)) (f : α → List UInt8) (p : α → Bool) : Prop := ∀ bs x, one (.wr bs) x = if p x = true then some (.wr (bs ++ f x), x) else none
section
variable {α β : Type} {one : FSt → α → Option (FSt × α)} {two : FSt → β → Option (FSt × β)} {f : α → List UInt8} {g : β → List UInt8} {p : α → Bool} {q : β → Bool} {z : α}
theorem WrE.run (h : WrE one f p) : ∀ (xs : List α) (bs : List UInt8), runL one (.wr bs) xs = if xs.all p = true then some (.wr (bs ++ (xs.map f).flatten), xs) else none := by
  intro xs
  induction xs with
  | nil => intro bs; simp [runL]
  | cons x xs ih =>
    intro bs
    simp only [runL, h bs x]
    by_cases hx : p x = true
    · rw [if_pos hx]
      simp only [ih, List.all_cons, hx, Bool.true_and, List.map_cons, List.flatten_cons]
      by_cases hq : xs.all p = true
      · rw [if_pos hq, if_pos hq]; simp [List.append_assoc]
      · rw [if_neg hq, if_neg hq]
    · rw [if_neg hx, if_neg (by simp [hx])]
theorem wr_num : WrE num (fun n => numsB [n]) numOk := fun bs x => by
  unfold num numsB
  simp
theorem WrE.list (h : WrE one f p) : WrE (listF one z) (listBy f) (listOk p) := fun bs xs => by
  unfold listF listOk listBy
  by_cases hl : 1024 < xs.length
  · rw [if_pos hl, if_neg (by simp; omega)]
  · rw [if_neg hl]
    have h1 : numOk (xs.length : Int) = true := by unfold numOk; simp; omega
    have h2 : num (.wr bs) (xs.length : Int) = some (.wr (bs ++ numsB [(xs.length : Int)]), (xs.length : Int)) := by rw [wr_num bs, if_pos h1]
    rw [h2]
    simp only
    rw [h.run, show decide (xs.length ≤ 1024) = true from decide_eq_true (by omega), Bool.true_and, List.append_assoc]
theorem WrE.pair (h : WrE one f p) (k : WrE two g q) : WrE (pairF one two) (fun x => f x.1 ++ g x.2) (fun x => p x.1 && q x.2) := fun bs x => by
  unfold pairF
  rw [h bs]
  by_cases hx : p x.1 = true
  · rw [if_pos hx]
    simp only [Option.bind_some, hx, Bool.true_and]
    rw [k (bs ++ f x.1) x.2]
    by_cases hy : q x.2 = true
    · rw [if_pos hy, if_pos hy]; simp [List.append_assoc]
    · rw [if_neg hy, if_neg hy]; rfl
  · rw [if_neg hx, if_neg (by simp [hx])]; rfl
theorem WrE.map_ (h : WrE one f p) (e : β → α) (d : α → β) (h1 : ∀ x, d (e x) = x) : WrE (mapF e d one) (fun x => f (e x)) (fun x => p (e x)) := fun bs x => by
  unfold mapF
  rw [h bs]
  by_cases hx : p (e x) = true
  · rw [if_pos hx, if_pos hx]; simp [h1]
  · rw [if_neg hx, if_neg hx]; rfl
theorem WrE.congr {one' : FSt → α → Option (FSt × α)} {f' : α → List UInt8} {p' : α → Bool} (h : WrE one f p) (h1 : ∀ st x, one' st x = one st x) (h2 : ∀ x, f' x = f x) (h3 : ∀ x, p' x = p x) : WrE one' f' p' := fun bs x => by
  rw [h1, h2, h3]; exact h bs x
end
theorem numsB_cons (a : Int) (l : List Int) : numsB (a :: l) = numsB [a] ++ numsB l := by simp [numsB]
theorem wr_bits : WrE bitsF (fun a => vb a.toNat) (fun _ => true) := fun bs x => by simp [bitsF]
theorem wr_flag : WrE flagF (fun b => numsB [mInt b]) (fun _ => true) := fun bs x => by
  unfold flagF
  rw [wr_num bs, if_pos (by cases x <;> decide)]
  cases x <;> rfl
theorem wr_int : WrE intF (fun n => numsB [n]) numOk := wr_num.congr (fun st x => by
  unfold intF
  rw [run1_bind]
  rcases num st x with _ | ⟨s, y⟩ <;> rfl) (fun _ => rfl) (fun _ => rfl)
theorem wr_stop : WrE stopF stopBy stopOk := ((wr_num.pair wr_num).map_ (fun x : TStop => (x.ty, x.gd)) (fun p => ⟨p.1, p.2⟩) (fun _ => rfl)).congr (fun st x => by
    simp only [stopF, run2_bind, mapF, pairF, Option.bind_assoc, Option.bind_some, List.getD_cons_zero, List.getD_cons_succ]) (fun x => by unfold stopBy; rw [numsB_cons]) (fun _ => rfl)
theorem wr_tail : WrE tailF tailBy tailOk := ((wr_num.pair (wr_num.pair (wr_stop.list (z := zStop)))).map_ (fun x : TTail => (x.br, x.cl, x.bars)) (fun p => ⟨p.1, p.2.1, p.2.2⟩) (fun _ => rfl)).congr (fun st x => by
    simp only [tailF, run2_bind, mapF, pairF, Option.bind_assoc, Option.bind_some, List.getD_cons_zero, List.getD_cons_succ]) (fun x => by unfold tailBy; rw [numsB_cons, List.append_assoc]) (fun x => by unfold tailOk; rw [Bool.and_assoc])
theorem wr_row : WrE rowF rowBy rowOk := ((wr_num.pair (wr_num.pair (wr_flag.pair (wr_num.pair ((wr_stop.list (z := zStop)).pair (wr_num.pair (wr_num.pair (wr_tail.list (z := zTail))))))))).map_ (fun x : TRow => (x.par, x.ty, x.many, x.win, x.bars, x.leave, x.guard, x.ends)) (fun p => ⟨p.1, p.2.1, p.2.2.1, p.2.2.2.1, p.2.2.2.2.1, p.2.2.2.2.2.1, p.2.2.2.2.2.2.1, p.2.2.2.2.2.2.2⟩) (fun _ => rfl)).congr (fun st x => by
    simp only [rowF, run2_bind, mapF, pairF, Option.bind_assoc, Option.bind_some, List.getD_cons_zero, List.getD_cons_succ]) (fun x => by
    unfold rowBy
    rw [numsB_cons, numsB_cons x.ty, numsB_cons (mInt x.many), numsB_cons x.leave]
    simp only [List.append_assoc]) (fun x => by unfold rowOk; simp only [Bool.and_assoc, Bool.true_and])
def inpBy (x : TInp) : List UInt8 := numsB [x.op, x.kind, x.pos, x.attr]
def inpOk (x : TInp) : Bool := numOk x.op && numOk x.kind && numOk x.pos && numOk x.attr
def insBy (x : TIns) : List UInt8 := numsB [x.op, x.dst, x.a, x.b]
def insOk (x : TIns) : Bool := numOk x.op && numOk x.dst && numOk x.a && numOk x.b
def valBy (x : TVal) : List UInt8 := numsB [x.kind] ++ vb x.bits.toNat
def valOk (x : TVal) : Bool := numOk x.kind
def codeBy (c : TCode) : List UInt8 := numsB [c.regs, c.slots] ++ listBy inpBy c.inputs ++ listBy valBy c.consts ++ listBy insBy c.list
def codeOk (c : TCode) : Bool := numOk c.regs && numOk c.slots && listOk inpOk c.inputs && listOk valOk c.consts && listOk insOk c.list
theorem four_nums (a b c d : Int) : numsB [a, b, c, d] = numsB [a] ++ (numsB [b] ++ (numsB [c] ++ numsB [d])) := by simp [numsB]
theorem wr_inp : WrE inpF inpBy inpOk := ((wr_num.pair (wr_num.pair (wr_num.pair wr_num))).map_ (fun x : TInp => (x.op, x.kind, x.pos, x.attr)) (fun p => ⟨p.1, p.2.1, p.2.2.1, p.2.2.2⟩) (fun _ => rfl)).congr (fun st x => by
    simp only [inpF, run4_bind, mapF, pairF, Option.bind_assoc, Option.bind_some, List.getD_cons_zero, List.getD_cons_succ]) (fun x => by unfold inpBy; rw [four_nums]) (fun x => by unfold inpOk; simp only [Bool.and_assoc])
theorem wr_ins : WrE insF insBy insOk := ((wr_num.pair (wr_num.pair (wr_num.pair wr_num))).map_ (fun x : TIns => (x.op, x.dst, x.a, x.b)) (fun p => ⟨p.1, p.2.1, p.2.2.1, p.2.2.2⟩) (fun _ => rfl)).congr (fun st x => by
    simp only [insF, run4_bind, mapF, pairF, Option.bind_assoc, Option.bind_some, List.getD_cons_zero, List.getD_cons_succ]) (fun x => by unfold insBy; rw [four_nums]) (fun x => by unfold insOk; simp only [Bool.and_assoc])
theorem wr_val : WrE valF valBy valOk := ((wr_num.pair wr_bits).map_ (fun x : TVal => (x.kind, x.bits)) (fun p => ⟨p.1, p.2⟩) (fun _ => rfl)).congr (fun st x => by
    simp only [valF, run1_bind, mapF, pairF, Option.bind_assoc, Option.bind_some, List.getD_cons_zero, List.getD_cons_succ]) (fun x => rfl) (fun x => by unfold valOk; rw [Bool.and_true])
theorem wr_code : WrE codeF codeBy codeOk := ((wr_num.pair (wr_num.pair ((wr_inp.list (z := zInp)).pair ((wr_val.list (z := zVal)).pair (wr_ins.list (z := zIns)))))).map_ (fun x : TCode => (x.regs, x.slots, x.inputs, x.consts, x.list)) (fun p => ⟨p.1, p.2.1, p.2.2.1, p.2.2.2.1, p.2.2.2.2⟩) (fun _ => rfl)).congr (fun st x => by
    simp only [codeF, run2_bind, mapF, pairF, Option.bind_assoc, Option.bind_some, List.getD_cons_zero, List.getD_cons_succ]) (fun x => by unfold codeBy; rw [numsB_cons]; simp only [List.append_assoc]) (fun x => by unfold codeOk; simp only [Bool.and_assoc])
def intBy (n : Int) : List UInt8 := numsB [n]
def tabBy (T : TTab) : List UInt8 := numsB [T.strategy] ++ listBy intBy T.keys ++ listBy (listBy intBy) T.kinds ++ numsB [T.syms, T.runs, T.cells] ++ listBy rowBy T.states ++ listBy codeBy T.codes
def tabOk (T : TTab) : Bool := numOk T.strategy && listOk numOk T.keys && listOk (listOk numOk) T.kinds && numOk T.syms && numOk T.runs && numOk T.cells && listOk rowOk T.states && listOk codeOk T.codes
theorem wr_tab : WrE tabF tabBy tabOk := ((wr_num.pair ((wr_int.list (z := 0)).pair (((wr_int.list (z := 0)).list (z := [])).pair (wr_num.pair (wr_num.pair (wr_num.pair ((wr_row.list (z := zRow)).pair (wr_code.list (z := zCode))))))))).map_ (fun x : TTab => (x.strategy, x.keys, x.kinds, x.syms, x.runs, x.cells, x.states, x.codes)) (fun p => ⟨p.1, p.2.1, p.2.2.1, p.2.2.2.1, p.2.2.2.2.1, p.2.2.2.2.2.1, p.2.2.2.2.2.2.1, p.2.2.2.2.2.2.2⟩) (fun _ => rfl)).congr (fun st x => by
    simp only [tabF, run1_bind, run3_bind, mapF, pairF, Option.bind_assoc, Option.bind_some, List.getD_cons_zero, List.getD_cons_succ]) (fun x => by
    unfold tabBy
    rw [numsB_cons x.syms, numsB_cons x.runs]
    simp only [List.append_assoc]
    rfl) (fun x => by unfold tabOk; simp only [Bool.and_assoc])
/-- an image's bytes, by the document's words -/
theorem Img.by_ {y : TTab} {m : List UInt8} (h : Img y m) : tabOk y = true ∧ m = tabBy y := by
  have h1 := h.2
  rw [wr_tab] at h1
  by_cases hp : tabOk y = true
  · rw [if_pos hp] at h1
    simp only [List.nil_append, Option.some.injEq, Prod.mk.injEq, FSt.wr.injEq, and_true] at h1
    exact ⟨hp, h1.symm⟩
  · rw [if_neg hp] at h1; cases h1
theorem flat_ints (l : List Int) : (l.map intBy).flatten = numsB l := by
  induction l with
  | nil => rfl
  | cons x l ih => rw [List.map_cons, List.flatten_cons, ih, numsB_cons x l]; rfl
theorem kind_by : listBy intBy = kindBy := by
  funext l
  unfold listBy kindBy
  rw [flat_ints]
theorem plain_le (T : TTab) : (plainBy T).length ≤ (tabBy T).length := by
  unfold plainBy tabBy
  rw [kind_by]
  have e1 : kindBy T.keys = numsB [(T.keys.length : Int)] ++ numsB T.keys := rfl
  have e2 : listBy kindBy T.kinds = numsB [(T.kinds.length : Int)] ++ (T.kinds.map kindBy).flatten := rfl
  rw [e1, e2, numsB_cons T.strategy, numsB_cons T.syms, numsB_cons T.runs, numsB_cons T.cells, numsB_cons T.syms [T.runs, T.cells], numsB_cons T.runs [T.cells]]
  simp only [List.length_append]
  omega
theorem IsImg.plain {y : TTab} {b : List UInt8} (h : IsImg y b) : (plainBy y).length ≤ 1000000000 := by
  obtain ⟨m, h1, h2, h3⟩ := h
  have h4 := (h1.by_).2
  have h5 := plain_le y
  rw [h2, List.length_append, List.length_append] at h3
  rw [h4] at h3
  omega
end Go.Proofs.Ytabndfkkbmhhjaa
namespace Go.Proofs.Ytabndfkkbmhhjaa
set_option linter.unusedVariables false
set_option linter.unusedSimpArgs false
open Go.RowKit Go.Deep

attribute [local go_sem ↓] Go.wp_at_zero Go.wp_at_succ
theorem cells_at {α : Type} {F : Nat} {R : World → List Value → α → Prop} {w : World} {v : Value} {l : List α} (h : SlR F R w v l) {i : Nat} {x : α} (hx : l[i]? = some x) :
    ∃ b off c cs, v = .slice (some ⟨b, off, none⟩) l.length c ∧ l.length ≤ c ∧ c ≤ maxLen ∧ R w cs x ∧ ∀ (j : Nat) (u : Value), cs[j]? = some u → w.cell? ⟨b, off + i * F + j, none⟩ = some u := by
  obtain ⟨b, off, c, hv, h1, h2, hi, cs, hl, hr, hc⟩ := h.get hx
  exact ⟨b, off, c, cs, hv, h1, h2, hr, hc⟩
theorem bits_nat {x : Int} (h : wfu x) : ∃ n : Nat, x = (n : Int) ∧ n < 18446744073709551616 := by
  have h2 := bd_u64 h
  exact ⟨x.toNat, by omega, by omega⟩
/-- the writer's bytes grow -/
theorem WSt.app {B g : Nat} {w0 w wi w2 : World} {bs m : List UInt8} {ok : Bool} {v v' : Value} {n : Nat} (h : WSt B g w0 w bs ok) (h1 : Blk w g 69 #[v, .bool ok]) (h2 : w.ownsRow B 5 1 v bs.length (bv bs)) (hb : Below w.heap.size w wi)
    (ho : w2.ownsRow B 5 1 v' n (bv bs ++ bv m)) (hn : n = bs.length + m.length) (hg : wi.grownBy w2 v.ownBlock) : WSt B g w0 (w2.setCell ⟨g, 0, none⟩ v') (bs ++ m) ok ∧ KeepT w (w2.setCell ⟨g, 0, none⟩ v') := by
  have k1 : Blk w2 g 69 #[v, .bool ok] := (h1.below hb h1.lt).grown hg (fun e => own_blk_ne h2 h1 (by decide) e.symm)
  refine ⟨⟨out_app h1 h2 h.out.lt.2 hb ho hn hg, below_app h.bel h.sz h2 h.out.lt.2 hb hg, ?_⟩, ((KeepT.below hb).trans (KeepT.grown (own_below2 h2 hb) hg)).trans (KeepT.set_ k1 0 _)⟩
  exact Nat.le_trans h.sz (Nat.le_trans hb.size (by simpa using hg.size))
set_option maxRecDepth 100000 in
set_option maxHeartbeats 8000000 in
theorem wcode_any (x : TCode) (vi vc vl : Value) (B g : Nat) (bs : List UInt8) (ok : Bool) (w0 w : World) (hst : WSt B g w0 w bs ok) (hB : w0.heap.size ≤ B) (hi : SlR 4 InpC w0 vi x.inputs) (hc : SlR 2 ValC w0 vc x.consts) (hl : SlR 4 InsC w0 vl x.list) (hreg : wfi x.regs) (hsl : wfi x.slots) (hlb : bs.length + (codeBy x).length ≤ 1000000000) :
    Calls Try.prog 23 #[.pointer (some ⟨g, 0, none⟩), .agg #[.int .i64 x.regs, .int .i64 x.slots, vi, vc, vl]] w (WrQ B g w0 w (bs ++ codeBy x) (ok && codeOk x)) := by
  obtain ⟨A1, c1, rfl, ha1, hb1⟩ := hi.slice
  obtain ⟨A2, c2, rfl, ha2, hb2⟩ := hc.slice
  obtain ⟨A3, c3, rfl, ha3, hb3⟩ := hl.slice
  unfold maxLen at hb1 hb2 hb3
  have HI := Lib.hid hi
  have HC := Lib.hid hc
  have HL := Lib.hid hl
  have HLB := Lib.hid hlb
  obtain ⟨i0, hi0, hz0, hz1, hz2⟩ := info_parts infoU8
  obtain ⟨W1, hW1⟩ : ∃ W, W = w.alloc (.cells #[.int .i64 x.regs, .int .i64 x.slots, .slice A1 x.inputs.length c1, .slice A2 x.consts.length c2, .slice A3 x.list.length c3] 57) := ⟨_, rfl⟩
  have BX : Hid (Blk W1 w.heap.size 57 #[.int .i64 x.regs, .int .i64 x.slots, .slice A1 x.inputs.length c1, .slice A2 x.consts.length c2, .slice A3 x.list.length c3]) := Lib.hid (by rw [hW1]; exact Blk.new _ _ _)
  have HK1 : Hid (KeepT w W1) := Lib.hid (by rw [hW1]; exact KeepT.alloc _ _)
  have CX := Lib.hid (nums_lit [x.regs, x.slots] (by intro y hy; simp at hy; rcases hy with rfl | rfl <;> assumption) B g bs ok w0 W1 (by rw [hW1]; exact hst.alloc _) (by
    have h2 := HLB.out
    simp only [codeBy, List.length_append] at h2
    omega))
  obtain ⟨x0, x1, x2, x3, x4⟩ := blk5 BX.out
  have HW1 := Lib.hid hW1
  clear hi hc hl hlb hst hW1
  go_enter Try.func23, Try.ntmps23
  go_upto_region 1 with fail
  rw [← HW1.out]
  clear HW1
  go_wp2_with fail
  refine CX.out.mono ?_
  rintro e w2 ⟨rfl, h2, k2⟩
  have H1 := Lib.hid h2
  have K1 := Lib.hid (HK1.out.trans k2)
  have B1 := Lib.hid (k2 _ _ _ BX.out (by decide) (by decide))
  clear x0 x1 x2 x3 x4 h2 k2 CX BX HK1
  obtain ⟨p0, hp0⟩ : ∃ p, p = bs ++ numsB [x.regs, x.slots] := ⟨_, rfl⟩
  obtain ⟨o0, ho0⟩ : ∃ o, o = (ok && [x.regs, x.slots].all numOk) := ⟨_, rfl⟩
  rw [← hp0, ← ho0] at H1
  have HLP : Hid (p0.length + ((listBy inpBy x.inputs).length + ((listBy valBy x.consts).length + (listBy insBy x.list).length)) ≤ 1000000000) := Lib.hid (by
    have h2 := HLB.out
    rw [hp0]
    simp only [codeBy, List.length_append] at h2 ⊢
    omega)
  have HP0 := Lib.hid hp0
  have HO0 := Lib.hid ho0
  clear hp0 ho0
  obtain ⟨x0, x1, x2, x3, x4⟩ := blk5 B1.out
  have CX := Lib.hid (count_any x.inputs.length B g p0 o0 w0 w2 H1.out (by omega) (by have := HLP.out; omega))
  go_wp2_with fail
  refine CX.out.mono ?_
  rintro e u1 ⟨rfl, h2, k2⟩
  have HX1 := Lib.hid h2
  have KX := Lib.hid (K1.out.trans k2)
  have BX := Lib.hid (k2 _ _ _ B1.out (by decide) (by decide))
  clear x0 x1 x2 x3 x4 h2 k2 CX K1 B1 H1
  obtain ⟨x0, x1, x2, x3, x4⟩ := blk5 BX.out
  have nn : (0 : Int) ≤ (x.inputs.length : Int) := by omega
  go_wp2_with fail
  clear x0 x1 x2 x3 x4
  go_loopw [25] (fun i wr => ∃ r : Nat, r ≤ x.inputs.length ∧ i = .int .i64 r ∧ Hid (WSt B g w0 wr ((p0 ++ numsB [(x.inputs.length : Int)]) ++ ((x.inputs.take r).map inpBy).flatten) ((o0 && decide (x.inputs.length ≤ 1024)) && (x.inputs.take r).all inpOk)) ∧ Hid (KeepT u1 wr)) (fun i _ => x.inputs.length - (intOf i).toNat)
  case atStart => exact ⟨0, Nat.zero_le _, rfl, Lib.hid (by simpa using HX1.out), Lib.hid (KeepT.refl _)⟩
  case round =>
    obtain ⟨r, hr, rfl, hX, hKt⟩ := hrel
    by_cases hlt : r < x.inputs.length
    · obtain ⟨y, hx⟩ : ∃ y, x.inputs[r]? = some y := ⟨_, List.getElem?_eq_getElem hlt⟩
      obtain ⟨b5, q5, c5, cs5, hv5, _, _, ⟨rfl, wy0, wy1, wy2, wy3⟩, hcc⟩ := cells_at HI.out hx
      injection hv5 with hv5 _ hcap5
      subst hv5 hcap5
      have kc := KeepC.of_below (hX.out.bel.mono hB)
      have m0 := kc _ _ (hcc 0 _ rfl)
      have m1 := kc _ _ (hcc 1 _ rfl)
      have m2 := kc _ _ (hcc 2 _ rfl)
      have m3 := kc _ _ (hcc 3 _ rfl)
      clear kc hcc
      simp only [Nat.add_zero] at m0
      have HFL : Hid ((p0 ++ numsB [(x.inputs.length : Int)] ++ ((x.inputs.take r).map inpBy).flatten).length + (inpBy y).length ≤ 1000000000) := Lib.hid (by
        have h1 := flat_le inpBy x.inputs (r + 1)
        rw [flat_take inpBy hx] at h1
        have h2 := HLP.out
        simp only [listBy, List.length_append] at h1 h2 ⊢
        omega)
      obtain ⟨W, hW⟩ : ∃ W, W = wr.alloc (.cells #[.int .i64 y.op, .int .i64 y.kind, .int .i64 y.pos, .int .i64 y.attr] 91) := ⟨_, rfl⟩
      have hbx : Blk W wr.heap.size 91 #[.int .i64 y.op, .int .i64 y.kind, .int .i64 y.pos, .int .i64 y.attr] := by rw [hW]; exact Blk.new _ _ _
      have x0 := hbx.cell 0
      have x1 := hbx.cell 1
      have x2 := hbx.cell 2
      have x3 := hbx.cell 3
      have HKW : Hid (KeepT u1 W) := Lib.hid (by rw [hW]; exact hKt.out.trans (KeepT.alloc _ _))
      have N := Lib.hid (nums_lit [y.op, y.kind, y.pos, y.attr] (by intro z hz; simp at hz; rcases hz with rfl | rfl | rfl | rfl <;> assumption) B g _ _ w0 W (by rw [hW]; exact hX.out.alloc _) (by
        have h2 := HFL.out
        rw [show inpBy y = numsB [y.op, y.kind, y.pos, y.attr] from rfl] at h2
        omega))
      clear hbx hX hKt
      go_upto_region 6 with fail
      rw [← hW]
      clear hW m0 m1 m2 m3
      go_wp2_with fail
      refine N.out.mono ?_
      rintro e w5 ⟨rfl, h2, h3⟩
      have H2 := Lib.hid h2
      have H3 := Lib.hid (HKW.out.trans h3)
      clear h2 h3 x0 x1 x2 x3
      go_wp2_with fail
      go_roundw
      case rel =>
        have H4 : Hid (WSt B g w0 w5 ((p0 ++ numsB [(x.inputs.length : Int)]) ++ ((x.inputs.take (r + 1)).map inpBy).flatten) ((o0 && decide (x.inputs.length ≤ 1024)) && (x.inputs.take (r + 1)).all inpOk)) := Lib.hid (by rw [flat_take inpBy hx, allp_take inpOk hx, ← List.append_assoc, ← Bool.and_assoc]; have h := H2.out; simp only [List.all_cons, List.all_nil, Bool.and_true] at h; rw [show inpOk y = (numOk y.op && numOk y.kind && numOk y.pos && numOk y.attr) from rfl, show inpBy y = numsB [y.op, y.kind, y.pos, y.attr] from rfl]; simp only [Bool.and_assoc] at h ⊢; exact h)
        first | exact ⟨r + 1, by omega, by go_num, H4, H3⟩ | ((repeat apply Exists.intro); exact ⟨⟨r + 1, by omega, by go_num, H4, H3⟩, rfl⟩)
      case measure => simp [intOf]; omega
    · have hge : (x.inputs.length : Int) ≤ (r : Int) := by omega
      have hXe := hX.out
      rw [show r = x.inputs.length by omega, List.take_length] at hXe
      obtain ⟨p1, hp⟩ : ∃ p, p = p0 ++ listBy inpBy x.inputs := ⟨_, rfl⟩
      obtain ⟨o1, ho⟩ : ∃ o, o = (o0 && listOk inpOk x.inputs) := ⟨_, rfl⟩
      have H2 : Hid (WSt B g w0 wr p1 o1) := Lib.hid (by rw [hp, ho]; unfold listBy listOk; rw [← List.append_assoc, ← Bool.and_assoc]; exact hXe)
      have K2 := Lib.hid (KX.out.trans hKt.out)
      have B2 := Lib.hid (hKt.out _ _ _ BX.out (by decide) (by decide))
      have HP1 := Lib.hid hp
      have HO1 := Lib.hid ho
      have HLP1 : Hid (p1.length + ((listBy valBy x.consts).length + (listBy insBy x.list).length) ≤ 1000000000) := Lib.hid (by rw [hp, List.length_append]; have := HLP.out; omega)
      clear hXe hX hKt KX BX hp ho
      obtain ⟨V1, hV⟩ : ∃ V, V = wr := ⟨wr, rfl⟩
      subst hV
      obtain ⟨x0, x1, x2, x3, x4⟩ := blk5 B2.out
      have CX := Lib.hid (count_any x.consts.length B g p1 o1 w0 V1 H2.out (by omega) (by have := HLP1.out; omega))
      go_wp2_with fail
      refine CX.out.mono ?_
      rintro e u2 ⟨rfl, h2, k2⟩
      have HX2 := Lib.hid h2
      have KX := Lib.hid (K2.out.trans k2)
      have BX := Lib.hid (k2 _ _ _ B2.out (by decide) (by decide))
      clear x0 x1 x2 x3 x4 h2 k2 CX K2 B2 H2
      obtain ⟨x0, x1, x2, x3, x4⟩ := blk5 BX.out
      have nn : (0 : Int) ≤ (x.consts.length : Int) := by omega
      go_wp2_with fail
      clear x0 x1 x2 x3 x4
      go_loopw [49] (fun i wr => ∃ r : Nat, r ≤ x.consts.length ∧ i = .int .i64 r ∧ Hid (WSt B g w0 wr ((p1 ++ numsB [(x.consts.length : Int)]) ++ ((x.consts.take r).map valBy).flatten) ((o1 && decide (x.consts.length ≤ 1024)) && (x.consts.take r).all valOk)) ∧ Hid (KeepT u2 wr)) (fun i _ => x.consts.length - (intOf i).toNat)
      case atStart => exact ⟨0, Nat.zero_le _, rfl, Lib.hid (by simpa using HX2.out), Lib.hid (KeepT.refl _)⟩
      case round =>
        obtain ⟨r, hr, rfl, hX, hKt⟩ := hrel
        by_cases hlt : r < x.consts.length
        · obtain ⟨y, hx⟩ : ∃ y, x.consts[r]? = some y := ⟨_, List.getElem?_eq_getElem hlt⟩
          obtain ⟨b5, q5, c5, cs5, hv5, _, _, ⟨rfl, wy0, wy1⟩, hcc⟩ := cells_at HC.out hx
          injection hv5 with hv5 _ hcap5
          subst hv5 hcap5
          have kc := KeepC.of_below (hX.out.bel.mono hB)
          have m0 := kc _ _ (hcc 0 _ rfl)
          have m1 := kc _ _ (hcc 1 _ rfl)
          clear kc hcc
          simp only [Nat.add_zero] at m0
          have HFL : Hid ((p1 ++ numsB [(x.consts.length : Int)] ++ ((x.consts.take r).map valBy).flatten).length + (valBy y).length ≤ 1000000000) := Lib.hid (by
            have h1 := flat_le valBy x.consts (r + 1)
            rw [flat_take valBy hx] at h1
            have h2 := HLP1.out
            simp only [listBy, List.length_append] at h1 h2 ⊢
            omega)
          obtain ⟨nb, hnb, hn64⟩ := bits_nat wy1
          rw [hnb] at m1
          obtain ⟨W, hW⟩ : ∃ W, W = wr.alloc (.cells #[.int .i64 y.kind, .int .u64 (nb : Int)] 94) := ⟨_, rfl⟩
          have hbx : Blk W wr.heap.size 94 #[.int .i64 y.kind, .int .u64 (nb : Int)] := by rw [hW]; exact Blk.new _ _ _
          have HBX := Lib.hid hbx
          have x0 := hbx.cell 0
          have HKW : Hid (KeepT u2 W) := Lib.hid (by rw [hW]; exact hKt.out.trans (KeepT.alloc _ _))
          have N := Lib.hid (nums_lit [y.kind] (by intro z hz; simp at hz; subst hz; assumption) B g _ _ w0 W (by rw [hW]; exact hX.out.alloc _) (by
            have h2 := HFL.out
            rw [show valBy y = numsB [y.kind] ++ vb y.bits.toNat from rfl] at h2
            simp only [List.length_append] at h2 ⊢
            omega))
          have HNB := Lib.hid hnb
          obtain ⟨X, hX0⟩ : ∃ X, X = wr.heap.size := ⟨_, rfl⟩
          rw [← hX0] at HBX x0
          clear hbx hX hKt hnb
          go_upto_region 12 with fail
          rw [← hW, ← hX0]
          clear hW m0 m1 hX0
          go_wp2_with fail
          refine N.out.mono ?_
          rintro e w5 ⟨rfl, h2, h3⟩
          have H3 := Lib.hid (HKW.out.trans h3)
          have HB5 := Lib.hid (h3 _ _ _ HBX.out (by decide) (by decide))
          obtain ⟨ct, HCT⟩ : ∃ q, Hid (q = (p1 ++ numsB [(x.consts.length : Int)]) ++ ((x.consts.take r).map valBy).flatten ++ numsB [y.kind]) := ⟨_, Lib.hid rfl⟩
          obtain ⟨okr, HOK⟩ : ∃ q, Hid (q = (((o1 && decide (x.consts.length ≤ 1024)) && (x.consts.take r).all valOk) && [y.kind].all numOk)) := ⟨_, Lib.hid rfl⟩
          rw [← HCT.out, ← HOK.out] at h2
          have H2 := Lib.hid h2
          have HCL : Hid (ct.length + (vb nb).length ≤ 1000000000) := Lib.hid (by
            have h2 := HFL.out
            rw [HCT.out]
            rw [show valBy y = numsB [y.kind] ++ vb y.bits.toNat from rfl] at h2
            rw [HNB.out, Int.toNat_natCast] at h2
            simp only [List.length_append] at h2 ⊢
            omega)
          clear h2 h3 x0 N HFL
          go_upto_region 13 with fail
          obtain ⟨yo, hyo⟩ : ∃ yo, yo = World.drew w5 := ⟨_, rfl⟩
          have HBO : Hid (Below w5.heap.size w5 yo) := Lib.hid (by rw [hyo]; exact ⟨rfl, rfl, rfl, Nat.le_refl _, fun _ _ => rfl⟩)
          have HSO := Lib.hid (H2.out.below HBO.out)
          obtain ⟨v, hbv, hov, hgB⟩ := HSO.out.out
          have HBV := Lib.hid hbv
          have HOV := Lib.hid hov
          have HBY := Lib.hid (HB5.out.below HBO.out HB5.out.lt)
          have HSZ := Lib.hid HSO.out.sz
          have HS : Hid (yo.cell? ⟨g, 0, none⟩ = some v ∧ yo.cell? ⟨X, 1, none⟩ = some (.int .u64 (nb : Int))) := Lib.hid ⟨hbv.cell 0, HBY.out.cell 1⟩
          have CU := Lib.hid (ruint_any 9 nb yo hn64 (by omega))
          clear hbv hov hgB
          refine region_till (fun W => W.cell? ⟨g, 0, none⟩ = some v ∧ W.cell? ⟨X, 1, none⟩ = some (.int .u64 (nb : Int))) (fun j => !([0, 1, 2, 3, 4, 5, 6, 7, 8, 10] : List Nat).contains j) (by kernel_rfl) ?_
          rw [← hyo]
          clear hyo
          refine till_take (i := 0) (v := ?_) rfl (by kernel_rfl) (by kernel_rfl) (by kernel_rfl) (by kernel_rfl) (fun _ _ _ h => h) (Or.inl ⟨by kernel_rfl, ?_⟩) HS.out ?_
          rotate_left
          · (intro w' hSw; obtain ⟨hc0, hc1⟩ := hSw; go_simp; try with_reducible rfl)
          refine till_take (i := 1) (v := ?_) rfl (by kernel_rfl) (by kernel_rfl) (by kernel_rfl) (by kernel_rfl) (fun _ _ _ h => h) (Or.inl ⟨by kernel_rfl, ?_⟩) HS.out ?_
          rotate_left
          · (intro w' hSw; obtain ⟨hc0, hc1⟩ := hSw; go_simp; try with_reducible rfl)
          refine till_take (i := 2) (v := ?_) rfl (by kernel_rfl) (by kernel_rfl) (by kernel_rfl) (by kernel_rfl) (fun _ _ _ h => h) (Or.inl ⟨by kernel_rfl, ?_⟩) HS.out ?_
          rotate_left
          · (intro w' hSw; obtain ⟨hc0, hc1⟩ := hSw; go_simp; try with_reducible rfl)
          refine till_take (i := 3) (v := ?_) rfl (by kernel_rfl) (by kernel_rfl) (by kernel_rfl) (by kernel_rfl) (fun _ _ _ h => h) (Or.inl ⟨by kernel_rfl, ?_⟩) HS.out ?_
          rotate_left
          · (intro w' hSw; obtain ⟨hc0, hc1⟩ := hSw; go_simp; try with_reducible rfl)
          refine till_take (i := 4) (v := ?_) rfl (by kernel_rfl) (by kernel_rfl) (by kernel_rfl) (by kernel_rfl) (fun _ _ _ h => h) (Or.inl ⟨by kernel_rfl, ?_⟩) HS.out ?_
          rotate_left
          · (intro w' hSw; obtain ⟨hc0, hc1⟩ := hSw; go_simp; try with_reducible rfl)
          refine till_take (i := 5) (v := ?_) rfl (by kernel_rfl) (by kernel_rfl) (by kernel_rfl) (by kernel_rfl) (fun _ _ _ h => h) (Or.inl ⟨by kernel_rfl, ?_⟩) HS.out ?_
          rotate_left
          · (intro w' hSw; obtain ⟨hc0, hc1⟩ := hSw; go_simp; try with_reducible rfl)
          refine till_take (i := 6) (v := ?_) rfl (by kernel_rfl) (by kernel_rfl) (by kernel_rfl) (by kernel_rfl) (fun _ _ _ h => h) (Or.inl ⟨by kernel_rfl, ?_⟩) HS.out ?_
          rotate_left
          · (intro w' hSw; obtain ⟨hc0, hc1⟩ := hSw; go_simp; try with_reducible rfl)
          refine till_ready (rs := [7]) (by kernel_rfl) (by simp) ?_
          refine TillAll.cons rfl (fun K hK => ?_) TillAll.nil
          go_simp
          go_wp2_with (go_at_call 39; refine CU.out.mono ?_; rintro e wi ⟨gi, ci, rfl, hoi, hbi⟩)
          have HBI := Lib.hid hbi
          have HOI := Lib.hid hoi
          have BI := Lib.hid (HBV.out.below hbi HBV.out.lt)
          have HS : Hid (wi.cell? ⟨g, 0, none⟩ = some v ∧ wi.cell? ⟨X, 1, none⟩ = some (.int .u64 (nb : Int))) := Lib.hid ⟨BI.out.cell 0, (HBY.out.below hbi HBY.out.lt).cell 1⟩
          clear hoi hbi CU
          (refine hK.out _ _ (fun _ => HS.out) ?_; clear hK K)
          refine till_ready (rs := [8]) (by kernel_rfl) (by simp) ?_
          refine TillAll.cons rfl (fun K hK => ?_) TillAll.nil
          refine step_append_any _ (by rfl) (.tmp 62) (.tmp 65) 31 (by rfl) B 5 i0 _ 1 1 Try.underlying31 hi0 hz0 hz1 hz2 rfl (by omega) v ct.length _ (by rfl) (own_below2 HOV.out HBI.out) wi.heap.size (some ⟨gi, 0, none⟩) (vb nb).length ci (bv (vb nb)) (by rfl) (Reads.of_own HOI.out) (bv_one _) (by have := HCL.out; unfold maxLen; omega) (by have := HCL.out; omega) (by have := HBI.out.size; have := HSZ.out; omega) ?_
          intro v' w6 ho hg hat
          obtain ⟨N6, hN6⟩ : ∃ N, N = ct.length + (vb nb).length := ⟨_, rfl⟩
          rw [← hN6] at ho
          obtain ⟨Av, cv, rfl⟩ := own_slice ho
          have HN6 := Lib.hid hN6
          clear hN6
          have HO2 := Lib.hid ho
          have HG2 := Lib.hid hg
          have B2 : Hid (Blk w6 g 69 #[v, .bool okr]) := Lib.hid (BI.out.grown hg (fun e => own_blk_ne HOV.out HBV.out (by decide) e.symm))
          have HS : Hid (w6.cell? ⟨g, 0, none⟩ = some v ∧ w6.cell? ⟨X, 1, none⟩ = some (.int .u64 (nb : Int))) := Lib.hid ⟨B2.out.cell 0, ((HBY.out.below HBI.out HBY.out.lt).grown hg (fun e => own_blk_ne HOV.out HBY.out (by decide) e.symm)).cell 1⟩
          clear ho hg hat
          (refine hK.out _ _ (fun _ => HS.out) ?_; clear hK K)
          refine till_pure (i := 9) (v := ?_) rfl (by kernel_rfl) (by kernel_rfl) (by kernel_rfl) (by kernel_rfl) (fun _ _ _ h => h) (Or.inl ⟨by kernel_rfl, ?_⟩) ?_
          rotate_left
          · (intro w' _; go_simp; try with_reducible rfl)
          refine till_take (i := 10) (v := ?_) rfl (by kernel_rfl) (by kernel_rfl) (by kernel_rfl) (by kernel_rfl) (fun _ _ _ h => h) (Or.inl ⟨by kernel_rfl, ?_⟩) HS.out ?_
          rotate_left
          · (intro w' hSw; obtain ⟨hc0, hc1⟩ := hSw; go_simp; try with_reducible rfl)
          refine till_ready (rs := [11]) (by kernel_rfl) (by simp) ?_
          refine TillAll.cons rfl (fun K hK => ?_) TillAll.nil
          have k0 := B2.out.cell 0
          have fz := B2.out.frozen 0
          go_simp
          (refine hK.out _ _ (fun h => absurd h (by decide)) ?_; clear hK K)
          clear k0 fz
          refine till_done (by kernel_rfl) ?_ _
          have HQ := Lib.hid (HSO.out.app HBV.out HOV.out HBI.out HO2.out HN6.out HG2.out)
          try simp only [Exit.then]
          go_wp2_with fail
          go_roundw
          case rel =>
            have H4 : Hid (WSt B g w0 (w6.setCell ⟨g, 0, none⟩ (.slice Av N6 cv)) ((p1 ++ numsB [(x.consts.length : Int)]) ++ ((x.consts.take (r + 1)).map valBy).flatten) ((o1 && decide (x.consts.length ≤ 1024)) && (x.consts.take (r + 1)).all valOk)) := Lib.hid (by
              have h := HQ.out.1
              rw [HCT.out, HOK.out] at h
              rw [flat_take valBy hx, allp_take valOk hx, ← List.append_assoc, ← Bool.and_assoc]
              rw [show valOk y = (numOk y.kind) from rfl, show valBy y = numsB [y.kind] ++ vb y.bits.toNat from rfl]
              rw [HNB.out, Int.toNat_natCast]
              simp only [List.all_cons, List.all_nil, Bool.and_true, List.append_assoc] at h ⊢
              exact h)
            have H5 := Lib.hid (H3.out.trans ((KeepT.below HBO.out).trans HQ.out.2))
            first | exact ⟨r + 1, by omega, by go_num, H4, H5⟩ | ((repeat apply Exists.intro); exact ⟨⟨r + 1, by omega, by go_num, H4, H5⟩, rfl⟩)
          case measure => simp [intOf]; omega
        · have hge : (x.consts.length : Int) ≤ (r : Int) := by omega
          have hXe := hX.out
          rw [show r = x.consts.length by omega, List.take_length] at hXe
          obtain ⟨p2, hp⟩ : ∃ p, p = p1 ++ listBy valBy x.consts := ⟨_, rfl⟩
          obtain ⟨o2, ho⟩ : ∃ o, o = (o1 && listOk valOk x.consts) := ⟨_, rfl⟩
          have H3 : Hid (WSt B g w0 wr p2 o2) := Lib.hid (by rw [hp, ho]; unfold listBy listOk; rw [← List.append_assoc, ← Bool.and_assoc]; exact hXe)
          have K3 := Lib.hid (KX.out.trans hKt.out)
          have B3 := Lib.hid (hKt.out _ _ _ BX.out (by decide) (by decide))
          have HP2 := Lib.hid hp
          have HO2 := Lib.hid ho
          have HLP2 : Hid (p2.length + (listBy insBy x.list).length ≤ 1000000000) := Lib.hid (by rw [hp, List.length_append]; have := HLP1.out; omega)
          clear hXe hX hKt KX BX hp ho
          obtain ⟨V2, hV⟩ : ∃ V, V = wr := ⟨wr, rfl⟩
          subst hV
          obtain ⟨x0, x1, x2, x3, x4⟩ := blk5 B3.out
          have CX := Lib.hid (count_any x.list.length B g p2 o2 w0 V2 H3.out (by omega) (by have := HLP2.out; omega))
          go_wp2_with fail
          refine CX.out.mono ?_
          rintro e u3 ⟨rfl, h2, k2⟩
          have HX3 := Lib.hid h2
          have KX := Lib.hid (K3.out.trans k2)
          have BX := Lib.hid (k2 _ _ _ B3.out (by decide) (by decide))
          clear x0 x1 x2 x3 x4 h2 k2 CX K3 B3 H3
          obtain ⟨x0, x1, x2, x3, x4⟩ := blk5 BX.out
          have nn : (0 : Int) ≤ (x.list.length : Int) := by omega
          go_wp2_with fail
          clear x0 x1 x2 x3 x4
          go_loopw [78] (fun i wr => ∃ r : Nat, r ≤ x.list.length ∧ i = .int .i64 r ∧ Hid (WSt B g w0 wr ((p2 ++ numsB [(x.list.length : Int)]) ++ ((x.list.take r).map insBy).flatten) ((o2 && decide (x.list.length ≤ 1024)) && (x.list.take r).all insOk)) ∧ Hid (KeepT u3 wr)) (fun i _ => x.list.length - (intOf i).toNat)
          case atStart => exact ⟨0, Nat.zero_le _, rfl, Lib.hid (by simpa using HX3.out), Lib.hid (KeepT.refl _)⟩
          case round =>
            obtain ⟨r, hr, rfl, hX, hKt⟩ := hrel
            by_cases hlt : r < x.list.length
            · obtain ⟨y, hx⟩ : ∃ y, x.list[r]? = some y := ⟨_, List.getElem?_eq_getElem hlt⟩
              obtain ⟨b5, q5, c5, cs5, hv5, _, _, ⟨rfl, wy0, wy1, wy2, wy3⟩, hcc⟩ := cells_at HL.out hx
              injection hv5 with hv5 _ hcap5
              subst hv5 hcap5
              have kc := KeepC.of_below (hX.out.bel.mono hB)
              have m0 := kc _ _ (hcc 0 _ rfl)
              have m1 := kc _ _ (hcc 1 _ rfl)
              have m2 := kc _ _ (hcc 2 _ rfl)
              have m3 := kc _ _ (hcc 3 _ rfl)
              clear kc hcc
              simp only [Nat.add_zero] at m0
              have HFL : Hid ((p2 ++ numsB [(x.list.length : Int)] ++ ((x.list.take r).map insBy).flatten).length + (insBy y).length ≤ 1000000000) := Lib.hid (by
                have h1 := flat_le insBy x.list (r + 1)
                rw [flat_take insBy hx] at h1
                have h2 := HLP2.out
                simp only [listBy, List.length_append] at h1 h2 ⊢
                omega)
              obtain ⟨W, hW⟩ : ∃ W, W = wr.alloc (.cells #[.int .i64 y.op, .int .i64 y.dst, .int .i64 y.a, .int .i64 y.b] 97) := ⟨_, rfl⟩
              have hbx : Blk W wr.heap.size 97 #[.int .i64 y.op, .int .i64 y.dst, .int .i64 y.a, .int .i64 y.b] := by rw [hW]; exact Blk.new _ _ _
              have x0 := hbx.cell 0
              have x1 := hbx.cell 1
              have x2 := hbx.cell 2
              have x3 := hbx.cell 3
              have HKW : Hid (KeepT u3 W) := Lib.hid (by rw [hW]; exact hKt.out.trans (KeepT.alloc _ _))
              have N := Lib.hid (nums_lit [y.op, y.dst, y.a, y.b] (by intro z hz; simp at hz; rcases hz with rfl | rfl | rfl | rfl <;> assumption) B g _ _ w0 W (by rw [hW]; exact hX.out.alloc _) (by
                have h2 := HFL.out
                rw [show insBy y = numsB [y.op, y.dst, y.a, y.b] from rfl] at h2
                omega))
              clear hbx hX hKt
              go_upto_region 19 with fail
              rw [← hW]
              clear hW m0 m1 m2 m3
              go_wp2_with fail
              refine N.out.mono ?_
              rintro e w5 ⟨rfl, h2, h3⟩
              have H2 := Lib.hid h2
              have H3 := Lib.hid (HKW.out.trans h3)
              clear h2 h3 x0 x1 x2 x3
              go_wp2_with fail
              go_roundw
              case rel =>
                have H4 : Hid (WSt B g w0 w5 ((p2 ++ numsB [(x.list.length : Int)]) ++ ((x.list.take (r + 1)).map insBy).flatten) ((o2 && decide (x.list.length ≤ 1024)) && (x.list.take (r + 1)).all insOk)) := Lib.hid (by rw [flat_take insBy hx, allp_take insOk hx, ← List.append_assoc, ← Bool.and_assoc]; have h := H2.out; simp only [List.all_cons, List.all_nil, Bool.and_true] at h; rw [show insOk y = (numOk y.op && numOk y.dst && numOk y.a && numOk y.b) from rfl, show insBy y = numsB [y.op, y.dst, y.a, y.b] from rfl]; simp only [Bool.and_assoc] at h ⊢; exact h)
                first | exact ⟨r + 1, by omega, by go_num, H4, H3⟩ | ((repeat apply Exists.intro); exact ⟨⟨r + 1, by omega, by go_num, H4, H3⟩, rfl⟩)
              case measure => simp [intOf]; omega
            · have hge : (x.list.length : Int) ≤ (r : Int) := by omega
              have hXe := hX.out
              rw [show r = x.list.length by omega, List.take_length] at hXe
              obtain ⟨p3, hp⟩ : ∃ p, p = p2 ++ listBy insBy x.list := ⟨_, rfl⟩
              obtain ⟨o3, ho⟩ : ∃ o, o = (o2 && listOk insOk x.list) := ⟨_, rfl⟩
              have H4 : Hid (WSt B g w0 wr p3 o3) := Lib.hid (by rw [hp, ho]; unfold listBy listOk; rw [← List.append_assoc, ← Bool.and_assoc]; exact hXe)
              have K4 := Lib.hid (KX.out.trans hKt.out)
              have B4 := Lib.hid (hKt.out _ _ _ BX.out (by decide) (by decide))
              have HP3 := Lib.hid hp
              have HO3 := Lib.hid ho
              clear hXe hX hKt KX BX hp ho
              obtain ⟨V3, hV⟩ : ∃ V, V = wr := ⟨wr, rfl⟩
              subst hV
              go_wp2_with fail
              go_end0
              refine ⟨rfl, ?_, K4.out⟩
              have h := H4.out
              rw [HP3.out, HO3.out, HP2.out, HO2.out, HP1.out, HO1.out, HP0.out, HO0.out] at h
              have e1 : bs ++ codeBy x = bs ++ numsB [x.regs, x.slots] ++ listBy inpBy x.inputs ++ listBy valBy x.consts ++ listBy insBy x.list := by unfold codeBy; simp only [List.append_assoc]
              have e2 : (ok && codeOk x) = ((((ok && [x.regs, x.slots].all numOk) && listOk inpOk x.inputs) && listOk valOk x.consts) && listOk insOk x.list) := by unfold codeOk; simp [Bool.and_assoc]
              rw [e1, e2]
              exact h
end Go.Proofs.Ytabndfkkbmhhjaa
namespace Go.Proofs.Ytabndfkkbmhhjaa
set_option linter.unusedVariables false
set_option linter.unusedSimpArgs false
open Go.RowKit Go.Deep

attribute [local go_sem ↓] Go.wp_at_zero Go.wp_at_succ
set_option maxRecDepth 100000 in
set_option maxHeartbeats 4000000 in
theorem nums_first (a : Int) (hwa : wfi a) (B g : Nat) (v : Value) (l : List UInt8) (w0 w : World) (hb : Blk w g 69 #[v, .bool true]) (hown : OwnB B w v l) (hBg : B ≤ g) (hbel : Below B w0 w) (hsz : B ≤ w.heap.size) (hl : l.length ≤ 1000) :
    Calls Try.prog 20 #[.pointer (some ⟨g, 0, none⟩), .slice (some ⟨w.heap.size, 0, none⟩) 1 1] (w.alloc (.cells #[.int .i64 a] 3)) (WrQ B g w0 w (l ++ numsB [a]) (numOk a)) := by
  obtain ⟨i0, hi0, hz0, hz1, hz2⟩ := info_parts infoU8
  obtain ⟨W1, hW1⟩ : ∃ W, W = w.alloc (.cells #[.int .i64 a] 3) := ⟨_, rfl⟩
  have ha1 : Below w.heap.size w W1 := by rw [hW1]; exact (Below.refl _ _).alloc (Nat.le_refl _) _
  have HB1 := Lib.hid (hb.below ha1 hb.lt)
  have HO1 := Lib.hid (hown.below ha1)
  have HA1 := Lib.hid ha1
  have HBL := Lib.hid hbel
  have HSZ := Lib.hid hsz
  have HBG := Lib.hid hBg
  have m0 : W1.cell? ⟨w.heap.size, 0, none⟩ = some (.int .i64 a) := by rw [hW1]; exact (Blk.new w 3 #[.int .i64 a]).cell 0
  have HWA : Hid (-9223372036854775808 ≤ a ∧ a ≤ 9223372036854775807) := Lib.hid (bd_i64 hwa)
  have HLL := Lib.hid hl
  rw [← hW1]
  clear hb hown hbel hsz ha1 hW1 hBg hl
  go_enter Try.func20, Try.ntmps20
  go_wp2_with fail
  go_loopw [8] (fun i wr => (i = .int .i64 0 ∧ wr = W1) ∨ (i = .int .i64 1 ∧ Hid (WSt B g w0 wr (l ++ numsB [a]) (numOk a)) ∧ Hid (KeepT w wr))) (fun i _ => 1 - (intOf i).toNat)
  case atStart => exact .inl ⟨rfl, rfl⟩
  case round =>
    rcases hrel with ⟨rfl, rfl⟩ | ⟨rfl, H2, H3⟩
    · have k0 := HB1.out.cell 0
      have k1 := HB1.out.cell 1
      have fz := HB1.out.frozen 1
      go_upto_region 3 with fail
      go_cut [5] (fun b wx => b = .int .i64 a ∧ wx = wr.setCell ⟨g, 1, none⟩ (.bool (numOk a)))
      case first =>
        by_cases h1 : a ≥ -1
        · by_cases h2 : a ≤ 1152921504606846976
          · have hok : numOk a = true := by simp [numOk, h1, h2]
            have HQ := Lib.hid hok
            clear hok
            go_wp2_with fail
            go_meet
            exact ⟨rfl, by rw [HQ.out]⟩
          · have hok : numOk a = false := by simp [numOk]; omega
            have HQ := Lib.hid hok
            have h2 : 1152921504606846976 < a := by omega
            have hd : decide (a ≤ 1152921504606846976) = false := decide_eq_false (by omega)
            clear hok
            go_wp2_with fail
            go_meet
            exact ⟨rfl, by rw [HQ.out]⟩
        · have hok : numOk a = false := by simp [numOk]; omega
          have HQ := Lib.hid hok
          have h1 : a < -1 := by omega
          have hd : decide (-1 ≤ a) = false := decide_eq_false (by omega)
          clear hok
          go_wp2_with fail
          go_meet
          exact ⟨rfl, by rw [HQ.out]⟩
      case rest =>
        obtain ⟨rfl, hwx⟩ := hcut
        obtain ⟨okr, HOK⟩ : ∃ q, Hid (q = numOk a) := ⟨_, Lib.hid rfl⟩
        rw [← HOK.out] at hwx
        have HB2 : Hid (Blk wc g 69 #[v, .bool okr]) := Lib.hid (by rw [hwx]; simpa using HB1.out.set_ 1 (.bool okr))
        have HO2 : Hid (OwnB B wc v l) := Lib.hid (by rw [hwx]; exact HO1.out.far (HO1.out.ne HB1.out (by decide)) _)
        have HA2 : Hid (Below B w0 wc) := Lib.hid (by rw [hwx]; exact (HBL.out.trans (HA1.out.mono HSZ.out)).setCell HBG.out _)
        have HK2 : Hid (KeepT w wc) := Lib.hid (by rw [hwx]; exact (KeepT.below HA1.out).trans (KeepT.set_ HB1.out 1 _))
        have HZ2 : Hid (B ≤ wc.heap.size) := Lib.hid (by rw [hwx]; simp only [World.size_setCell]; exact Nat.le_trans HSZ.out HA1.out.size)
        clear hwx k0 k1 fz m0
        go_upto_region 4 with fail
        obtain ⟨yo, hyo⟩ : ∃ yo, yo = World.drew wc := ⟨_, rfl⟩
        have HBO : Hid (Below wc.heap.size wc yo) := Lib.hid (by rw [hyo]; exact ⟨rfl, rfl, rfl, Nat.le_refl _, fun _ _ => rfl⟩)
        have HBY := Lib.hid (HB2.out.below HBO.out HB2.out.lt)
        have HOY := Lib.hid (HO2.out.below HBO.out)
        have HAY := Lib.hid (HA2.out.trans (HBO.out.mono HZ2.out))
        have HKY := Lib.hid (HK2.out.trans (KeepT.below HBO.out))
        have HZY := Lib.hid (Nat.le_trans HZ2.out HBO.out.size)
        have HS : Hid (yo.cell? ⟨g, 0, none⟩ = some v) := Lib.hid (HBY.out.cell 0)
        have CI := Lib.hid (rint_any a yo HWA.out.1 HWA.out.2)
        clear HB2 HO2 HA2 HK2 HBO
        refine region_till (fun W => W.cell? ⟨g, 0, none⟩ = some v) (fun j => !([0, 1, 2, 3, 4, 5, 6, 7, 9] : List Nat).contains j) (by kernel_rfl) ?_
        rw [← hyo]
        clear hyo
        refine till_take (i := 0) (v := ?_) rfl (by kernel_rfl) (by kernel_rfl) (by kernel_rfl) (by kernel_rfl) (fun _ _ _ h => h) (Or.inl ⟨by kernel_rfl, ?_⟩) HS.out ?_
        rotate_left
        · (intro w' hSw; obtain hc0 := hSw; go_simp; try with_reducible rfl)
        refine till_take (i := 1) (v := ?_) rfl (by kernel_rfl) (by kernel_rfl) (by kernel_rfl) (by kernel_rfl) (fun _ _ _ h => h) (Or.inl ⟨by kernel_rfl, ?_⟩) HS.out ?_
        rotate_left
        · (intro w' hSw; obtain hc0 := hSw; go_simp; try with_reducible rfl)
        refine till_take (i := 2) (v := ?_) rfl (by kernel_rfl) (by kernel_rfl) (by kernel_rfl) (by kernel_rfl) (fun _ _ _ h => h) (Or.inl ⟨by kernel_rfl, ?_⟩) HS.out ?_
        rotate_left
        · (intro w' hSw; obtain hc0 := hSw; go_simp; try with_reducible rfl)
        refine till_take (i := 3) (v := ?_) rfl (by kernel_rfl) (by kernel_rfl) (by kernel_rfl) (by kernel_rfl) (fun _ _ _ h => h) (Or.inl ⟨by kernel_rfl, ?_⟩) HS.out ?_
        rotate_left
        · (intro w' hSw; obtain hc0 := hSw; go_simp; try with_reducible rfl)
        refine till_take (i := 4) (v := ?_) rfl (by kernel_rfl) (by kernel_rfl) (by kernel_rfl) (by kernel_rfl) (fun _ _ _ h => h) (Or.inl ⟨by kernel_rfl, ?_⟩) HS.out ?_
        rotate_left
        · (intro w' hSw; obtain hc0 := hSw; go_simp; try with_reducible rfl)
        refine till_take (i := 5) (v := ?_) rfl (by kernel_rfl) (by kernel_rfl) (by kernel_rfl) (by kernel_rfl) (fun _ _ _ h => h) (Or.inl ⟨by kernel_rfl, ?_⟩) HS.out ?_
        rotate_left
        · (intro w' hSw; obtain hc0 := hSw; go_simp; try with_reducible rfl)
        refine till_ready (rs := [6]) (by kernel_rfl) (by simp) ?_
        refine TillAll.cons rfl (fun K hK => ?_) TillAll.nil
        go_simp
        go_wp2_with (go_at_call 37; refine CI.out.mono ?_; rintro e wi ⟨gi, ci, rfl, hoi, hbi⟩)
        have HBI := Lib.hid hbi
        have HOI := Lib.hid hoi
        have BI := Lib.hid (HBY.out.below hbi HBY.out.lt)
        have HS : Hid (wi.cell? ⟨g, 0, none⟩ = some v) := Lib.hid (BI.out.cell 0)
        clear hoi hbi CI
        (refine hK.out _ _ (fun _ => HS.out) ?_; clear hK K)
        refine till_ready (rs := [7]) (by kernel_rfl) (by simp) ?_
        refine TillAll.cons rfl (fun K hK => ?_) TillAll.nil
        refine step_append_b (by rfl) (.tmp 31) (.tmp 33) 31 (by rfl) (B := B) (v := v) (l := l) i0 Try.underlying31 hi0 hz0 hz1 hz2 (by rfl) (HOY.out.below HBI.out) wi.heap.size (some ⟨gi, 0, none⟩) (vb (zig a)).length ci (vb (zig a)) (by rfl) (Reads.of_own HOI.out) (vb_len _).1 (by have := HLL.out; have := (vb_len (zig a)).2; omega) (by have := HBI.out.size; have := HZY.out; omega) ?_
        intro v' w6 ho hg
        obtain ⟨N6, hN6⟩ : ∃ N, N = l.length + (vb (zig a)).length := ⟨_, rfl⟩
        rw [← hN6] at ho
        obtain ⟨Av, cv, rfl⟩ := own_slice ho
        have HN6 := Lib.hid hN6
        clear hN6
        have HO6 := Lib.hid ho
        have HG6 := Lib.hid hg
        have B6 : Hid (Blk w6 g 69 #[v, .bool okr]) := Lib.hid (BI.out.grown hg (fun e => HOY.out.ne HBY.out (by decide) e.symm))
        have HS : Hid (w6.cell? ⟨g, 0, none⟩ = some v) := Lib.hid (B6.out.cell 0)
        clear ho hg
        (refine hK.out _ _ (fun _ => HS.out) ?_; clear hK K)
        refine till_pure (i := 8) (v := ?_) rfl (by kernel_rfl) (by kernel_rfl) (by kernel_rfl) (by kernel_rfl) (fun _ _ _ h => h) (Or.inl ⟨by kernel_rfl, ?_⟩) ?_
        rotate_left
        · (intro w' _; go_simp; try with_reducible rfl)
        refine till_take (i := 9) (v := ?_) rfl (by kernel_rfl) (by kernel_rfl) (by kernel_rfl) (by kernel_rfl) (fun _ _ _ h => h) (Or.inl ⟨by kernel_rfl, ?_⟩) HS.out ?_
        rotate_left
        · (intro w' hSw; obtain hc0 := hSw; go_simp; try with_reducible rfl)
        refine till_ready (rs := [10]) (by kernel_rfl) (by simp) ?_
        refine TillAll.cons rfl (fun K hK => ?_) TillAll.nil
        have k0 := B6.out.cell 0
        have fz := B6.out.frozen 0
        go_simp
        (refine hK.out _ _ (fun h => absurd h (by decide)) ?_; clear hK K)
        clear k0 fz
        refine till_done (by kernel_rfl) ?_ _
        have HW : Hid (WSt B g w0 (w6.setCell ⟨g, 0, none⟩ (.slice Av N6 cv)) (l ++ numsB [a]) (numOk a)) := Lib.hid (by
          have hnb : numsB [a] = vb (zig a) := by simp [numsB]
          rw [hnb, ← HOK.out]
          have ho : w6.ownsRow B 5 1 (.slice Av N6 cv) (l ++ vb (zig a)).length (bv (l ++ vb (zig a))) := by
            have h := HO6.out
            rw [bv_app, List.length_append, ← HN6.out]
            exact h
          refine ⟨⟨_, by simpa using B6.out.set_ 0 (.slice Av N6 cv), own_far2 ho (own_blk_ne ho B6.out (by decide)) _, HBG.out⟩, ?_, ?_⟩
          · exact ((HAY.out.trans (HBI.out.mono HZY.out)).grown HG6.out (Nat.le_trans HZY.out HBI.out.size) (fun q hq => (HOY.out.lt hq).2)).setCell HBG.out _
          · rw [World.size_setCell]; exact Nat.le_trans HZY.out (Nat.le_trans HBI.out.size HG6.out.size))
        have HK : Hid (KeepT w (w6.setCell ⟨g, 0, none⟩ (.slice Av N6 cv))) := Lib.hid (((HKY.out.trans (KeepT.below HBI.out)).trans (fun b t cs h1 h2 _ => h1.grown HG6.out (fun e => (HOY.out.below HBI.out).ne h1 h2 e.symm))).trans (KeepT.set_ B6.out 0 _))
        try simp only [Exit.then]
        go_wp2_with fail
        go_roundw
        case rel => first | exact .inr ⟨rfl, HW, HK⟩ | exact .inr ⟨by go_num, HW, HK⟩
        case measure => simp [intOf]
    · go_wp2_with fail
      go_end0
      exact ⟨rfl, H2.out, H3.out⟩
end Go.Proofs.Ytabndfkkbmhhjaa
namespace Go.Proofs.Ytabndfkkbmhhjaa
set_option linter.unusedVariables false
set_option linter.unusedSimpArgs false
open Go.RowKit Go.Deep

theorem kinds_at {w : World} {v : Value} {l : List (List Int)} (h : SlR 1 IntsC w v l) {i : Nat} {x : List Int} (hx : l[i]? = some x) :
    ∃ b off c A n, v = .slice (some ⟨b, off, none⟩) l.length c ∧ w.cell? ⟨b, off + i, none⟩ = some (.slice A x.length n) ∧ x.length ≤ n ∧ n ≤ maxLen ∧ SlR 1 IntC w (.slice A x.length n) x := by
  obtain ⟨b, off, c, cs, hv, h1, h2, ⟨u, rfl, hs⟩, hc⟩ := cells_at h hx
  obtain ⟨A, n, rfl, h3, h4⟩ := hs.slice
  exact ⟨b, off, c, A, n, hv, by have := hc 0 _ rfl; simpa using this, h3, h4, hs⟩
theorem flat_list {α : Type} (f : α → List UInt8) (l : List α) : listBy f l = numsB [(l.length : Int)] ++ (l.map f).flatten := rfl
theorem enc_bytes (T : TTab) : magicB ++ numsB [T.strategy] ++ numsB [(T.keys.length : Int)] ++ numsB T.keys ++ (numsB [(T.kinds.length : Int)] ++ (T.kinds.map kindBy).flatten) ++ numsB [T.syms, T.runs, T.cells] ++ listBy rowBy T.states ++ (numsB [(T.codes.length : Int)] ++ (T.codes.map codeBy).flatten) = magicB ++ tabBy T := by
  unfold tabBy
  rw [kind_by, show kindBy T.keys = numsB [(T.keys.length : Int)] ++ numsB T.keys from rfl]
  simp only [List.append_assoc, flat_list]
theorem enc_ok (T : TTab) : (((((((numOk T.strategy && decide (T.keys.length ≤ 1024)) && T.keys.all numOk) && (decide (T.kinds.length ≤ 1024) && T.kinds.all (listOk numOk))) && [T.syms, T.runs, T.cells].all numOk) && listOk rowOk T.states) && (decide (T.codes.length ≤ 1024) && T.codes.all codeOk))) = tabOk T := by
  unfold tabOk
  simp only [listOk, List.all_cons, List.all_nil, Bool.and_true, Bool.and_assoc]
theorem enc_none {T : TTab} (h : tabOk T = false) : tabF (.wr magicB) T = none := by rw [wr_tab, if_neg (by rw [h]; decide)]
theorem enc_some {T : TTab} (h : tabOk T = true) : tabF (.wr magicB) T = some (.wr (magicB ++ tabBy T), T) := by rw [wr_tab, if_pos h]
set_option maxRecDepth 100000 in
set_option maxHeartbeats 16000000 in
theorem rencode_any (T : TTab) (vk vkk vs vc : Value) (w : World) (h : TabX w T vk vkk vs vc) (hlb : (magicB ++ tabBy T).length ≤ 900000000) :
    Calls Try.prog 12 #[.agg #[.int .i64 T.strategy, vk, vkk, .int .i64 T.syms, .int .i64 T.runs, .int .i64 T.cells, vs, vc]] w (EncP T w) := by
  obtain ⟨Ak, ck, rfl, hk1, hk2⟩ := h.keys.slice
  obtain ⟨Akk, ckk, rfl, hkk1, hkk2⟩ := h.kinds.slice
  obtain ⟨As, cs, rfl, hs1, hs2⟩ := h.states.slice
  obtain ⟨Ac, cc, rfl, hc1, hc2⟩ := h.codes.slice
  unfold maxLen at hk2 hkk2 hs2 hc2
  have hcs : ∀ (o : Obj) (C : Array Value) (n c : Nat), (convert 31 31 (.slice (some ⟨w.heap.size + 1, 0, none⟩) n c)).run Try.prog ((w.alloc o).alloc (.cells C 5)) = .ok (.slice (some ⟨w.heap.size + 1, 0, none⟩) n c) ((w.alloc o).alloc (.cells C 5 (C.size, C.size + 1))) := fun o C n c => by
    have h := Lib.run_convert_bytes_const (P := Try.prog) (w.alloc o) 31 5 C n c Try.underlying31 Try.underlying5
    rw [World.size_alloc] at h
    exact h
  obtain ⟨ws, wy, wr_, wc_⟩ := h.ok
  have HX := Lib.hid h
  obtain ⟨W2, hW2⟩ : ∃ W, W = ((w.alloc (.cells #[.int .i64 T.strategy, .slice Ak T.keys.length ck, .slice Akk T.kinds.length ckk, .int .i64 T.syms, .int .i64 T.runs, .int .i64 T.cells, .slice As T.states.length cs, .slice Ac T.codes.length cc] 27)).alloc (.cells #[.int .u8 65, .int .u8 85, .int .u8 83, .int .u8 80] 5 (4, 5))).alloc (.cells #[.slice (some ⟨w.heap.size + 1, 0, none⟩) 4 4, .bool true] 69) := ⟨_, rfl⟩
  have hb2 : Below w.heap.size w W2 := by
    rw [hW2]
    exact (((Below.refl _ _).alloc (Nat.le_refl _) _).alloc (by simp) _).alloc (by simp; omega) _
  have hsz : W2.heap.size = w.heap.size + 3 := by rw [hW2]; simp
  have hbt : Blk W2 w.heap.size 27 #[.int .i64 T.strategy, .slice Ak T.keys.length ck, .slice Akk T.kinds.length ckk, .int .i64 T.syms, .int .i64 T.runs, .int .i64 T.cells, .slice As T.states.length cs, .slice Ac T.codes.length cc] := by
    rw [hW2]; exact ((Blk.new _ _ _).alloc _).alloc _
  have hbo : Blk W2 (w.heap.size + 2) 69 #[.slice (some ⟨w.heap.size + 1, 0, none⟩) 4 4, .bool true] := by
    have hh := Blk.new ((w.alloc (.cells #[.int .i64 T.strategy, .slice Ak T.keys.length ck, .slice Akk T.kinds.length ckk, .int .i64 T.syms, .int .i64 T.runs, .int .i64 T.cells, .slice As T.states.length cs, .slice Ac T.codes.length cc] 27)).alloc (.cells #[.int .u8 65, .int .u8 85, .int .u8 83, .int .u8 80] 5 (4, 5))) 69 #[.slice (some ⟨w.heap.size + 1, 0, none⟩) 4 4, .bool true]
    rw [World.size_alloc, World.size_alloc] at hh
    rw [hW2]; exact hh
  have hown : OwnB w.heap.size W2 (.slice (some ⟨w.heap.size + 1, 0, none⟩) 4 4) magicB := by
    refine .inr ⟨w.heap.size + 1, (4, 5), rfl, by decide, by omega, ?_, by decide⟩
    rw [hW2]
    have h1 := heap_alloc_new (w.alloc (.cells #[.int .i64 T.strategy, .slice Ak T.keys.length ck, .slice Akk T.kinds.length ckk, .int .i64 T.syms, .int .i64 T.runs, .int .i64 T.cells, .slice As T.states.length cs, .slice Ac T.codes.length cc] 27)) (.cells #[.int .u8 65, .int .u8 85, .int .u8 83, .int .u8 80] 5 (4, 5))
    rw [World.size_alloc] at h1
    exact (Below.heap_alloc _ _ _ (by simp)).trans h1
  obtain ⟨g, hg⟩ : ∃ g, g = w.heap.size + 2 := ⟨_, rfl⟩
  rw [← hg] at hbo
  have N1 := Lib.hid (nums_first T.strategy ws w.heap.size g _ magicB w W2 hbo hown (by omega) hb2 (by omega) (by decide))
  obtain ⟨x0, x1, x2, x3, x4, x5, x6, x7⟩ := blk8s hbt
  have BT := Lib.hid hbt
  have HLB := Lib.hid hlb
  have HW2 := Lib.hid hW2
  have HG := Lib.hid hg
  have nk : (0 : Int) ≤ (T.kinds.length : Int) := by omega
  have nc : (0 : Int) ≤ (T.codes.length : Int) := by omega
  clear h hlb hb2 hsz hbt hbo hown hW2 hg
  go_enter Try.func12, Try.ntmps12
  go_upto_region 2 with fail
  rw [← HW2.out]
  try rw [← HG.out]
  clear HW2 hcs
  go_wp2_with fail
  refine N1.out.mono ?_
  rintro e w3 ⟨rfl, h3, k3⟩
  have B3 := Lib.hid (k3 _ _ _ BT.out (by decide) (by decide))
  have HEB := Lib.hid (enc_bytes T)
  have HEO := Lib.hid (enc_ok T)
  obtain ⟨p1, hp1⟩ : ∃ p, p = magicB ++ numsB [T.strategy] := ⟨_, rfl⟩
  obtain ⟨o1, ho1⟩ : ∃ o, o = numOk T.strategy := ⟨_, rfl⟩
  rw [← hp1] at h3 HEB
  rw [← ho1] at h3 HEO
  have HLP : Hid (p1.length + (numsB [(T.keys.length : Int)]).length + (numsB T.keys).length + ((numsB [(T.kinds.length : Int)]).length + ((T.kinds.map kindBy).flatten).length) + (numsB [T.syms, T.runs, T.cells]).length + (listBy rowBy T.states).length + ((numsB [(T.codes.length : Int)]).length + ((T.codes.map codeBy).flatten).length) ≤ 900000000) := Lib.hid (by
    have h1 := HLB.out
    rw [← HEB.out] at h1
    simp only [List.length_append] at h1 ⊢
    omega)
  clear hp1 ho1 N1 BT x0 x1 x2 x3 x4 x5 x6 x7 k3
  obtain ⟨x0, x1, x2, x3, x4, x5, x6, x7⟩ := blk8s B3.out
  have CX := Lib.hid (count_any T.keys.length w.heap.size g p1 o1 w w3 h3 (by omega) (by have := HLP.out; omega))
  clear h3
  go_wp2_with fail
  refine CX.out.mono ?_
  rintro e w4 ⟨rfl, h4, k4⟩
  have B4 := Lib.hid (k4 _ _ _ B3.out (by decide) (by decide))
  clear x0 x1 x2 x3 x4 x5 x6 x7 k4 CX B3
  obtain ⟨x0, x1, x2, x3, x4, x5, x6, x7⟩ := blk8s B4.out
  have CX := Lib.hid (nums_row T.keys _ w.heap.size g _ _ w w4 h4 (Nat.le_refl _) HX.out.keys (by have := HLP.out; simp only [List.length_append]; omega))
  clear h4
  go_wp2_with fail
  refine CX.out.mono ?_
  rintro e w5 ⟨rfl, h5, k5⟩
  have B5 := Lib.hid (k5 _ _ _ B4.out (by decide) (by decide))
  clear x0 x1 x2 x3 x4 x5 x6 x7 k5 CX B4
  obtain ⟨x0, x1, x2, x3, x4, x5, x6, x7⟩ := blk8s B5.out
  have CX := Lib.hid (count_any T.kinds.length w.heap.size g _ _ w w5 h5 (by omega) (by have := HLP.out; simp only [List.length_append]; omega))
  clear h5
  go_wp2_with fail
  refine CX.out.mono ?_
  rintro e w6 ⟨rfl, h6, k6⟩
  have B6 := Lib.hid (k6 _ _ _ B5.out (by decide) (by decide))
  clear x0 x1 x2 x3 x4 x5 x6 x7 k6 CX B5
  obtain ⟨x0, x1, x2, x3, x4, x5, x6, x7⟩ := blk8s B6.out
  obtain ⟨p2, hp2⟩ : ∃ p, p = p1 ++ numsB [(T.keys.length : Int)] ++ numsB T.keys := ⟨_, rfl⟩
  obtain ⟨o2, ho2⟩ : ∃ o, o = ((o1 && decide (T.keys.length ≤ 1024)) && T.keys.all numOk) := ⟨_, rfl⟩
  rw [← hp2] at h6 HEB
  rw [← ho2] at h6 HEO
  have HL2 : Hid (p2.length + ((numsB [(T.kinds.length : Int)]).length + ((T.kinds.map kindBy).flatten).length) + (numsB [T.syms, T.runs, T.cells]).length + (listBy rowBy T.states).length + ((numsB [(T.codes.length : Int)]).length + ((T.codes.map codeBy).flatten).length) ≤ 900000000) := Lib.hid (by
    have h1 := HLP.out
    rw [hp2]
    simp only [List.length_append] at h1 ⊢
    omega)
  have H6 := Lib.hid h6
  clear hp2 ho2 h6 HLP
  go_wp2_with fail
  clear x0 x1 x2 x3 x4 x5 x6 x7
  go_loopw [35] (fun i wr => ∃ r : Nat, r ≤ T.kinds.length ∧ i = .int .i64 r ∧ Hid (WSt w.heap.size g w wr (p2 ++ numsB [(T.kinds.length : Int)] ++ ((T.kinds.take r).map kindBy).flatten) (o2 && decide (T.kinds.length ≤ 1024) && (T.kinds.take r).all (listOk numOk))) ∧ Hid (KeepT w6 wr)) (fun i _ => T.kinds.length - (intOf i).toNat)
  case atStart => exact ⟨0, Nat.zero_le _, rfl, Lib.hid (by simpa using H6.out), Lib.hid (KeepT.refl _)⟩
  case round =>
    obtain ⟨r, hr, rfl, hX, hKt⟩ := hrel
    by_cases hlt : r < T.kinds.length
    · obtain ⟨x, hx⟩ : ∃ x, T.kinds[r]? = some x := ⟨_, List.getElem?_eq_getElem hlt⟩
      obtain ⟨b5, o5, c5, Ax, cx, hv5, m0, hx1, hx2, hsx⟩ := kinds_at HX.out.kinds hx
      injection hv5 with hv5 _ hcap5
      subst hv5 hcap5
      have kc := KeepC.of_below (hX.out.bel.mono (Nat.le_refl _))
      replace m0 := kc _ _ m0
      unfold maxLen at hx2
      have HSX := Lib.hid hsx
      have HPK : Hid ((p2 ++ numsB [(T.kinds.length : Int)] ++ ((T.kinds.take r).map kindBy).flatten).length + (numsB [(x.length : Int)]).length + (numsB x).length ≤ 900000000) := Lib.hid (by
        have h1 := flat_le kindBy T.kinds (r + 1)
        rw [flat_take kindBy hx] at h1
        have h2 := HL2.out
        simp only [kindBy, List.length_append] at h1 h2 ⊢
        omega)
      have CX := Lib.hid (count_any x.length w.heap.size g _ _ w wr hX.out (by omega) (by have := HPK.out; omega))
      have HXR := Lib.hid hx
      clear kc hsx hX hx
      go_wp2_with fail
      refine CX.out.mono ?_
      rintro e w7 ⟨rfl, h7, k7⟩
      have K7 := Lib.hid (hKt.out.trans k7)
      have N7 := Lib.hid (nums_row x _ w.heap.size g _ _ w w7 h7 (Nat.le_refl _) HSX.out (by
        have h2 := HPK.out
        simp only [List.length_append] at h2 ⊢
        omega))
      clear h7 k7 m0
      go_wp2_with fail
      refine N7.out.mono ?_
      rintro e w8 ⟨rfl, h8, k8⟩
      have K8 := Lib.hid (K7.out.trans k8)
      have H8 : Hid (WSt w.heap.size g w w8 (p2 ++ numsB [(T.kinds.length : Int)] ++ ((T.kinds.take (r + 1)).map kindBy).flatten) (o2 && decide (T.kinds.length ≤ 1024) && (T.kinds.take (r + 1)).all (listOk numOk))) := Lib.hid (by
        rw [flat_take kindBy HXR.out, allp_take (listOk numOk) HXR.out, kindBy, ← List.append_assoc, ← List.append_assoc, listOk, ← Bool.and_assoc, ← Bool.and_assoc]
        exact h8)
      clear h8 k8
      go_wp2_with fail
      go_roundw
      case rel => first | exact ⟨r + 1, by omega, by go_num, H8, K8⟩ | ((repeat apply Exists.intro); exact ⟨⟨r + 1, by omega, by go_num, H8, K8⟩, rfl⟩)
      case measure => simp [intOf]; omega
    · have hge : (T.kinds.length : Int) ≤ (r : Int) := by omega
      have hXe := hX.out
      rw [show r = T.kinds.length by omega, List.take_length] at hXe
      have B7 := Lib.hid (hKt.out _ _ _ B6.out (by decide) (by decide))
      obtain ⟨x0, x1, x2, x3, x4, x5, x6, x7⟩ := blk8s B7.out
      have CX := Lib.hid (nums_lit [T.syms, T.runs, T.cells] (by intro y hy; simp at hy; rcases hy with rfl | rfl | rfl <;> assumption) w.heap.size g _ _ w wr hXe (by have := HL2.out; simp only [List.length_append] at this ⊢; omega))
      clear hXe hX
      go_wp2_with fail
      refine CX.out.mono ?_
      rintro e w10 ⟨rfl, h10, k10⟩
      have B10 := Lib.hid (k10 _ _ _ B7.out (by decide) (by decide))
      clear x0 x1 x2 x3 x4 x5 x6 x7 k10 CX B7 hKt
      obtain ⟨x0, x1, x2, x3, x4, x5, x6, x7⟩ := blk8s B10.out
      have CX := Lib.hid (wrows_any T.states _ w.heap.size g _ _ w w10 h10 (Nat.le_refl _) HX.out.states (by have := HL2.out; simp only [List.length_append] at this ⊢; omega))
      clear h10
      go_wp2_with fail
      refine CX.out.mono ?_
      rintro e w11 ⟨rfl, h11, k11⟩
      have B11 := Lib.hid (k11 _ _ _ B10.out (by decide) (by decide))
      clear x0 x1 x2 x3 x4 x5 x6 x7 k11 CX B10
      obtain ⟨x0, x1, x2, x3, x4, x5, x6, x7⟩ := blk8s B11.out
      have CX := Lib.hid (count_any T.codes.length w.heap.size g _ _ w w11 h11 (by omega) (by have := HL2.out; simp only [List.length_append] at this ⊢; omega))
      clear h11
      go_wp2_with fail
      refine CX.out.mono ?_
      rintro e w12 ⟨rfl, h12, k12⟩
      have B12 := Lib.hid (k12 _ _ _ B11.out (by decide) (by decide))
      clear x0 x1 x2 x3 x4 x5 x6 x7 k12 CX B11
      obtain ⟨x0, x1, x2, x3, x4, x5, x6, x7⟩ := blk8s B12.out
      obtain ⟨p3, hp3⟩ : ∃ p, p = p2 ++ (numsB [(T.kinds.length : Int)] ++ (T.kinds.map kindBy).flatten) ++ numsB [T.syms, T.runs, T.cells] ++ listBy rowBy T.states := ⟨_, rfl⟩
      obtain ⟨o3, ho3⟩ : ∃ o, o = (((o2 && (decide (T.kinds.length ≤ 1024) && T.kinds.all (listOk numOk))) && [T.syms, T.runs, T.cells].all numOk) && listOk rowOk T.states) := ⟨_, rfl⟩
      have h12' : WSt w.heap.size g w w12 (p3 ++ numsB [(T.codes.length : Int)]) (o3 && decide (T.codes.length ≤ 1024)) := by
        rw [hp3, ho3, ← List.append_assoc p2, ← Bool.and_assoc o2]
        exact h12
      rw [← hp3] at HEB
      rw [← ho3] at HEO
      have HL3 : Hid (p3.length + ((numsB [(T.codes.length : Int)]).length + ((T.codes.map codeBy).flatten).length) ≤ 900000000) := Lib.hid (by
        have h1 := HL2.out
        rw [hp3]
        simp only [List.length_append] at h1 ⊢
        omega)
      have H12 := Lib.hid h12'
      clear hp3 ho3 h12 h12' HL2
      go_wp2_with fail
      clear x0 x1 x2 x3 x4 x5 x6 x7
      go_loopw [68] (fun i wy => ∃ r : Nat, r ≤ T.codes.length ∧ i = .int .i64 r ∧ Hid (WSt w.heap.size g w wy (p3 ++ numsB [(T.codes.length : Int)] ++ ((T.codes.take r).map codeBy).flatten) (o3 && decide (T.codes.length ≤ 1024) && (T.codes.take r).all codeOk)) ∧ Hid (KeepT w12 wy)) (fun i _ => T.codes.length - (intOf i).toNat)
      case atStart => exact ⟨0, Nat.zero_le _, rfl, Lib.hid (by simpa using H12.out), Lib.hid (KeepT.refl _)⟩
      case round =>
        obtain ⟨q, hq, rfl, hX, hKt⟩ := hrel
        by_cases hlt2 : q < T.codes.length
        · obtain ⟨x, hx⟩ : ∃ x, T.codes[q]? = some x := ⟨_, List.getElem?_eq_getElem hlt2⟩
          obtain ⟨b5, o5, c5, cs5, hv5, _, _, ⟨vi, vq, vl, rfl, hi, hcq, hl, hw1, hw2⟩, hcc⟩ := cells_at HX.out.codes hx
          injection hv5 with hv5 _ hcap5
          subst hv5 hcap5
          obtain ⟨A1, n1, rfl, _, _⟩ := hi.slice
          obtain ⟨A2, n2, rfl, _, _⟩ := hcq.slice
          obtain ⟨A3, n3, rfl, _, _⟩ := hl.slice
          have kc := KeepC.of_below (hX.out.bel.mono (Nat.le_refl _))
          have m0 := kc _ _ (hcc 0 _ rfl)
          have m1 := kc _ _ (hcc 1 _ rfl)
          have m2 := kc _ _ (hcc 2 _ rfl)
          have m3 := kc _ _ (hcc 3 _ rfl)
          have m4 := kc _ _ (hcc 4 _ rfl)
          clear kc hcc
          simp only [Nat.add_zero] at m0
          obtain ⟨W, hW⟩ : ∃ W, W = wr.alloc (.cells #[.int .i64 x.regs, .int .i64 x.slots, .slice A1 x.inputs.length n1, .slice A2 x.consts.length n2, .slice A3 x.list.length n3] 57) := ⟨_, rfl⟩
          have hbx : Blk W wr.heap.size 57 #[.int .i64 x.regs, .int .i64 x.slots, .slice A1 x.inputs.length n1, .slice A2 x.consts.length n2, .slice A3 x.list.length n3] := by rw [hW]; exact Blk.new _ _ _
          obtain ⟨x0, x1, x2, x3, x4⟩ := blk5 hbx
          have HKW : Hid (KeepT w12 W) := Lib.hid (by rw [hW]; exact hKt.out.trans (KeepT.alloc _ _))
          have CX := Lib.hid (wcode_any x _ _ _ w.heap.size g _ _ w W (by rw [hW]; exact hX.out.alloc _) (Nat.le_refl _) hi hcq hl hw1 hw2 (by
            have h1 := flat_le codeBy T.codes (q + 1)
            rw [flat_take codeBy hx] at h1
            have h2 := HL3.out
            simp only [List.length_append] at h1 h2 ⊢
            omega))
          have HXR := Lib.hid hx
          clear hbx hX hKt hi hcq hl hx
          go_upto_region 18 with fail
          rw [← hW]
          clear hW m0 m1 m2 m3 m4
          go_wp2_with fail
          refine CX.out.mono ?_
          rintro e w15 ⟨rfl, h15, k15⟩
          have K15 := Lib.hid (HKW.out.trans k15)
          have H15 : Hid (WSt w.heap.size g w w15 (p3 ++ numsB [(T.codes.length : Int)] ++ ((T.codes.take (q + 1)).map codeBy).flatten) (o3 && decide (T.codes.length ≤ 1024) && (T.codes.take (q + 1)).all codeOk)) := Lib.hid (by
            rw [flat_take codeBy HXR.out, allp_take codeOk HXR.out, ← List.append_assoc, ← Bool.and_assoc]
            exact h15)
          clear h15 k15 x0 x1 x2 x3 x4
          go_wp2_with fail
          go_roundw
          case rel => first | exact ⟨q + 1, by omega, by go_num, H15, K15⟩ | ((repeat apply Exists.intro); exact ⟨⟨q + 1, by omega, by go_num, H15, K15⟩, rfl⟩)
          case measure => simp [intOf]; omega
        · have hge2 : (T.codes.length : Int) ≤ (q : Int) := by omega
          have hXe := hX.out
          rw [show q = T.codes.length by omega, List.take_length] at hXe
          have hfin : WSt w.heap.size g w wr (magicB ++ tabBy T) (tabOk T) := by
            rw [← HEB.out, ← HEO.out, ← List.append_assoc, ← Bool.and_assoc]
            exact hXe
          have HBE := Lib.hid hfin.bel
          have HSZ := Lib.hid hfin.sz
          obtain ⟨v, hbv, hov, _⟩ := hfin.out
          obtain ⟨L, hL⟩ : ∃ L, L = magicB ++ tabBy T := ⟨_, rfl⟩
          rw [← hL] at hov
          obtain ⟨Av, cv, rfl⟩ := own_slice hov
          obtain ⟨N, hN⟩ : ∃ N, N = L.length := ⟨_, rfl⟩
          rw [← hN] at hov hbv
          have hN9 : N ≤ 900000000 := by rw [hN, hL]; exact HLB.out
          have hcap := own_caps hov
          have k0 := hbv.cell 0
          have k1 := hbv.cell 1
          have HOV := Lib.hid hov
          have HLN := Lib.hid hN.symm
          have HLL := Lib.hid hL
          clear hXe hX hKt hfin hbv hov hN hL
          by_cases hok : tabOk T = true
          · have HSM := Lib.hid (enc_some hok)
            have kk : wr.cell? ⟨g, 1, none⟩ = some (.bool true) := by rw [k1, hok]; rfl
            clear k1 hok
            have hn0 : (0 : Int) ≤ (N : Int) := by omega
            by_cases hbig : 65536 < N + 4
            · have hb2 : (65536 : Int) < (N : Int) + 4 := by omega
              go_wp2_with fail
              go_ret2
              exact ⟨HBE.out, .inl ⟨L, T, by rw [HLL.out]; exact HSM.out, .inr ⟨by rw [HLN.out]; exact hbig, rfl⟩⟩⟩
            · have HNB : Hid (N ≤ 65532) := Lib.hid (by omega)
              obtain ⟨M, hM⟩ : ∃ M : Int, (N : Int) + 4 = M := ⟨_, rfl⟩
              have hb2 : M ≤ 65536 := by omega
              have CS := Lib.hid (summed_any Av N cv L wr HLN.out hcap.1 (by have := hcap.2; unfold maxLen at this; omega) (by omega) (Reads.of_own HOV.out))
              clear hbig
              go_wp2_with fail
              refine CS.out.mono ?_
              rintro e w20 ⟨v2, rfl, ho2, hb20⟩
              have h4 : (L ++ sumBy L).length = L.length + 4 := by rw [List.length_append]; rfl
              rw [h4] at ho2
              obtain ⟨A2, c2, rfl⟩ := own_slice ho2
              have HB20 := Lib.hid (HBE.out.trans (hb20.mono HSZ.out))
              have HO20 := Lib.hid (own_base ho2 HSZ.out)
              have HLE : Hid (L.length + 4 ≤ 65536) := Lib.hid (by rw [HLN.out]; have := HNB.out; omega)
              clear ho2 hb20 h4 CS
              go_wp2_with fail
              go_ret2
              exact ⟨HB20.out, .inl ⟨L, T, by rw [HLL.out]; exact HSM.out, .inl ⟨HLE.out, A2, c2, rfl, HO20.out⟩⟩⟩
          · have hok2 : tabOk T = false := by simpa using hok
            have HSM := Lib.hid (enc_none hok2)
            have kk : wr.cell? ⟨g, 1, none⟩ = some (.bool false) := by rw [k1, hok2]; rfl
            clear k1 hok hok2
            go_wp2_with fail
            go_ret2
            exact ⟨HBE.out, .inr ⟨HSM.out, rfl⟩⟩
end Go.Proofs.Ytabndfkkbmhhjaa
namespace Go.Proofs.Ytabndfkkbmhhjaa
set_option linter.unusedVariables false
set_option linter.unusedSimpArgs false
open Go.RowKit Go.Deep

theorem intss_at {w : World} {v : Value} {l : List (List Int)} (h : SlR 1 IntsC w v l) {i : Nat} {x : List Int} (hx : l[i]? = some x) :
    ∃ b off c u, v = .slice (some ⟨b, off, none⟩) l.length c ∧ l.length ≤ c ∧ c ≤ maxLen ∧ w.cell? ⟨b, off + i, none⟩ = some u ∧ SlR 1 IntC w u x := by
  obtain ⟨b, off, c, hv, h1, h2, hi, cs, hl, ⟨u, rfl, hs⟩, hc⟩ := h.get hx
  exact ⟨b, off, c, u, hv, h1, h2, by have := hc 0 _ rfl; simpa using this, hs⟩
set_option maxRecDepth 100000 in
set_option maxHeartbeats 4000000 in
theorem many_any (T : TTab) (vk vkk vs vc : Value) (w : World) (h : TabX w T vk vkk vs vc) :
    Calls Try.prog 8 #[.agg #[.int .i64 T.strategy, vk, vkk, .int .i64 T.syms, .int .i64 T.runs, .int .i64 T.cells, vs, vc]] w fun e w' => ∃ b, e = .returned (.bool b) ∧ Below w.heap.size w w' := by
  obtain ⟨A, c, rfl, hc1, hc2⟩ := h.states.slice
  obtain ⟨A2, c2, rfl, hc3, hc4⟩ := h.codes.slice
  obtain ⟨A3, c3, rfl, hc5, hc6⟩ := h.kinds.slice
  obtain ⟨A1, c1, rfl, hc7, hc8⟩ := h.keys.slice
  have HX := Lib.hid (fun W (hb : Below w.heap.size w W) => h.below hb)
  have B0 := Lib.hid (fun o => (Below.refl w.heap.size w).alloc (Nat.le_refl _) o)
  have BX := Lib.hid (Blk.new w 27 #[.int .i64 T.strategy, .slice A1 T.keys.length c1, .slice A3 T.kinds.length c3, .int .i64 T.syms, .int .i64 T.runs, .int .i64 T.cells, .slice A T.states.length c, .slice A2 T.codes.length c2])
  unfold maxLen at hc2 hc4 hc6 hc8
  have hnk : (0 : Int) ≤ (T.kinds.length : Int) := by omega
  have hnn : (0 : Int) ≤ (T.states.length : Int) := by omega
  clear h
  go_enter Try.func8, Try.ntmps8
  go_wp2_with fail
  obtain ⟨W0, hW0⟩ : ∃ W, W = w.alloc (.cells #[.int .i64 T.strategy, .slice A1 T.keys.length c1, .slice A3 T.kinds.length c3, .int .i64 T.syms, .int .i64 T.runs, .int .i64 T.cells, .slice A T.states.length c, .slice A2 T.codes.length c2] 27) := ⟨_, rfl⟩
  rw [← hW0]
  have B0 : Hid (Below w.heap.size w W0) := Lib.hid (by rw [hW0]; exact B0.out _)
  have BX : Hid (Blk W0 w.heap.size _ _) := Lib.hid (by rw [hW0]; exact BX.out)
  have hs0 : W0.heap.size = w.heap.size + 1 := by rw [hW0]; simp
  clear hW0
  go_loopw [3, 30] (fun s i wr => ∃ (r : Nat) (x : Int), r ≤ T.kinds.length ∧ i = .int .i64 r ∧ s = .int .i64 x ∧ W0 = wr) (fun _ i _ => T.kinds.length - (intOf i).toNat)
  case atStart => exact ⟨0, _, Nat.zero_le _, rfl, rfl, rfl⟩
  case round =>
    obtain ⟨r, x, hr, rfl, rfl, rfl⟩ := hrel
    by_cases hlt : r < T.kinds.length
    · obtain ⟨y, hy⟩ : ∃ y, T.kinds[r]? = some y := ⟨_, List.getElem?_eq_getElem hlt⟩
      obtain ⟨b5, off5, c5, u5, hvv, _, _, q0, hls⟩ := intss_at (HX.out W0 B0.out).kinds hy
      injection hvv with hv1 hv2 hv3
      subst hv1
      obtain ⟨A6, c6, rfl, hc9, hc10⟩ := hls.slice
      unfold maxLen at hc10
      have b1 : (0 : Int) ≤ (r : Int) := by omega
      have b2 : (r : Int) < (T.kinds.length : Int) := by omega
      clear hy hv2 hv3 hls
      go_wp2_with fail
      all_goals
        go_roundw
        case rel => first | exact ⟨r + 1, _, by omega, by go_num, rfl, trivial⟩ | ((repeat apply Exists.intro); exact ⟨⟨r + 1, _, by omega, by go_num, rfl, trivial⟩, rfl⟩)
        case measure => simp [intOf]; omega
    · have hge : (T.kinds.length : Int) ≤ (r : Int) := by omega
      obtain ⟨k0, k1, k2, k3, k4, k5, k6, k7⟩ := blk8s BX.out
      go_wp2_with fail
      clear k0 k1 k2 k3 k4 k5 k6 k7
      go_loopw [3, 43] (fun s i wx => ∃ (r : Nat) (x : Int), r ≤ T.states.length ∧ i = .int .i64 r ∧ s = .int .i64 x ∧ Below (w.heap.size + 1) W0 wx) (fun _ i _ => T.states.length - (intOf i).toNat)
      case atStart => exact ⟨0, _, Nat.zero_le _, rfl, rfl, Below.refl _ _⟩
      case round =>
        obtain ⟨r1, x1, hr1, rfl, rfl, hb⟩ := hrel
        have hb0 := Lib.hid (B0.out.trans (hb.mono (by omega)))
        have X := Lib.hid (HX.out wr hb0.out)
        by_cases hlt1 : r1 < T.states.length
        · obtain ⟨y, hy⟩ : ∃ y, T.states[r1]? = some y := ⟨_, List.getElem?_eq_getElem hlt1⟩
          obtain ⟨b, off, c5, vb, ve, hv, _, _, q0, q1, q2, q3, q4, q5, q6, q7, hbars, hends, _⟩ := rows_get X.out.states hy
          injection hv with hv1 hv2 hv3
          subst hv1
          obtain ⟨A6, c6, rfl, hc7, hc8⟩ := hbars.slice
          obtain ⟨A7, c7, rfl, hc9, hc10⟩ := hends.slice
          unfold maxLen at hc8 hc10
          have b1 : (0 : Int) ≤ (r1 : Int) := by omega
          have b2 : (r1 : Int) < (T.states.length : Int) := by omega
          have hwr : w.heap.size + 1 ≤ wr.heap.size := by have := hb.size; omega
          have HE := Lib.hid hends
          clear hy hv2 hv3 hbars hends
          go_upto_region 10 with fail
          go_cut [3] from 47 to 57 (fun s wy => (∃ x : Int, s = .int .i64 x) ∧ wy = wr.alloc (.cells #[.int .i64 y.par, .int .i64 y.ty, .bool y.many, .int .i64 y.win, .slice A6 y.bars.length c6, .int .i64 y.leave, .int .i64 y.guard, .slice A7 y.ends.length c7] 50))
          case first =>
            go_wp2_with fail
            all_goals (go_meet; exact ⟨⟨_, rfl⟩, rfl⟩)
          case rest =>
            obtain ⟨⟨x2, rfl⟩, rfl⟩ := hcut
            have B1 := Lib.hid (fun o => (Below.refl wr.heap.size wr).alloc (Nat.le_refl _) o)
            have HB := Lib.hid hb
            have n7 : (0 : Int) ≤ (y.ends.length : Int) := by omega
            clear hb q0 q1 q2 q3 q4 q5 q6 q7
            go_wp2_with fail
            go_loopw [3, 61] (fun s i wy => ∃ (r2 : Nat) (x : Int), r2 ≤ y.ends.length ∧ i = .int .i64 r2 ∧ s = .int .i64 x ∧ Below wr.heap.size wr wy) (fun _ i _ => y.ends.length - (intOf i).toNat)
            case atStart => exact ⟨0, _, Nat.zero_le _, rfl, rfl, B1.out _⟩
            case round =>
              obtain ⟨r2, x3, hr2, rfl, rfl, hbx⟩ := hrel
              by_cases hlt2 : r2 < y.ends.length
              · obtain ⟨z, hz⟩ : ∃ z, y.ends[r2]? = some z := ⟨_, List.getElem?_eq_getElem hlt2⟩
                obtain ⟨b7, off7, c8, vb8, hv, _, _, t0, t1, t2, hb8, _⟩ := tails_get (keep_tails (KeepC.of_below hbx) HE.out) hz
                injection hv with hv1 hv2 hv3
                subst hv1
                obtain ⟨A8, c9, rfl, hc11, hc12⟩ := hb8.slice
                unfold maxLen at hc12
                have d1 : (0 : Int) ≤ (r2 : Int) := by omega
                have d2 : (r2 : Int) < (y.ends.length : Int) := by omega
                have HBX := Lib.hid (fun o => hbx.alloc hbx.size o)
                clear hz hv2 hv3 hb8 hbx
                by_cases h99 : (z.bars.length : Int) < 99999
                · go_wp2_with fail
                  go_roundw
                  case rel => first | exact ⟨r2 + 1, _, by omega, by go_num, rfl, HBX.out _⟩ | ((repeat apply Exists.intro); exact ⟨⟨r2 + 1, _, by omega, by go_num, rfl, HBX.out _⟩, rfl⟩)
                  case measure => simp [intOf]; omega
                · have h98 : (99999 : Int) ≤ (z.bars.length : Int) := by omega
                  go_wp2_with fail
                  go_roundw
                  case rel => first | exact ⟨r2 + 1, _, by omega, by go_num, rfl, HBX.out _⟩ | ((repeat apply Exists.intro); exact ⟨⟨r2 + 1, _, by omega, by go_num, rfl, HBX.out _⟩, rfl⟩)
                  case measure => simp [intOf]; omega
              · have hge : (y.ends.length : Int) ≤ (r2 : Int) := by omega
                have HO := Lib.hid (HB.out.trans (hbx.mono (by omega)))
                clear hbx
                go_wp2_with fail
                go_roundw
                case rel => first | exact ⟨r1 + 1, _, by omega, by go_num, rfl, HO.out⟩ | ((repeat apply Exists.intro); exact ⟨⟨r1 + 1, _, by omega, by go_num, rfl, HO.out⟩, rfl⟩)
                case measure => simp [intOf]; omega
        · have hge : (T.states.length : Int) ≤ (r1 : Int) := by omega
          have k7 := (BX.out.below hb (by omega)).cell 7
          have n9 : (0 : Int) ≤ (T.codes.length : Int) := by omega
          have HCO := Lib.hid X.out.codes
          have HB0 := Lib.hid hb0.out
          clear hb X
          go_wp2_with fail
          go_loopw [3, 76] (fun s i wy => ∃ (r2 : Nat) (x : Int), r2 ≤ T.codes.length ∧ i = .int .i64 r2 ∧ s = .int .i64 x ∧ Below wr.heap.size wr wy) (fun _ i _ => T.codes.length - (intOf i).toNat)
          case atStart => exact ⟨0, _, Nat.zero_le _, rfl, rfl, Below.refl _ _⟩
          case round =>
            obtain ⟨r2, x3, hr2, rfl, rfl, hbx⟩ := hrel
            by_cases hlt2 : r2 < T.codes.length
            · obtain ⟨z, hz⟩ : ∃ z, T.codes[r2]? = some z := ⟨_, List.getElem?_eq_getElem hlt2⟩
              obtain ⟨b7, off7, c8, vi, vc8, vl, hv, _, _, t0, t1, t2, t3, t4, hi8, hcc8, hl8, _⟩ := codes_get (keep_codes (KeepC.of_below hbx) HCO.out) hz
              injection hv with hv1 hv2 hv3
              subst hv1
              obtain ⟨A8, c9, rfl, hc11, hc12⟩ := hi8.slice
              obtain ⟨A9, c10, rfl, hc13, hc14⟩ := hl8.slice
              obtain ⟨A5, c11, rfl, hc15, hc16⟩ := hcc8.slice
              unfold maxLen at hc12 hc14 hc16
              have d1 : (0 : Int) ≤ (r2 : Int) := by omega
              have d2 : (r2 : Int) < (T.codes.length : Int) := by omega
              have HBX := Lib.hid (fun o => hbx.alloc hbx.size o)
              clear hz hv2 hv3 hi8 hcc8 hl8
              go_upto_region 20 with fail
              clear t0 t1 t2 t3 t4
              go_wp2_with fail
              all_goals
                go_roundw
                case rel => first | exact ⟨r2 + 1, _, by omega, by go_num, rfl, HBX.out _⟩ | ((repeat apply Exists.intro); exact ⟨⟨r2 + 1, _, by omega, by go_num, rfl, HBX.out _⟩, rfl⟩)
                case measure => simp [intOf]; omega
            · have hge2 : (T.codes.length : Int) ≤ (r2 : Int) := by omega
              have HO := Lib.hid (HB0.out.trans (hbx.mono HB0.out.size))
              clear hbx
              go_wp2_with fail
              go_ret
              exact ⟨_, rfl, HO.out⟩
end Go.Proofs.Ytabndfkkbmhhjaa
namespace Go.Proofs.Ytabndfkkbmhhjaa
set_option linter.unusedVariables false
set_option linter.unusedSimpArgs false
open Go.RowKit Go.Deep

theorem byte_of {a : Int} (h : (Lit.int .u8 a).wf = true) : ∃ u : UInt8, a = (u.toNat : Int) := by
  have h2 : 0 ≤ a ∧ a ≤ 255 := by
    simp [Lit.wf] at h
    exact h
  exact ⟨a.toNat.toUInt8, by rw [toU8 _ (by omega)]; omega⟩
theorem slr_mem {α : Type} {F : Nat} {R : World → List Value → α → Prop} {w : World} {v : Value} {xs : List α} (h : SlR F R w v xs) {x : α} (hx : x ∈ xs) : ∃ cs, R w cs x := by
  obtain ⟨A, c, _, _, _, h3⟩ := h
  obtain ⟨b, off, _, hc⟩ := h3 (List.length_pos_of_mem hx)
  obtain ⟨i, hi⟩ := List.getElem?_of_mem hx
  obtain ⟨cs, _, hr, _⟩ := hc i x hi
  exact ⟨cs, hr⟩
/-- a table that lies in memory has numbers that are numbers -/
theorem TabX.data {w : World} {T : TTab} {vk vkk vs vc : Value} (h : TabX w T vk vkk vs vc) : TabD T := fun c hc v hv => by
  obtain ⟨cs, vi, vq, vl, _, _, h1, _⟩ := slr_mem h.codes hc
  obtain ⟨cs', _, _, h2⟩ := slr_mem h1 hv
  have h3 : (Lit.int .u64 v.bits).wf = true := h2
  unfold U64 ValD at *
  exact ⟨(bd_u64 h3).1, by have := (bd_u64 h3).2; omega⟩
theorem decErr_ne (l : List UInt8) : (decErr l == 0) = false ∧ (decErr l != 0) = true := by
  unfold decErr
  repeat' split
  all_goals exact ⟨rfl, rfl⟩
/-- bytes that were written, as an image -/
theorem img_made {y z : TTab} {b : List UInt8} (hD : TabD y) (h : tabF (.wr magicB) y = some (.wr b, z)) (hl : b.length + 4 ≤ 65536) : IsImg y (b ++ sumBy b) := by
  obtain ⟨m, h1, h2, _⟩ := img_of hD h
  injection h2 with h2
  subst h2
  exact ⟨m, h1, rfl, by rw [List.length_append]; exact hl⟩
theorem sumBy_len (l : List UInt8) : (sumBy l).length = 4 := rfl
theorem sumBy_inj {l m : List UInt8} (h : sumBy l = sumBy m) : crc (nums l) = crc (nums m) := by
  have h1 := crc_lt l
  have h2 := crc_lt m
  have hb : bv (sumBy l) = bv (sumBy m) := by rw [h]
  rw [sumBy_bv, sumBy_bv] at hb
  simp only [List.cons.injEq, Value.int.injEq, true_and, and_true, Int.natCast_inj] at hb
  obtain ⟨a, b, c, d⟩ := hb
  omega
theorem IsImg.len {y : TTab} {b : List UInt8} (h : IsImg y b) : 9 ≤ b.length := by
  obtain ⟨m, hm, rfl, _⟩ := h
  have := hm.pos
  simp only [List.length_append, sumBy_len]
  show 9 ≤ 4 + m.length + 4
  omega
/-- two images that are as long and begin alike up to the sum -/
theorem img_split {y : TTab} {b : List UInt8} (h : IsImg y b) : ∃ p, b = p ++ sumBy p ∧ 5 ≤ p.length := by
  obtain ⟨m, hm, rfl, _⟩ := h
  have := hm.pos
  exact ⟨magicB ++ m, rfl, by simp only [List.length_append]; show 5 ≤ 4 + m.length; omega⟩
theorem img_turned {y z : TTab} {b : List UInt8} {k : Nat} {c : UInt8} (h : IsImg y b) (hk : k < b.length) (hc : b[k]? ≠ some c) : ¬ IsImg z (b.set k c) := by
  intro hz
  obtain ⟨p, rfl, hp⟩ := img_split h
  obtain ⟨q, hq, hq5⟩ := img_split hz
  have hl : q.length = p.length := by
    have := congrArg List.length hq
    simp only [List.length_set, List.length_append, sumBy_len] at this
    omega
  simp only [List.length_append, sumBy_len] at hk
  by_cases hkp : k < p.length
  · rw [List.set_append_left _ _ hkp] at hq
    obtain ⟨h1, h2⟩ := List.append_inj hq (by rw [List.length_set, hl])
    have h3 := sumBy_inj h2
    rw [← h1] at h3
    rw [List.getElem?_append_left hkp] at hc
    have hpk : p[k]? = some p[k] := List.getElem?_eq_getElem hkp
    rw [hpk] at hc
    have hne : p[k] ≠ c := fun e => hc (by rw [e])
    have hd : p[k].toNat ^^^ c.toNat ≠ 0 := fun e => hne (by
      rw [← UInt8.toNat_inj]
      have := congrArg (· ^^^ c.toNat) e
      simp only [Nat.xor_assoc, Nat.xor_self, Nat.xor_zero, Nat.zero_xor] at this
      exact this)
    have hd2 : p[k].toNat ^^^ c.toNat < 256 := Nat.xor_lt_two_pow (n := 8) (UInt8.toNat_lt _) (UInt8.toNat_lt _)
    have hw := crc_turn (nums p) k (p[k].toNat ^^^ c.toNat) (by simpa [nums] using hkp) (by omega) hd2
    have e : (nums p)[k]?.getD 0 ^^^ (p[k].toNat ^^^ c.toNat) = c.toNat := by
      have : (nums p)[k]? = some p[k].toNat := by simp [nums, hpk]
      rw [this, Option.getD_some, ← Nat.xor_assoc, Nat.xor_self, Nat.zero_xor]
    rw [e] at hw
    apply hw
    rw [h3]
    simp [nums, List.map_set]
  · rw [List.set_append_right _ _ (by omega)] at hq
    obtain ⟨h1, h2⟩ := List.append_inj hq hl.symm
    subst h1
    have h3 := congrArg (fun l => l[k - p.length]?) h2
    simp only [List.getElem?_set_self (show k - p.length < (sumBy p).length by rw [sumBy_len]; omega)] at h3
    rw [List.getElem?_append_right (by omega)] at hc
    exact hc h3.symm
theorem img_cut {y z : TTab} {b : List UInt8} {k : Nat} (h : IsImg y b) (hk : k < b.length) : ¬ IsImg z (b.take k) := by
  rintro ⟨m', hm', hb', hl'⟩
  obtain ⟨m, hm, rfl, hl⟩ := h
  have h1 := congrArg List.length hb'
  simp only [List.length_append, List.length_take, sumBy_len] at h1 hk
  have hml : magicB.length = 4 := rfl
  rw [List.append_assoc, List.append_assoc, List.take_append] at hb'
  have hkm : magicB.take k = magicB := List.take_of_length_le (by omega)
  rw [hkm] at hb'
  have h2 := List.append_cancel_left hb'
  have hlt : m'.length < m.length := by omega
  have h3 : m.take m'.length = m' := by
    have h4 := congrArg (fun l => l.take m'.length) h2
    simp only [List.take_left'] at h4
    rw [List.take_take, List.take_append_of_le_length (by omega)] at h4
    rw [Nat.min_eq_left (by omega)] at h4
    exact h4
  have h5 : m = m' ++ m.drop m'.length := by
    conv => lhs; rw [← List.take_append_drop m'.length m, h3]
  rw [h5] at hm
  have h6 := (hm'.begin hm).1
  have := congrArg List.length h6
  simp only [List.length_drop, List.length_nil] at this
  omega
/-- bytes that are no image are refused -/
theorem decode_no (A : Option Addr) (n c : Nat) (l : List UInt8) (w : World) (hn : l.length = n) (hc : n ≤ c) (hm : c ≤ 9223372036854775807) (hR : Reads w w.heap.size 1 A n (bv l)) (hno : ∀ y, ¬ IsImg y l) :
    Calls Try.prog 14 #[.slice A n c] w fun e w' => Below w.heap.size w w' ∧ ∃ ec : Int, e = .returned (.tuple #[.agg #[.int .i64 0, .slice none 0 0, .slice none 0 0, .int .i64 0, .int .i64 0, .int .i64 0, .slice none 0 0, .slice none 0 0], .int .i64 ec]) ∧ (ec != 0) = true ∧ (ec == 0) = false :=
  (decode_any A n c l w hn hc hm hR).mono fun e w' ⟨h1, h2⟩ => by
    rcases h2 with ⟨y, _, _, _, _, h3, _⟩ | ⟨_, h3⟩
    · exact absurd h3 (hno y)
    · exact ⟨h1, _, h3, (decErr_ne l).2, (decErr_ne l).1⟩
theorem img_more {y z : TTab} {b : List UInt8} {c : UInt8} (h : IsImg y b) : ¬ IsImg z (b ++ [c]) := by
  intro hz
  have h1 : IsImg y ((b ++ [c]).take b.length) := by rw [List.take_left]; exact h
  exact img_cut hz (by simp) h1
end Go.Proofs.Ytabndfkkbmhhjaa
namespace Go.Proofs.Ytabndfkkbmhhjaa
set_option linter.unusedVariables false
set_option linter.unusedSimpArgs false
open Go.RowKit Go.Deep

theorem inps_get {w : World} {v : Value} {l : List TInp} (h : SlR 4 InpC w v l) {i : Nat} {x : TInp} (hx : l[i]? = some x) :
    ∃ b off c, v = .slice (some ⟨b, off, none⟩) l.length c ∧ w.cell? ⟨b, off + i * 4, none⟩ = some (.int .i64 x.op) ∧ w.cell? ⟨b, off + i * 4 + 1, none⟩ = some (.int .i64 x.kind) ∧ w.cell? ⟨b, off + i * 4 + 2, none⟩ = some (.int .i64 x.pos) ∧ w.cell? ⟨b, off + i * 4 + 3, none⟩ = some (.int .i64 x.attr) := by
  obtain ⟨b, off, c, hv, h1, h2, hi, cs, hl, ⟨rfl, hw⟩, hc⟩ := h.get hx
  exact ⟨b, off, c, hv, hc 0 _ rfl, hc 1 _ rfl, hc 2 _ rfl, hc 3 _ rfl⟩
theorem vals_get {w : World} {v : Value} {l : List TVal} (h : SlR 2 ValC w v l) {i : Nat} {x : TVal} (hx : l[i]? = some x) :
    ∃ b off c, v = .slice (some ⟨b, off, none⟩) l.length c ∧ w.cell? ⟨b, off + i * 2, none⟩ = some (.int .i64 x.kind) ∧ w.cell? ⟨b, off + i * 2 + 1, none⟩ = some (.int .u64 x.bits) := by
  obtain ⟨b, off, c, hv, h1, h2, hi, cs, hl, ⟨rfl, hw⟩, hc⟩ := h.get hx
  exact ⟨b, off, c, hv, hc 0 _ rfl, hc 1 _ rfl⟩
theorem inss_get {w : World} {v : Value} {l : List TIns} (h : SlR 4 InsC w v l) {i : Nat} {x : TIns} (hx : l[i]? = some x) :
    ∃ b off c, v = .slice (some ⟨b, off, none⟩) l.length c ∧ w.cell? ⟨b, off + i * 4, none⟩ = some (.int .i64 x.op) ∧ w.cell? ⟨b, off + i * 4 + 1, none⟩ = some (.int .i64 x.dst) ∧ w.cell? ⟨b, off + i * 4 + 2, none⟩ = some (.int .i64 x.a) ∧ w.cell? ⟨b, off + i * 4 + 3, none⟩ = some (.int .i64 x.b) := by
  obtain ⟨b, off, c, hv, h1, h2, hi, cs, hl, ⟨rfl, hw⟩, hc⟩ := h.get hx
  exact ⟨b, off, c, hv, hc 0 _ rfl, hc 1 _ rfl, hc 2 _ rfl, hc 3 _ rfl⟩
theorem blk5s {w : World} {g : Nat} {t : TypeId} {a0 a1 a2 a3 a4 : Value} (h : Blk w g t #[a0, a1, a2, a3, a4]) :
    w.cell? ⟨g, 0, none⟩ = some a0 ∧ w.cell? ⟨g, 1, none⟩ = some a1 ∧ w.cell? ⟨g, 2, none⟩ = some a2 ∧ w.cell? ⟨g, 3, none⟩ = some a3 ∧ w.cell? ⟨g, 4, none⟩ = some a4 := ⟨h.cell 0, h.cell 1, h.cell 2, h.cell 3, h.cell 4⟩

set_option maxRecDepth 100000 in
set_option maxHeartbeats 4000000 in
theorem same_code (x : TCode) (vi vc vl ui uc ul : Value) (w : World) (hi : SlR 4 InpC w vi x.inputs) (hc : SlR 2 ValC w vc x.consts) (hl : SlR 4 InsC w vl x.list) (ki : SlR 4 InpC w ui x.inputs) (kc : SlR 2 ValC w uc x.consts) (kl : SlR 4 InsC w ul x.list) :
    Calls Try.prog 24 #[.agg #[.int .i64 x.regs, .int .i64 x.slots, vi, vc, vl], .agg #[.int .i64 x.regs, .int .i64 x.slots, ui, uc, ul]] w fun e w' => e = .returned (.bool true) ∧ Below w.heap.size w w' := by
  obtain ⟨A1, c1, rfl, h1, h2⟩ := hi.slice
  obtain ⟨A2, c2, rfl, h3, h4⟩ := hc.slice
  obtain ⟨A3, c3, rfl, h5, h6⟩ := hl.slice
  obtain ⟨A4, c4, rfl, h7, h8⟩ := ki.slice
  obtain ⟨A5, c5, rfl, h9, h10⟩ := kc.slice
  obtain ⟨A6, c6, rfl, h11, h12⟩ := kl.slice
  unfold maxLen at h2 h4 h6
  clear h7 h8 h9 h10 h11 h12
  obtain ⟨W, hW⟩ : ∃ W, W = (w.alloc (.cells #[.int .i64 x.regs, .int .i64 x.slots, .slice A1 x.inputs.length c1, .slice A2 x.consts.length c2, .slice A3 x.list.length c3] 57)).alloc (.cells #[.int .i64 x.regs, .int .i64 x.slots, .slice A4 x.inputs.length c4, .slice A5 x.consts.length c5, .slice A6 x.list.length c6] 57) := ⟨_, rfl⟩
  have hb : Below w.heap.size w W := by rw [hW]; exact ((Below.refl _ _).alloc (Nat.le_refl _) _).alloc (by simp) _
  have b1 : Blk W w.heap.size 57 #[.int .i64 x.regs, .int .i64 x.slots, .slice A1 x.inputs.length c1, .slice A2 x.consts.length c2, .slice A3 x.list.length c3] := by rw [hW]; exact (Blk.new _ _ _).alloc _
  have b2 : Blk W (w.heap.size + 1) 57 #[.int .i64 x.regs, .int .i64 x.slots, .slice A4 x.inputs.length c4, .slice A5 x.consts.length c5, .slice A6 x.list.length c6] := by
    have h := Blk.new (w.alloc (.cells #[.int .i64 x.regs, .int .i64 x.slots, .slice A1 x.inputs.length c1, .slice A2 x.consts.length c2, .slice A3 x.list.length c3] 57)) 57 #[.int .i64 x.regs, .int .i64 x.slots, .slice A4 x.inputs.length c4, .slice A5 x.consts.length c5, .slice A6 x.list.length c6]
    rw [World.size_alloc] at h
    rw [hW]; exact h
  have kp := KeepC.of_below hb
  have HI := Lib.hid (keep_inps kp hi)
  have HC := Lib.hid (keep_vals kp hc)
  have HL := Lib.hid (keep_inss kp hl)
  have KI := Lib.hid (keep_inps kp ki)
  have KC := Lib.hid (keep_vals kp kc)
  have KL := Lib.hid (keep_inss kp kl)
  have HB := Lib.hid hb
  have z1 : (0 : Int) ≤ (x.inputs.length : Int) := by omega
  have z2 : (0 : Int) ≤ (x.consts.length : Int) := by omega
  have z3 : (0 : Int) ≤ (x.list.length : Int) := by omega
  obtain ⟨p0, p1, p2, p3, p4⟩ := blk5s b1
  obtain ⟨q0, q1, q2, q3, q4⟩ := blk5s b2
  clear hi hc hl ki kc kl kp hb b1 b2
  go_enter Try.func24, Try.ntmps24
  go_upto_region 1 with fail
  try simp only [World.size_alloc]
  rw [← hW]
  clear hW
  go_wp2_with fail
  go_loopw [50] (fun s wr => ∃ r : Nat, r ≤ x.inputs.length ∧ s = .int .i64 r ∧ Hid (∃ q, wr = W.drewN q)) (fun s _ => x.inputs.length - (intOf s).toNat)
  case atStart => exact ⟨0, Nat.zero_le _, rfl, Lib.hid ⟨0, rfl⟩⟩
  case round =>
    obtain ⟨r, hr, rfl, hq⟩ := hrel
    obtain ⟨q, rfl⟩ := hq.out
    clear hq
    by_cases hlt : r < x.inputs.length
    · obtain ⟨y, hy⟩ : ∃ y, x.inputs[r]? = some y := ⟨_, List.getElem?_eq_getElem hlt⟩
      obtain ⟨ba, oa, ca, ea, m0, m1, m2, m3⟩ := inps_get HI.out hy
      obtain ⟨bb, ob, cb, eb, n0, n1, n2, n3⟩ := inps_get KI.out hy
      injection ea with ea _ ea2
      injection eb with eb _ eb2
      subst ea ea2 eb eb2
      have b1 : (0 : Int) ≤ (r : Int) := by omega
      have b2 : (r : Int) < (x.inputs.length : Int) := by omega
      clear hy
      go_upto_region 6 with fail
      refine wp_region_quiet_lit (by kernel_rfl) (by kernel_rfl) ?_
      repeat (any_goals (first | go_big_quiet_step (fail) | quiet_step (fail) | (refine wpQuiet_step (fun K hK => ?_); go_simp; split <;> (refine hK _ ?_; clear hK K))))
      all_goals (refine wpQuiet_nil ?_; intro _ hw'; obtain ⟨nq, hw''⟩ := hw'; subst hw'')
      go_wp2_with fail
      go_roundw
      case rel => first | exact ⟨r + 1, by omega, by go_num, Lib.hid ⟨q + nq, by first | rfl | rw [World.drewN_drewN]⟩⟩ | ((repeat apply Exists.intro); exact ⟨⟨r + 1, by omega, by go_num, Lib.hid ⟨q + nq, by first | rfl | rw [World.drewN_drewN]⟩⟩, rfl⟩)
      case measure => simp [intOf]; omega
    · have hge : (x.inputs.length : Int) ≤ (r : Int) := by omega
      go_wp2_with fail
      obtain ⟨d1, hd1⟩ : ∃ d1, d1 = q := ⟨_, rfl⟩
      rw [← hd1]
      clear hd1 hge hr hlt
      go_loopw [68] (fun s wr => ∃ r : Nat, r ≤ x.consts.length ∧ s = .int .i64 r ∧ Hid (∃ q, wr = W.drewN q)) (fun s _ => x.consts.length - (intOf s).toNat)
      case atStart => exact ⟨0, Nat.zero_le _, rfl, Lib.hid ⟨d1, rfl⟩⟩
      case round =>
        obtain ⟨r, hr, rfl, hq⟩ := hrel
        obtain ⟨q, rfl⟩ := hq.out
        clear hq
        by_cases hlt : r < x.consts.length
        · obtain ⟨y, hy⟩ : ∃ y, x.consts[r]? = some y := ⟨_, List.getElem?_eq_getElem hlt⟩
          obtain ⟨ba, oa, ca, ea, m0, m1⟩ := vals_get HC.out hy
          obtain ⟨bb, ob, cb, eb, n0, n1⟩ := vals_get KC.out hy
          injection ea with ea _ ea2
          injection eb with eb _ eb2
          subst ea ea2 eb eb2
          have b1 : (0 : Int) ≤ (r : Int) := by omega
          have b2 : (r : Int) < (x.consts.length : Int) := by omega
          clear hy
          go_upto_region 12 with fail
          refine wp_region_quiet_lit (by kernel_rfl) (by kernel_rfl) ?_
          repeat (any_goals (first | go_big_quiet_step (fail) | quiet_step (fail) | (refine wpQuiet_step (fun K hK => ?_); go_simp; split <;> (refine hK _ ?_; clear hK K))))
          all_goals (refine wpQuiet_nil ?_; intro _ hw'; obtain ⟨nq, hw''⟩ := hw'; subst hw'')
          go_wp2_with fail
          go_roundw
          case rel => first | exact ⟨r + 1, by omega, by go_num, Lib.hid ⟨q + nq, by first | rfl | rw [World.drewN_drewN]⟩⟩ | ((repeat apply Exists.intro); exact ⟨⟨r + 1, by omega, by go_num, Lib.hid ⟨q + nq, by first | rfl | rw [World.drewN_drewN]⟩⟩, rfl⟩)
          case measure => simp [intOf]; omega
        · have hge : (x.consts.length : Int) ≤ (r : Int) := by omega
          go_wp2_with fail
          obtain ⟨d2, hd2⟩ : ∃ d2, d2 = q := ⟨_, rfl⟩
          rw [← hd2]
          clear hd2 hge hr hlt
          go_loopw [86] (fun s wr => ∃ r : Nat, r ≤ x.list.length ∧ s = .int .i64 r ∧ Hid (∃ q, wr = W.drewN q)) (fun s _ => x.list.length - (intOf s).toNat)
          case atStart => exact ⟨0, Nat.zero_le _, rfl, Lib.hid ⟨d2, rfl⟩⟩
          case round =>
            obtain ⟨r, hr, rfl, hq⟩ := hrel
            obtain ⟨q, rfl⟩ := hq.out
            clear hq
            by_cases hlt : r < x.list.length
            · obtain ⟨y, hy⟩ : ∃ y, x.list[r]? = some y := ⟨_, List.getElem?_eq_getElem hlt⟩
              obtain ⟨ba, oa, ca, ea, m0, m1, m2, m3⟩ := inss_get HL.out hy
              obtain ⟨bb, ob, cb, eb, n0, n1, n2, n3⟩ := inss_get KL.out hy
              injection ea with ea _ ea2
              injection eb with eb _ eb2
              subst ea ea2 eb eb2
              have b1 : (0 : Int) ≤ (r : Int) := by omega
              have b2 : (r : Int) < (x.list.length : Int) := by omega
              clear hy
              go_upto_region 18 with fail
              refine wp_region_quiet_lit (by kernel_rfl) (by kernel_rfl) ?_
              repeat (any_goals (first | go_big_quiet_step (fail) | quiet_step (fail) | (refine wpQuiet_step (fun K hK => ?_); go_simp; split <;> (refine hK _ ?_; clear hK K))))
              all_goals (refine wpQuiet_nil ?_; intro _ hw'; obtain ⟨nq, hw''⟩ := hw'; subst hw'')
              go_wp2_with fail
              go_roundw
              case rel => first | exact ⟨r + 1, by omega, by go_num, Lib.hid ⟨q + nq, by first | rfl | rw [World.drewN_drewN]⟩⟩ | ((repeat apply Exists.intro); exact ⟨⟨r + 1, by omega, by go_num, Lib.hid ⟨q + nq, by first | rfl | rw [World.drewN_drewN]⟩⟩, rfl⟩)
              case measure => simp [intOf]; omega
            · have hge : (x.list.length : Int) ≤ (r : Int) := by omega
              go_wp2_with fail
              go_ret
              exact ⟨rfl, below_drewN HB.out _⟩
end Go.Proofs.Ytabndfkkbmhhjaa
namespace Go.Proofs.Ytabndfkkbmhhjaa
set_option linter.unusedVariables false
set_option linter.unusedSimpArgs false
open Go.RowKit Go.Deep

theorem madeV_shape {w w' : World} {l : List UInt8} {e : Ending} (h : MadeV w l e w') (hl : 0 < l.length) : ∃ g cap, e = .returned (.slice (some ⟨g, 0, none⟩) l.length cap) ∧ Kept w' g l ∧ Below w.heap.size w w' := by
  obtain ⟨v, rfl, ho, hb⟩ := h
  obtain ⟨g, cap, rfl, _⟩ := own_shape ho hl
  exact ⟨g, cap, rfl, Kept.of_own ho hl, hb⟩
theorem plainBy_pos (T : TTab) : 0 < (plainBy T).length := by
  have := vb_flat_len [T.strategy, T.syms, T.runs, T.cells, (T.keys.length : Int)]
  unfold plainBy
  simp only [List.length_append, List.length_cons, List.length_nil] at this ⊢
  omega
def SameS (H : Nat) (a0 a1 a2 a3 a4 a5 a6 a7 b0 b1 b2 b3 b4 b5 b6 b7 : Value) (W : World) : Prop := (W.cell? ⟨H, 0, none⟩ = some a0 ∧ W.cell? ⟨H, 1, none⟩ = some a1 ∧ W.cell? ⟨H, 2, none⟩ = some a2 ∧ W.cell? ⟨H, 3, none⟩ = some a3 ∧ W.cell? ⟨H, 4, none⟩ = some a4 ∧ W.cell? ⟨H, 5, none⟩ = some a5 ∧ W.cell? ⟨H, 6, none⟩ = some a6 ∧ W.cell? ⟨H, 7, none⟩ = some a7) ∧
  W.cell? ⟨H + 1, 0, none⟩ = some b0 ∧ W.cell? ⟨H + 1, 1, none⟩ = some b1 ∧ W.cell? ⟨H + 1, 2, none⟩ = some b2 ∧ W.cell? ⟨H + 1, 3, none⟩ = some b3 ∧ W.cell? ⟨H + 1, 4, none⟩ = some b4 ∧ W.cell? ⟨H + 1, 5, none⟩ = some b5 ∧ W.cell? ⟨H + 1, 6, none⟩ = some b6 ∧ W.cell? ⟨H + 1, 7, none⟩ = some b7
theorem sameS_of {W1 W : World} {H : Nat} {t : TypeId} {a0 a1 a2 a3 a4 a5 a6 a7 b0 b1 b2 b3 b4 b5 b6 b7 : Value} (h : Blk W1 H t #[a0, a1, a2, a3, a4, a5, a6, a7]) (k : Blk W1 (H + 1) t #[b0, b1, b2, b3, b4, b5, b6, b7]) (hb : Below W1.heap.size W1 W) : SameS H a0 a1 a2 a3 a4 a5 a6 a7 b0 b1 b2 b3 b4 b5 b6 b7 W :=
  ⟨blk8s (h.below hb h.lt), blk8s (k.below hb k.lt)⟩
def CodeS (g i : Nat) (a0 a1 a2 a3 a4 : Value) (W : World) : Prop := W.cell? ⟨g, i, none⟩ = some a0 ∧ W.cell? ⟨g, i + 1, none⟩ = some a1 ∧ W.cell? ⟨g, i + 2, none⟩ = some a2 ∧ W.cell? ⟨g, i + 3, none⟩ = some a3 ∧ W.cell? ⟨g, i + 4, none⟩ = some a4

set_option maxRecDepth 100000 in
set_option maxHeartbeats 4000000 in
theorem same_any (T : TTab) (vk vkk vs vc uk ukk us uc : Value) (w : World) (h : TabX w T vk vkk vs vc) (k : TabX w T uk ukk us uc) (hlb : (plainBy T).length ≤ 1000000000) :
    Calls Try.prog 13 #[.agg #[.int .i64 T.strategy, vk, vkk, .int .i64 T.syms, .int .i64 T.runs, .int .i64 T.cells, vs, vc], .agg #[.int .i64 T.strategy, uk, ukk, .int .i64 T.syms, .int .i64 T.runs, .int .i64 T.cells, us, uc]] w fun e w' => e = .returned (.bool true) ∧ Below w.heap.size w w' := by
  obtain ⟨A1, a1, rfl, _, _⟩ := h.keys.slice
  obtain ⟨B1, b1, rfl, _, _⟩ := h.kinds.slice
  obtain ⟨C1, c1, rfl, _, _⟩ := h.states.slice
  obtain ⟨D1, d1, rfl, hd1, hd2⟩ := h.codes.slice
  obtain ⟨A2, a2, rfl, _, _⟩ := k.keys.slice
  obtain ⟨B2, b2, rfl, _, _⟩ := k.kinds.slice
  obtain ⟨C2, c2, rfl, _, _⟩ := k.states.slice
  obtain ⟨D2, d2, rfl, _, _⟩ := k.codes.slice
  unfold maxLen at hd2
  obtain ⟨W, hW⟩ : ∃ W, W = (w.alloc (.cells #[.int .i64 T.strategy, .slice A1 T.keys.length a1, .slice B1 T.kinds.length b1, .int .i64 T.syms, .int .i64 T.runs, .int .i64 T.cells, .slice C1 T.states.length c1, .slice D1 T.codes.length d1] 27)).alloc (.cells #[.int .i64 T.strategy, .slice A2 T.keys.length a2, .slice B2 T.kinds.length b2, .int .i64 T.syms, .int .i64 T.runs, .int .i64 T.cells, .slice C2 T.states.length c2, .slice D2 T.codes.length d2] 27) := ⟨_, rfl⟩
  have hb : Below w.heap.size w W := by rw [hW]; exact ((Below.refl _ _).alloc (Nat.le_refl _) _).alloc (by simp) _
  have hk1 : Blk W w.heap.size 27 #[.int .i64 T.strategy, .slice A1 T.keys.length a1, .slice B1 T.kinds.length b1, .int .i64 T.syms, .int .i64 T.runs, .int .i64 T.cells, .slice C1 T.states.length c1, .slice D1 T.codes.length d1] := by rw [hW]; exact (Blk.new _ _ _).alloc _
  have hk2 : Blk W (w.heap.size + 1) 27 #[.int .i64 T.strategy, .slice A2 T.keys.length a2, .slice B2 T.kinds.length b2, .int .i64 T.syms, .int .i64 T.runs, .int .i64 T.cells, .slice C2 T.states.length c2, .slice D2 T.codes.length d2] := by
    have h := Blk.new (w.alloc (.cells #[.int .i64 T.strategy, .slice A1 T.keys.length a1, .slice B1 T.kinds.length b1, .int .i64 T.syms, .int .i64 T.runs, .int .i64 T.cells, .slice C1 T.states.length c1, .slice D1 T.codes.length d1] 27)) 27 #[.int .i64 T.strategy, .slice A2 T.keys.length a2, .slice B2 T.kinds.length b2, .int .i64 T.syms, .int .i64 T.runs, .int .i64 T.cells, .slice C2 T.states.length c2, .slice D2 T.codes.length d2]
    rw [World.size_alloc] at h
    rw [hW]; exact h
  have HB := Lib.hid hb
  have BA := Lib.hid hk1
  have BB := Lib.hid hk2
  have HX := Lib.hid (h.below hb)
  have KX := Lib.hid (k.below hb)
  have HL := Lib.hid hlb
  have PP := Lib.hid (plainBy_pos T)
  obtain ⟨x0, x1, x2, x3, x4, x5, x6, x7⟩ := blk8s hk1
  obtain ⟨y0, y1, y2, y3, y4, y5, y6, y7⟩ := blk8s hk2
  have nn : (0 : Int) ≤ (T.codes.length : Int) := by omega
  clear h k hb hk1 hk2 hlb
  go_enter Try.func13, Try.ntmps13
  go_upto_region 1 with fail
  try simp only [World.size_alloc]
  rw [← hW]
  clear hW
  go_wp2_with fail
  clear x0 x1 x2 x3 x4 x5 x6 x7 y0 y1 y2 y3 y4 y5 y6 y7
  go_loopw [16] (fun s wr => ∃ r : Nat, r ≤ T.codes.length ∧ s = .int .i64 r ∧ Hid (Below W.heap.size W wr)) (fun s _ => T.codes.length - (intOf s).toNat)
  case atStart => exact ⟨0, Nat.zero_le _, rfl, Lib.hid (Below.refl _ _)⟩
  case round =>
    obtain ⟨r, hr, rfl, hq⟩ := hrel
    by_cases hlt : r < T.codes.length
    · obtain ⟨y, hy⟩ : ∃ y, T.codes[r]? = some y := ⟨_, List.getElem?_eq_getElem hlt⟩
      obtain ⟨g1, o1, e1, ui, uc, ul, ha, _, _, m0, m1, m2, m3, m4, s1, s2, s3, _⟩ := codes_get HX.out.codes hy
      obtain ⟨g2, o2, e2, vi, vc, vl, hb, _, _, n0, n1, n2, n3, n4, t1, t2, t3, _⟩ := codes_get KX.out.codes hy
      injection ha with ha _ ha2
      injection hb with hb _ hb2
      subst ha ha2 hb hb2
      obtain ⟨p1, p2, rfl, _, _⟩ := s1.slice
      obtain ⟨p3, p4, rfl, _, _⟩ := s2.slice
      obtain ⟨p5, p6, rfl, _, _⟩ := s3.slice
      obtain ⟨q1, q2, rfl, _, _⟩ := t1.slice
      obtain ⟨q3, q4, rfl, _, _⟩ := t2.slice
      obtain ⟨q5, q6, rfl, _, _⟩ := t3.slice
      have CS := Lib.hid (fun V (hv : Below W.heap.size W V) => by
        have kp := KeepC.of_below hv
        exact (⟨⟨kp _ _ m0, kp _ _ m1, kp _ _ m2, kp _ _ m3, kp _ _ m4⟩, ⟨kp _ _ n0, kp _ _ n1, kp _ _ n2, kp _ _ n3, kp _ _ n4⟩⟩ : CodeS g1 (o1 + r * 5) _ _ _ _ _ V ∧ CodeS g2 (o2 + r * 5) _ _ _ _ _ V))
      have CC := Lib.hid (fun V (hv : Below W.heap.size W V) => by
        have kp := KeepC.of_below hv
        exact same_code y _ _ _ _ _ _ V (keep_inps kp s1) (keep_vals kp s2) (keep_inss kp s3) (keep_inps kp t1) (keep_vals kp t2) (keep_inss kp t3))
      clear m0 m1 m2 m3 m4 n0 n1 n2 n3 n4 s1 s2 s3 t1 t2 t3 hy
      have i1 : (0 : Int) ≤ (r : Int) := by omega
      have i2 : (r : Int) < (T.codes.length : Int) := by omega
      go_upto_region 6 with fail
      obtain ⟨yo, hyo⟩ : ∃ yo, yo = World.drew wr := ⟨_, rfl⟩
      have HBO : Hid (Below W.heap.size W yo) := Lib.hid (by rw [hyo]; exact ⟨hq.out.os, hq.out.tape, hq.out.output, hq.out.size, hq.out.block⟩)
      have HS := Lib.hid (And.intro (sameS_of BA.out BB.out HBO.out) (CS.out yo HBO.out))
      refine region_till (fun W => SameS w.heap.size (.int .i64 T.strategy) (.slice A1 T.keys.length a1) (.slice B1 T.kinds.length b1) (.int .i64 T.syms) (.int .i64 T.runs) (.int .i64 T.cells) (.slice C1 T.states.length c1) (.slice (some ⟨g1, o1, none⟩) T.codes.length d1) (.int .i64 T.strategy) (.slice A2 T.keys.length a2) (.slice B2 T.kinds.length b2) (.int .i64 T.syms) (.int .i64 T.runs) (.int .i64 T.cells) (.slice C2 T.states.length c2) (.slice (some ⟨g2, o2, none⟩) T.codes.length d2) W ∧ CodeS g1 (o1 + r * 5) (.int .i64 y.regs) (.int .i64 y.slots) (.slice p1 y.inputs.length p2) (.slice p3 y.consts.length p4) (.slice p5 y.list.length p6) W ∧ CodeS g2 (o2 + r * 5) (.int .i64 y.regs) (.int .i64 y.slots) (.slice q1 y.inputs.length q2) (.slice q3 y.consts.length q4) (.slice q5 y.list.length q6) W) (fun j => !([0, 1, 2, 3, 4, 5, 6, 7, 8, 9, 10, 11] : List Nat).contains j) (by kernel_rfl) ?_
      rw [← hyo]
      clear hyo
      refine till_take (i := 0) (v := ?_) rfl (by kernel_rfl) (by kernel_rfl) (by kernel_rfl) (by kernel_rfl) (fun _ _ _ h => h) (Or.inl ⟨by kernel_rfl, ?_⟩) HS.out ?_
      rotate_left
      · (intro w' hSw; obtain ⟨⟨⟨x0, x1, x2, x3, x4, x5, x6, x7⟩, y0, y1, y2, y3, y4, y5, y6, y7⟩, ⟨m0, m1, m2, m3, m4⟩, n0, n1, n2, n3, n4⟩ := hSw; go_simp; try with_reducible rfl)
      refine till_take (i := 1) (v := ?_) rfl (by kernel_rfl) (by kernel_rfl) (by kernel_rfl) (by kernel_rfl) (fun _ _ _ h => h) (Or.inl ⟨by kernel_rfl, ?_⟩) HS.out ?_
      rotate_left
      · (intro w' hSw; obtain ⟨⟨⟨x0, x1, x2, x3, x4, x5, x6, x7⟩, y0, y1, y2, y3, y4, y5, y6, y7⟩, ⟨m0, m1, m2, m3, m4⟩, n0, n1, n2, n3, n4⟩ := hSw; go_simp; try with_reducible rfl)
      refine till_take (i := 2) (v := ?_) rfl (by kernel_rfl) (by kernel_rfl) (by kernel_rfl) (by kernel_rfl) (fun _ _ _ h => h) (Or.inl ⟨by kernel_rfl, ?_⟩) HS.out ?_
      rotate_left
      · (intro w' hSw; obtain ⟨⟨⟨x0, x1, x2, x3, x4, x5, x6, x7⟩, y0, y1, y2, y3, y4, y5, y6, y7⟩, ⟨m0, m1, m2, m3, m4⟩, n0, n1, n2, n3, n4⟩ := hSw; go_simp; try with_reducible rfl)
      refine till_take (i := 3) (v := ?_) rfl (by kernel_rfl) (by kernel_rfl) (by kernel_rfl) (by kernel_rfl) (fun _ _ _ h => h) (Or.inl ⟨by kernel_rfl, ?_⟩) HS.out ?_
      rotate_left
      · (intro w' hSw; obtain ⟨⟨⟨x0, x1, x2, x3, x4, x5, x6, x7⟩, y0, y1, y2, y3, y4, y5, y6, y7⟩, ⟨m0, m1, m2, m3, m4⟩, n0, n1, n2, n3, n4⟩ := hSw; go_simp; try with_reducible rfl)
      refine till_take (i := 4) (v := ?_) rfl (by kernel_rfl) (by kernel_rfl) (by kernel_rfl) (by kernel_rfl) (fun _ _ _ h => h) (Or.inl ⟨by kernel_rfl, ?_⟩) HS.out ?_
      rotate_left
      · (intro w' hSw; obtain ⟨⟨⟨x0, x1, x2, x3, x4, x5, x6, x7⟩, y0, y1, y2, y3, y4, y5, y6, y7⟩, ⟨m0, m1, m2, m3, m4⟩, n0, n1, n2, n3, n4⟩ := hSw; go_simp; try with_reducible rfl)
      refine till_take (i := 5) (v := ?_) rfl (by kernel_rfl) (by kernel_rfl) (by kernel_rfl) (by kernel_rfl) (fun _ _ _ h => h) (Or.inl ⟨by kernel_rfl, ?_⟩) HS.out ?_
      rotate_left
      · (intro w' hSw; obtain ⟨⟨⟨x0, x1, x2, x3, x4, x5, x6, x7⟩, y0, y1, y2, y3, y4, y5, y6, y7⟩, ⟨m0, m1, m2, m3, m4⟩, n0, n1, n2, n3, n4⟩ := hSw; go_simp; try with_reducible rfl)
      refine till_take (i := 6) (v := ?_) rfl (by kernel_rfl) (by kernel_rfl) (by kernel_rfl) (by kernel_rfl) (fun _ _ _ h => h) (Or.inl ⟨by kernel_rfl, ?_⟩) HS.out ?_
      rotate_left
      · (intro w' hSw; obtain ⟨⟨⟨x0, x1, x2, x3, x4, x5, x6, x7⟩, y0, y1, y2, y3, y4, y5, y6, y7⟩, ⟨m0, m1, m2, m3, m4⟩, n0, n1, n2, n3, n4⟩ := hSw; go_simp; try with_reducible rfl)
      refine till_take (i := 7) (v := ?_) rfl (by kernel_rfl) (by kernel_rfl) (by kernel_rfl) (by kernel_rfl) (fun _ _ _ h => h) (Or.inl ⟨by kernel_rfl, ?_⟩) HS.out ?_
      rotate_left
      · (intro w' hSw; obtain ⟨⟨⟨x0, x1, x2, x3, x4, x5, x6, x7⟩, y0, y1, y2, y3, y4, y5, y6, y7⟩, ⟨m0, m1, m2, m3, m4⟩, n0, n1, n2, n3, n4⟩ := hSw; go_simp; try with_reducible rfl)
      refine till_take (i := 8) (v := ?_) rfl (by kernel_rfl) (by kernel_rfl) (by kernel_rfl) (by kernel_rfl) (fun _ _ _ h => h) (Or.inl ⟨by kernel_rfl, ?_⟩) HS.out ?_
      rotate_left
      · (intro w' hSw; obtain ⟨⟨⟨x0, x1, x2, x3, x4, x5, x6, x7⟩, y0, y1, y2, y3, y4, y5, y6, y7⟩, ⟨m0, m1, m2, m3, m4⟩, n0, n1, n2, n3, n4⟩ := hSw; go_simp; try with_reducible rfl)
      refine till_take (i := 9) (v := ?_) rfl (by kernel_rfl) (by kernel_rfl) (by kernel_rfl) (by kernel_rfl) (fun _ _ _ h => h) (Or.inl ⟨by kernel_rfl, ?_⟩) HS.out ?_
      rotate_left
      · (intro w' hSw; obtain ⟨⟨⟨x0, x1, x2, x3, x4, x5, x6, x7⟩, y0, y1, y2, y3, y4, y5, y6, y7⟩, ⟨m0, m1, m2, m3, m4⟩, n0, n1, n2, n3, n4⟩ := hSw; go_simp; try with_reducible rfl)
      refine till_ready (rs := [10]) (by kernel_rfl) (by simp) ?_
      refine TillAll.cons rfl (fun K hK => ?_) TillAll.nil
      go_simp
      go_wp2_with (go_at_call 24; refine (CC.out yo HBO.out).mono ?_; rintro e w6 ⟨rfl, hb6⟩)
      have HB6 := Lib.hid (HBO.out.trans (hb6.mono HBO.out.size))
      clear hb6
      have HS := Lib.hid (And.intro (sameS_of BA.out BB.out HB6.out) (CS.out w6 HB6.out))
      (refine hK.out _ _ (fun _ => HS.out) ?_; clear hK K)
      refine till_take (i := 11) (v := ?_) rfl (by kernel_rfl) (by kernel_rfl) (by kernel_rfl) (by kernel_rfl) (fun _ _ _ h => h) (Or.inl ⟨by kernel_rfl, ?_⟩) HS.out ?_
      rotate_left
      · (intro w' hSw; obtain ⟨⟨⟨x0, x1, x2, x3, x4, x5, x6, x7⟩, y0, y1, y2, y3, y4, y5, y6, y7⟩, ⟨m0, m1, m2, m3, m4⟩, n0, n1, n2, n3, n4⟩ := hSw; go_simp; try with_reducible rfl)
      refine till_done (by kernel_rfl) ?_ _
      go_wp2_with fail
      go_roundw
      case rel => first | exact ⟨r + 1, by omega, by go_num, HB6⟩ | ((repeat apply Exists.intro); exact ⟨⟨r + 1, by omega, by go_num, HB6⟩, rfl⟩)
      case measure => simp [intOf]; omega
    · have hge : (T.codes.length : Int) ≤ (r : Int) := by omega
      obtain rfl : r = T.codes.length := by omega
      have hq2 := hq.out
      obtain ⟨x0, x1, x2, x3, x4, x5, x6, x7⟩ := blk8s (BA.out.below hq2 BA.out.lt)
      clear hq2
      go_upto_region 9 with fail
      obtain ⟨yo, hyo⟩ : ∃ yo, yo = World.drew wr := ⟨_, rfl⟩
      have HBO : Hid (Below W.heap.size W yo) := Lib.hid (by rw [hyo]; exact ⟨hq.out.os, hq.out.tape, hq.out.output, hq.out.size, hq.out.block⟩)
      have HS := Lib.hid (sameS_of BA.out BB.out HBO.out)
      have CP1 := Lib.hid (fun V (hv : Below W.heap.size W V) => plain_any T _ _ _ _ V (HX.out.below hv) HL.out)
      have CP2 := Lib.hid (fun V (hv : Below W.heap.size W V) => plain_any T _ _ _ _ V (KX.out.below hv) HL.out)
      clear x0 x1 x2 x3 x4 x5 x6 x7
      refine region_till (SameS w.heap.size (.int .i64 T.strategy) (.slice A1 T.keys.length a1) (.slice B1 T.kinds.length b1) (.int .i64 T.syms) (.int .i64 T.runs) (.int .i64 T.cells) (.slice C1 T.states.length c1) (.slice D1 T.codes.length d1) (.int .i64 T.strategy) (.slice A2 T.keys.length a2) (.slice B2 T.kinds.length b2) (.int .i64 T.syms) (.int .i64 T.runs) (.int .i64 T.cells) (.slice C2 T.states.length c2) (.slice D2 T.codes.length d2)) (fun j => !([0, 1, 2, 3, 4, 5, 6, 7] : List Nat).contains j) (by kernel_rfl) ?_
      rw [← hyo]
      clear hyo
      refine till_take (i := 0) (v := ?_) rfl (by kernel_rfl) (by kernel_rfl) (by kernel_rfl) (by kernel_rfl) (fun _ _ _ h => h) (Or.inl ⟨by kernel_rfl, ?_⟩) HS.out ?_
      rotate_left
      · (intro w' hSw; obtain ⟨⟨x0, x1, x2, x3, x4, x5, x6, x7⟩, y0, y1, y2, y3, y4, y5, y6, y7⟩ := hSw; go_simp; try with_reducible rfl)
      refine till_take (i := 3) (v := ?_) rfl (by kernel_rfl) (by kernel_rfl) (by kernel_rfl) (by kernel_rfl) (fun _ _ _ h => h) (Or.inl ⟨by kernel_rfl, ?_⟩) HS.out ?_
      rotate_left
      · (intro w' hSw; obtain ⟨⟨x0, x1, x2, x3, x4, x5, x6, x7⟩, y0, y1, y2, y3, y4, y5, y6, y7⟩ := hSw; go_simp; try with_reducible rfl)
      refine till_ready (rs := [1]) (by kernel_rfl) (by simp) ?_
      refine TillAll.cons rfl (fun K hK => ?_) TillAll.nil
      go_simp
      go_wp2_with (go_at_call 25; refine (CP1.out yo HBO.out).mono ?_; rintro e z1 hmv; obtain ⟨G1, K1, rfl, hkt, hbt⟩ := madeV_shape hmv PP.out; clear hmv)
      have HBz1 := Lib.hid (HBO.out.trans (hbt.mono HBO.out.size))
      have KT1 := Lib.hid hkt
      clear hkt hbt
      have HS := Lib.hid (sameS_of BA.out BB.out HBz1.out)
      (refine hK.out _ _ (fun _ => HS.out) ?_; clear hK K)
      refine till_ready (rs := [2, 4]) (by kernel_rfl) (by simp) ?_
      refine TillAll.cons rfl (fun K hK => ?_) ?_
      · skip
        have cv := KT1.out.text (cap := K1) (n := (plainBy T).length) rfl
        go_simp
        clear cv
        (refine hK.out _ _ (fun _ => HS.out) ?_; clear hK K)
        refine till_ready (rs := [4]) (by kernel_rfl) (by simp) ?_
        refine TillAll.cons rfl (fun K hK => ?_) TillAll.nil
        go_simp
        go_wp2_with (go_at_call 25; refine (CP2.out z1 HBz1.out).mono ?_; rintro e z14 hmv; obtain ⟨G4, K4, rfl, hkt, hbt⟩ := madeV_shape hmv PP.out; clear hmv)
        have HBz14 := Lib.hid (HBz1.out.trans (hbt.mono HBz1.out.size))
        have KT4 := Lib.hid hkt
        have KT1 := Lib.hid (KT1.out.below hbt)
        clear hkt hbt
        have HS := Lib.hid (sameS_of BA.out BB.out HBz14.out)
        (refine hK.out _ _ (fun _ => HS.out) ?_; clear hK K)
        refine till_ready (rs := [5]) (by kernel_rfl) (by simp) ?_
        refine TillAll.cons rfl (fun K hK => ?_) TillAll.nil
        have cv := KT4.out.text (cap := K4) (n := (plainBy T).length) rfl
        go_simp
        clear cv
        (refine hK.out _ _ (fun _ => HS.out) ?_; clear hK K)
        refine till_take (i := 6) (v := ?_) rfl (by kernel_rfl) (by kernel_rfl) (by kernel_rfl) (by kernel_rfl) (fun _ _ _ h => h) (Or.inl ⟨by kernel_rfl, ?_⟩) HS.out ?_
        rotate_left
        · (intro w' hSw; obtain ⟨⟨x0, x1, x2, x3, x4, x5, x6, x7⟩, y0, y1, y2, y3, y4, y5, y6, y7⟩ := hSw; go_simp; try with_reducible rfl)
        refine till_take (i := 7) (v := ?_) rfl (by kernel_rfl) (by kernel_rfl) (by kernel_rfl) (by kernel_rfl) (fun _ _ _ h => h) (Or.inl ⟨by kernel_rfl, ?_⟩) HS.out ?_
        rotate_left
        · (intro w' hSw; obtain ⟨⟨x0, x1, x2, x3, x4, x5, x6, x7⟩, y0, y1, y2, y3, y4, y5, y6, y7⟩ := hSw; go_simp; try with_reducible rfl)
        refine till_done (by kernel_rfl) ?_ _
        go_wp2_with fail
        go_ret
        exact ⟨rfl, HB.out.trans (HBz14.out.mono HB.out.size)⟩
      refine TillAll.cons rfl (fun K hK => ?_) TillAll.nil
      go_simp
      go_wp2_with (go_at_call 25; refine (CP2.out z1 HBz1.out).mono ?_; rintro e z14 hmv; obtain ⟨G4, K4, rfl, hkt, hbt⟩ := madeV_shape hmv PP.out; clear hmv)
      have HBz14 := Lib.hid (HBz1.out.trans (hbt.mono HBz1.out.size))
      have KT4 := Lib.hid hkt
      have KT1 := Lib.hid (KT1.out.below hbt)
      clear hkt hbt
      have HS := Lib.hid (sameS_of BA.out BB.out HBz14.out)
      (refine hK.out _ _ (fun _ => HS.out) ?_; clear hK K)
      refine till_ready (rs := [2, 5]) (by kernel_rfl) (by simp) ?_
      refine TillAll.cons rfl (fun K hK => ?_) ?_
      · skip
        have cv := KT1.out.text (cap := K1) (n := (plainBy T).length) rfl
        go_simp
        clear cv
        (refine hK.out _ _ (fun _ => HS.out) ?_; clear hK K)
        refine till_ready (rs := [5]) (by kernel_rfl) (by simp) ?_
        refine TillAll.cons rfl (fun K hK => ?_) TillAll.nil
        have cv := KT4.out.text (cap := K4) (n := (plainBy T).length) rfl
        go_simp
        clear cv
        (refine hK.out _ _ (fun _ => HS.out) ?_; clear hK K)
        refine till_take (i := 6) (v := ?_) rfl (by kernel_rfl) (by kernel_rfl) (by kernel_rfl) (by kernel_rfl) (fun _ _ _ h => h) (Or.inl ⟨by kernel_rfl, ?_⟩) HS.out ?_
        rotate_left
        · (intro w' hSw; obtain ⟨⟨x0, x1, x2, x3, x4, x5, x6, x7⟩, y0, y1, y2, y3, y4, y5, y6, y7⟩ := hSw; go_simp; try with_reducible rfl)
        refine till_take (i := 7) (v := ?_) rfl (by kernel_rfl) (by kernel_rfl) (by kernel_rfl) (by kernel_rfl) (fun _ _ _ h => h) (Or.inl ⟨by kernel_rfl, ?_⟩) HS.out ?_
        rotate_left
        · (intro w' hSw; obtain ⟨⟨x0, x1, x2, x3, x4, x5, x6, x7⟩, y0, y1, y2, y3, y4, y5, y6, y7⟩ := hSw; go_simp; try with_reducible rfl)
        refine till_done (by kernel_rfl) ?_ _
        go_wp2_with fail
        go_ret
        exact ⟨rfl, HB.out.trans (HBz14.out.mono HB.out.size)⟩
      refine TillAll.cons rfl (fun K hK => ?_) TillAll.nil
      have cv := KT4.out.text (cap := K4) (n := (plainBy T).length) rfl
      go_simp
      clear cv
      (refine hK.out _ _ (fun _ => HS.out) ?_; clear hK K)
      refine till_ready (rs := [2]) (by kernel_rfl) (by simp) ?_
      refine TillAll.cons rfl (fun K hK => ?_) TillAll.nil
      have cv := KT1.out.text (cap := K1) (n := (plainBy T).length) rfl
      go_simp
      clear cv
      (refine hK.out _ _ (fun _ => HS.out) ?_; clear hK K)
      refine till_take (i := 6) (v := ?_) rfl (by kernel_rfl) (by kernel_rfl) (by kernel_rfl) (by kernel_rfl) (fun _ _ _ h => h) (Or.inl ⟨by kernel_rfl, ?_⟩) HS.out ?_
      rotate_left
      · (intro w' hSw; obtain ⟨⟨x0, x1, x2, x3, x4, x5, x6, x7⟩, y0, y1, y2, y3, y4, y5, y6, y7⟩ := hSw; go_simp; try with_reducible rfl)
      refine till_take (i := 7) (v := ?_) rfl (by kernel_rfl) (by kernel_rfl) (by kernel_rfl) (by kernel_rfl) (fun _ _ _ h => h) (Or.inl ⟨by kernel_rfl, ?_⟩) HS.out ?_
      rotate_left
      · (intro w' hSw; obtain ⟨⟨x0, x1, x2, x3, x4, x5, x6, x7⟩, y0, y1, y2, y3, y4, y5, y6, y7⟩ := hSw; go_simp; try with_reducible rfl)
      refine till_done (by kernel_rfl) ?_ _
      go_wp2_with fail
      go_ret
      exact ⟨rfl, HB.out.trans (HBz14.out.mono HB.out.size)⟩
end Go.Proofs.Ytabndfkkbmhhjaa
namespace Go.Proofs.Ytabndfkkbmhhjaa
set_option linter.unusedVariables false
set_option linter.unusedSimpArgs false
open Go.RowKit Go.Deep

theorem rc_of_sz {T : TTab} (h : szTab T ≤ 1048576) : Wide.rcTab T := by
  unfold szTab at h
  have k1 := szL_len (fun _ : Int => 0) T.keys
  have k2 := szL_len (fun l : List Int => szL (fun _ => 0) l) T.kinds
  have k3 := szL_len szRow T.states
  have k4 := szL_len szCode T.codes
  refine ⟨⟨by omega, fun _ _ => trivial⟩, ⟨by omega, fun l hl => ?_⟩, ⟨by omega, fun r hr => ?_⟩, ⟨by omega, fun c hc => ?_⟩⟩
  · have h1 := szL_mem (fun l : List Int => szL (fun _ => 0) l) hl
    have h2 := szL_len (fun _ : Int => 0) l
    exact ⟨by omega, fun _ _ => trivial⟩
  · have h1 := szL_mem szRow hr
    unfold szRow at h1 h k3
    have h2 := szL_len (fun _ : TStop => 0) r.bars
    have h3 := szL_len szTail r.ends
    refine ⟨⟨by omega, fun _ _ => trivial⟩, ⟨by omega, fun e he => ?_⟩⟩
    have h4 := szL_mem szTail he
    unfold szTail at h4 h1 h k3 h3
    have h5 := szL_len (fun _ : TStop => 0) e.bars
    exact ⟨by omega, fun _ _ => trivial⟩
  · have h1 := szL_mem szCode hc
    unfold szCode at h1 h k4
    have h2 := szL_len (fun _ : TInp => 0) c.inputs
    have h3 := szL_len (fun _ : TVal => 0) c.consts
    have h4 := szL_len (fun _ : TIns => 0) c.list
    exact ⟨⟨by omega, fun _ _ => trivial⟩, ⟨by omega, fun _ _ => trivial⟩, ⟨by omega, fun _ _ => trivial⟩⟩
theorem flat_len_le {α : Type} {f : α → List UInt8} {sz : α → Nat} (hf : ∀ x, (f x).length ≤ 100 * (sz x + 1)) (l : List α) : ((l.map f).flatten).length ≤ 100 * szL sz l := by
  induction l with
  | nil => simp [szL]
  | cons x l ih =>
    have h1 := hf x
    unfold szL at ih ⊢
    rw [List.map_cons, List.flatten_cons, List.length_append, List.map_cons, List.sum_cons]
    omega
theorem list_len_le {α : Type} {f : α → List UInt8} {sz : α → Nat} (hf : ∀ x, (f x).length ≤ 100 * (sz x + 1)) (l : List α) : (listBy f l).length ≤ 10 + 100 * szL sz l := by
  unfold listBy
  rw [List.length_append]
  have h1 := numsB_len [(l.length : Int)]
  have h2 := flat_len_le hf l
  simp only [List.length_cons, List.length_nil] at h1
  omega
theorem len_int (x : Int) : (intBy x).length ≤ 100 * (0 + 1) := by have h := numsB_len [x]; unfold intBy; simp only [List.length_cons, List.length_nil] at h; omega
theorem len_stop (x : TStop) : (stopBy x).length ≤ 100 * (0 + 1) := by have h := numsB_len [x.ty, x.gd]; unfold stopBy; simp only [List.length_cons, List.length_nil] at h; omega
theorem len_tail (x : TTail) : (tailBy x).length ≤ 100 * (szTail x + 1) := by
  have h := numsB_len [x.br, x.cl]
  have h2 := list_len_le (sz := fun _ => 0) len_stop x.bars
  unfold tailBy szTail
  rw [List.length_append]
  simp only [List.length_cons, List.length_nil] at h
  omega
theorem len_row (x : TRow) : (rowBy x).length ≤ 100 * (szRow x + 1) := by
  have h := numsB_len [x.par, x.ty, mInt x.many, x.win]
  have h1 := numsB_len [x.leave, x.guard]
  have h2 := list_len_le (sz := fun _ => 0) len_stop x.bars
  have h3 := list_len_le (sz := szTail) len_tail x.ends
  unfold rowBy szRow
  simp only [List.length_append]
  simp only [List.length_cons, List.length_nil] at h h1
  omega
theorem len_kind (l : List Int) : (listBy intBy l).length ≤ 100 * (szL (fun _ => 0) l + 1) := by
  have h2 := list_len_le (sz := fun _ => 0) len_int l
  omega
theorem len_inp (x : TInp) : (inpBy x).length ≤ 100 * (0 + 1) := by have h := numsB_len [x.op, x.kind, x.pos, x.attr]; unfold inpBy; simp only [List.length_cons, List.length_nil] at h; omega
theorem len_ins (x : TIns) : (insBy x).length ≤ 100 * (0 + 1) := by have h := numsB_len [x.op, x.dst, x.a, x.b]; unfold insBy; simp only [List.length_cons, List.length_nil] at h; omega
theorem len_val (x : TVal) : (valBy x).length ≤ 100 * (0 + 1) := by
  have h := numsB_len [x.kind]
  have h2 := (vb_len x.bits.toNat).2
  unfold valBy
  rw [List.length_append]
  simp only [List.length_cons, List.length_nil] at h
  omega
theorem len_code (x : TCode) : (codeBy x).length ≤ 100 * (szCode x + 1) := by
  have h := numsB_len [x.regs, x.slots]
  have h2 := list_len_le (sz := fun _ => 0) len_inp x.inputs
  have h3 := list_len_le (sz := fun _ => 0) len_val x.consts
  have h4 := list_len_le (sz := fun _ => 0) len_ins x.list
  unfold codeBy szCode
  simp only [List.length_append]
  simp only [List.length_cons, List.length_nil] at h
  omega
theorem len_tab {T : TTab} (h : szTab T ≤ 1048576) : (magicB ++ tabBy T).length ≤ 900000000 ∧ (plainBy T).length ≤ 1000000000 := by
  have h0 := plain_le T
  have h1 := numsB_len [T.strategy]
  have h2 := numsB_len [T.syms, T.runs, T.cells]
  have h3 := list_len_le (sz := fun _ => 0) len_int T.keys
  have h4 := list_len_le (sz := fun l : List Int => szL (fun _ => 0) l) len_kind T.kinds
  have h5 := list_len_le (sz := szRow) len_row T.states
  have h6 := list_len_le (sz := szCode) len_code T.codes
  have h7 : (tabBy T).length ≤ 200 + 100 * szTab T := by
    unfold tabBy szTab
    simp only [List.length_append]
    simp only [List.length_cons, List.length_nil] at h1 h2
    omega
  have hm : magicB.length = 4 := rfl
  rw [List.length_append, hm]
  omega
/-- what Encode tells of a table: bytes and a code -/
def EncR (T : TTab) (l : List UInt8) (ec : Int) : Prop :=
  (∃ b y, tabF (.wr magicB) T = some (.wr b, y) ∧ b.length + 4 ≤ 65536 ∧ l = b ++ sumBy b ∧ ec = 0) ∨ (∃ b y, tabF (.wr magicB) T = some (.wr b, y) ∧ 65536 < b.length + 4 ∧ l = [] ∧ ec = 2) ∨ (tabF (.wr magicB) T = none ∧ l = [] ∧ ec = 3)
theorem encr_same {T : TTab} {l m : List UInt8} {a b : Int} (h : EncR T l a) (k : EncR T m b) : m = l ∧ b = a := by
  rcases h with ⟨x, y, h1, h2, rfl, rfl⟩ | ⟨x, y, h1, h2, rfl, rfl⟩ | ⟨h1, rfl, rfl⟩ <;> rcases k with ⟨u, v, k1, k2, rfl, rfl⟩ | ⟨u, v, k1, k2, rfl, rfl⟩ | ⟨k1, rfl, rfl⟩ <;> rw [h1] at k1
  · simp only [Option.some.injEq, Prod.mk.injEq, FSt.wr.injEq] at k1
    rw [k1.1]; exact ⟨rfl, rfl⟩
  · simp only [Option.some.injEq, Prod.mk.injEq, FSt.wr.injEq] at k1
    rw [k1.1] at h2; omega
  · cases k1
  · simp only [Option.some.injEq, Prod.mk.injEq, FSt.wr.injEq] at k1
    rw [k1.1] at h2; omega
  · exact ⟨rfl, rfl⟩
  · cases k1
  · cases k1
  · cases k1
  · exact ⟨rfl, rfl⟩
theorem encr_img {T : TTab} {l : List UInt8} (hD : TabD T) (h : EncR T l 0) : IsImg T l := by
  rcases h with ⟨x, y, h1, h2, rfl, _⟩ | ⟨_, _, _, _, _, h⟩ | ⟨_, _, h⟩
  · exact img_made hD h1 h2
  · cases h
  · cases h
theorem encp_tab {T : TTab} {w w' : World} {e : Ending} (h : EncP T w e w') : ∃ (l : List UInt8) (A : Option Addr) (n c : Nat) (ec : Int), l.length = n ∧ e = .returned (.tuple #[.slice A n c, .int .i64 ec]) ∧ Reads w' w'.heap.size 1 A n (bv l) ∧ n ≤ c ∧ c ≤ 9223372036854775807 ∧ Below w.heap.size w w' ∧ EncR T l ec := by
  obtain ⟨hb, ⟨b, y, h1, ⟨h2, A, c, rfl, h3⟩ | ⟨h2, rfl⟩⟩ | ⟨h1, rfl⟩⟩ := h
  · have hl : (b ++ sumBy b).length = b.length + 4 := by rw [List.length_append]; rfl
    have hc := own_caps h3
    have hm := hc.2
    unfold maxLen at hm
    exact ⟨b ++ sumBy b, A, b.length + 4, c, 0, hl, rfl, Reads.of_own h3, hc.1, by omega, hb, .inl ⟨b, y, h1, h2, rfl, rfl⟩⟩
  · exact ⟨[], none, 0, 0, 2, rfl, rfl, Reads.none_, Nat.le_refl _, by decide, hb, .inr (.inl ⟨b, y, h1, h2, rfl, rfl⟩)⟩
  · exact ⟨[], none, 0, 0, 3, rfl, rfl, Reads.none_, Nat.le_refl _, by decide, hb, .inr (.inr ⟨h1, rfl, rfl⟩)⟩
theorem decp_img {l : List UInt8} {T : TTab} {w w' : World} {e : Ending} (hi : IsImg T l) (h : DecP l w e w') : ∃ vk vkk vs vc, e = .returned (.tuple #[.agg #[.int .i64 T.strategy, vk, vkk, .int .i64 T.syms, .int .i64 T.runs, .int .i64 T.cells, vs, vc], .int .i64 0]) ∧ TabX w' T vk vkk vs vc ∧ Below w.heap.size w w' := by
  obtain ⟨hb, ⟨y, vk, vkk, vs, vc, h1, rfl, h3⟩ | ⟨h1, _⟩⟩ := h
  · obtain rfl := img_one hi h1
    exact ⟨vk, vkk, vs, vc, rfl, h3, hb⟩
  · exact absurd hi (h1 T)
end Go.Proofs.Ytabndfkkbmhhjaa

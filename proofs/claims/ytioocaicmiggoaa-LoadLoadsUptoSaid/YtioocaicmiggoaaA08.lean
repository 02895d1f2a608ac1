/- Till, Fpt: texts merged for a claim by a program of mine. -/
import Derived.RegionTactic
import Derived.OrdersHeld
import Derived.Deep.RegionHeld
import Derived.Test.YtioocaicmiggoaaA07
namespace Go.Proofs.Ytioocaicmiggoaa
open Go
set_option linter.unusedVariables false
section
variable {P : Program} {ops : Array Oper} {Q : Exit → Act → World → Prop} {md : Region.Mode} {S : World → Prop} {ex : Nat → Bool}
def Till (P : Program) (md : Region.Mode) (ops : Array Oper) (Q : Exit → Act → World → Prop) (S : World → Prop) (ex : Nat → Bool) : Nat → Array Bool → Act → World → Prop
 | 0, listed, a, w => Region.ready md ops listed = [] ∧ Q .normal a w
 | f + 1, listed, a, w => (Region.ready md ops listed = [] → Q .normal a w) ∧
  ∀ j ∈ Region.ready md ops listed, wpOp P ops Q j (fun a' w' => (ex j = false → S w') ∧ Till P md ops Q S ex f (listed.setIfInBounds j true) a' w') a w
theorem till_any : ∀ (f : Nat) (listed : Array Bool) (a : Act) (w : World), Till P md ops Q S ex f listed a w → wpAny P md ops Q f listed a w
 | 0, _, _, _, h => h
 | f + 1, _, _, _, h => ⟨h.1, fun j hj => wpOp_mono (fun a' w' h' => till_any f _ a' w' h'.2) (h.2 j hj)⟩
def waitsB (md : Region.Mode) (ops : Array Oper) (ex : Nat → Bool) (listed : Array Bool) (i : Nat) : Bool :=
 (List.range ops.size).all fun j => j == i || listed.getD j true || !ex j || (match ops[j]? with | some o => o.after.any (fun e => Region.binds md e && e.on == i) | none => true)
theorem waits_of {listed : Array Bool} {i j : Nat} {o : Oper} (h : waitsB md ops ex listed i = true) (ho : ops[j]? = some o) (hji : j ≠ i) (hun : listed.getD j true = false) (he : ex j = true) : ∃ e ∈ o.after, Region.binds md e = true ∧ e.on = i := by
 unfold waitsB at h
 rw [List.all_eq_true] at h
 have h1 := h j (List.mem_range.2 (Array.getElem?_eq_some_iff.1 ho).1)
 simp only [ho, he, hun, Bool.not_true, Bool.or_false, Bool.or_eq_true, beq_iff_eq, hji, false_or] at h1
 obtain ⟨e, hm, h2⟩ := Array.any_eq_true'.1 h1
 rw [Bool.and_eq_true, beq_iff_eq] at h2
 exact ⟨e, hm, h2.1, h2.2⟩
theorem waits_set {listed : Array Bool} {i j : Nat} (h : waitsB md ops ex listed i = true) : waitsB md ops ex (listed.setIfInBounds j true) i = true := by
 unfold waitsB at h ⊢
 rw [List.all_eq_true] at h ⊢
 intro k hk
 have h1 := h k hk
 by_cases hjk : j = k
 ·subst hjk
  by_cases hl : j < listed.size
  ·simp [hl]
  ·rw [Array.setIfInBounds_eq_of_size_le (by omega)]; exact h1
 ·rw [getD_set_ne true hjk]; exact h1
theorem not_waits {listed : Array Bool} {i j : Nat} {o : Oper} (hi : i ∈ Region.ready md ops listed) (hj : j ∈ Region.ready md ops listed) (ho : ops[j]? = some o) : ∀ e ∈ o.after, Region.binds md e = true → e.on ≠ i := by
 intro e he hb heq
 obtain ⟨_, o', ho', hall⟩ := mem_ready.1 hj
 rw [ho] at ho'; injection ho' with ho'; subst ho'
 have h1 := hall e he hb
 have h0 := (mem_ready.1 hi).1
 rw [heq] at h1
 by_cases hl : i < listed.size
 ·simp [hl] at h0 h1
  rw [h0] at h1; cases h1
 ·simp [hl] at h1
theorem till_first {i : Nat} {oi : Oper} {v : Value} (hi : ops[i]? = some oi) (hsel : ∀ (j : Nat) (o : Oper) cs b, ops[j]? = some o → o.op ≠ .select cs b)
  (hQ : ∀ c a w, Q (.panic c) (a.put oi.dst v) w → Q (.panic c) a w) : ∀ (f : Nat) (listed : Array Bool) (a : Act) (w : World),
   (∀ j oj, ops[j]? = some oj → j ≠ i → listed.getD j true = false → (∀ e ∈ oj.after, Region.binds md e = true → e.on ≠ i) → oi.apart ops oj = true) →
   waitsB md ops ex listed i = true → i ∈ Region.ready md ops listed → YieldsIf P ops S oi v a → S w →
   Till P md ops Q S ex f (listed.setIfInBounds i true) (a.put oi.dst v) w → Till P md ops Q S ex (f + 1) listed a w := by
 intro f
 induction f with
 | zero =>
  intro listed a w _ _ hr hy hS H
  refine ⟨fun h => (by rw [h] at hr; cases hr), fun j hj => ?_⟩
  by_cases hji : j = i
  ·subst hji; exact hy.wpOp hi hS ⟨fun _ => hS, H⟩
  ·have h1 := ready_mono hj hji
   rw [H.1] at h1; cases h1
 | succ f ih =>
  intro listed a w hfree hwait hr hy hS H
  refine ⟨fun h => (by rw [h] at hr; cases hr), fun j hj => ?_⟩
  by_cases hji : j = i
  ·subst hji; exact hy.wpOp hi hS ⟨fun _ => hS, H⟩
  ·obtain ⟨hun, oj, hoj, _⟩ := mem_ready.1 hj
   have hnot := not_waits hr hj hoj
   have hexj : ex j = false := by
    cases hx : ex j with
    | false => rfl
    | true =>
     obtain ⟨e, he, hb, heq⟩ := waits_of hwait hoj hji hun hx
     exact absurd heq (hnot e he hb)
   have h2 := wpOp_putIf hoj (hfree j oj hoj hji hun hnot) (fun cs b => hsel i oi cs b hi) (fun cs b => hsel j oj cs b hoj) hQ hy (H.2 j (ready_mono hj hji))
   refine wpOp_mono (fun a' w' h3 => ⟨h3.2.1, ih _ a' w' (fun k ok hk hki hunk hno => hfree k ok hk hki ?_ hno) (waits_set hwait) (ready_mono hr (Ne.symm hji)) h3.1 (h3.2.1 hexj) ?_⟩) h2
   ·by_cases hjk : j = k
    ·subst hjk; exact hun
    ·rw [getD_set_ne true hjk] at hunk; exact hunk
   ·rw [Array.setIfInBounds_comm _ _ hji]; exact h3.2.2
theorem till_take {i : Nat} {oi : Oper} {v : Value} {f : Nat} {listed : Array Bool} {a : Act} {w : World} (hi : ops[i]? = some oi) (hs : Region.noSelect ops = true) (hf : Region.free md ops listed i = true) (hr : (Region.ready md ops listed).contains i = true)
  (hw : waitsB md ops ex listed i = true) (hQ : ∀ c a w, Q (.panic c) (a.put oi.dst v) w → Q (.panic c) a w) (hy : YieldsIf P ops S oi v a) (hS : S w)
  (h : Till P md ops Q S ex f (listed.setIfInBounds i true) (a.put oi.dst v) w) : Till P md ops Q S ex (f + 1) listed a w :=
 till_first hi (Region.noSelect_spec hs) hQ f listed a w (Region.free_spec hi hf) hw (by simpa using hr) hy hS h
theorem till_pure1 {i : Nat} {oi : Oper} {v : Value} (hi : ops[i]? = some oi) (hex : ex i = true) (hsel : ∀ (j : Nat) (o : Oper) cs b, ops[j]? = some o → o.op ≠ .select cs b)
  (hQ : ∀ c a w, Q (.panic c) (a.put oi.dst v) w → Q (.panic c) a w) : ∀ (f : Nat) (listed : Array Bool) (a : Act) (w : World),
   (∀ j oj, ops[j]? = some oj → j ≠ i → listed.getD j true = false → (∀ e ∈ oj.after, Region.binds md e = true → e.on ≠ i) → oi.apart ops oj = true) →
   i ∈ Region.ready md ops listed → YieldsIf P ops (fun _ => True) oi v a →
   Till P md ops Q S ex f (listed.setIfInBounds i true) (a.put oi.dst v) w → Till P md ops Q S ex (f + 1) listed a w := by
 intro f
 induction f with
 | zero =>
  intro listed a w _ hr hy H
  refine ⟨fun h => (by rw [h] at hr; cases hr), fun j hj => ?_⟩
  by_cases hji : j = i
  ·subst hji; exact hy.wpOp hi trivial ⟨fun h => (by rw [hex] at h; cases h), H⟩
  ·have h1 := ready_mono hj hji
   rw [H.1] at h1; cases h1
 | succ f ih =>
  intro listed a w hfree hr hy H
  refine ⟨fun h => (by rw [h] at hr; cases hr), fun j hj => ?_⟩
  by_cases hji : j = i
  ·subst hji; exact hy.wpOp hi trivial ⟨fun h => (by rw [hex] at h; cases h), H⟩
  ·obtain ⟨hun, oj, hoj, _⟩ := mem_ready.1 hj
   have hnot := not_waits hr hj hoj
   have h2 := wpOp_putIf hoj (hfree j oj hoj hji hun hnot) (fun cs b => hsel i oi cs b hi) (fun cs b => hsel j oj cs b hoj) hQ hy (H.2 j (ready_mono hj hji))
   refine wpOp_mono (fun a' w' h3 => ⟨h3.2.1, ih _ a' w' (fun k ok hk hki hunk hno => hfree k ok hk hki ?_ hno) (ready_mono hr (Ne.symm hji)) h3.1 ?_⟩) h2
   ·by_cases hjk : j = k
    ·subst hjk; exact hun
    ·rw [getD_set_ne true hjk] at hunk; exact hunk
   ·rw [Array.setIfInBounds_comm _ _ hji]; exact h3.2.2
theorem till_pure {i : Nat} {oi : Oper} {v : Value} {f : Nat} {listed : Array Bool} {a : Act} {w : World} (hi : ops[i]? = some oi) (hs : Region.noSelect ops = true) (hf : Region.free md ops listed i = true) (hr : (Region.ready md ops listed).contains i = true)
  (hex : ex i = true) (hQ : ∀ c a w, Q (.panic c) (a.put oi.dst v) w → Q (.panic c) a w) (hy : YieldsIf P ops (fun _ => True) oi v a)
  (h : Till P md ops Q S ex f (listed.setIfInBounds i true) (a.put oi.dst v) w) : Till P md ops Q S ex (f + 1) listed a w :=
 till_pure1 hi hex (Region.noSelect_spec hs) hQ f listed a w (Region.free_spec hi hf) (by simpa using hr) hy h
def TillAll (P : Program) (md : Region.Mode) (ops : Array Oper) (Q : Exit → Act → World → Prop) (S : World → Prop) (ex : Nat → Bool) (f : Nat) (listed : Array Bool) (a : Act) (w : World) (rs : List Nat) : Prop :=
 ∀ j ∈ rs, wpOp P ops Q j (fun a' w' => (ex j = false → S w') ∧ Till P md ops Q S ex f (listed.setIfInBounds j true) a' w') a w
theorem TillAll.nil {f : Nat} {listed : Array Bool} {a : Act} {w : World} : TillAll P md ops Q S ex f listed a w [] := fun _ h => by cases h
theorem TillAll.cons {f : Nat} {listed : Array Bool} {a : Act} {w : World} {i : Nat} {o : Oper} {rs : List Nat} (ho : ops[i]? = some o)
  (h : ∀ K' : Act → World → Prop, Shut (∀ a w, (ex i = false → S w) → Till P md ops Q S ex f (listed.setIfInBounds i true) a w → K' a w) → if Region.wanted o (yielded ops a.tmps) = true then Oper.wp P o a w K' Q else K' (a.put o.dst undef) w)
  (hs : TillAll P md ops Q S ex f listed a w rs) : TillAll P md ops Q S ex f listed a w (i :: rs) := fun j hj => by
 rcases List.mem_cons.1 hj with rfl | hj
 ·exact wpOp_step ho (fun K' hK => h K' (fun a w h1 h2 => hK a w ⟨h1, h2⟩))
 ·exact hs j hj
theorem till_ready {rs : List Nat} {f : Nat} {listed : Array Bool} {a : Act} {w : World} (hr : Region.ready md ops listed = rs) (hne : rs ≠ []) (h : TillAll P md ops Q S ex f listed a w rs) : Till P md ops Q S ex (f + 1) listed a w :=
 ⟨fun h0 => absurd (hr ▸ h0) hne, fun j hj => h j (hr ▸ hj)⟩
theorem till_done {listed : Array Bool} {a : Act} {w : World} (hr : Region.ready md ops listed = []) (h : Q .normal a w) : ∀ f, Till P md ops Q S ex f listed a w
 | 0 => ⟨hr, h⟩
 | f + 1 => ⟨fun _ => h, fun j hj => by rw [hr] at hj; cases hj⟩
theorem region_till {id : Nat} {a : Act} {w : World} (S : World → Prop) (ex : Nat → Bool) (hm : P.follows .mixedOrders = true) (h : Till P .any ops Q S ex ops.size (Array.replicate ops.size false) a w.drew) : (Code.region id ops true).wp P Q a w :=
 wp_region_any hm (till_any _ _ _ _ h)
end
end Go.Proofs.Ytioocaicmiggoaa
namespace Go.Proofs.Ytioocaicmiggoaa
set_option linter.unusedVariables false
set_option linter.unusedSimpArgs false
open Go.RowKit Go.Deep
theorem slq_next {α : Type} {B F tb base base0 : Nat} {R : (Nat → Prop) → World → List Value → α → Prop} {w4 w5 : World} {v : Value} {xs : List α} (h : SlQ (FreshQ base w4) F (R (FreshQ base w4)) w4 v xs) (hR : KeepsQ R) (fr : Fr B tb w4 w5) (htb : tb < base) (hb : base0 ≤ base) : SlQ (FreshQ base0 w5) F (R (FreshQ base0 w5)) w5 v xs := by
 have k : KeepQ (FreshQ base w4) w4 w5 := fun p u ⟨h1, t, cs, h3, h4⟩ hp => by
  have h5 := fr.2 p.block t cs (by omega) h4 h3
  exact (World.cell?_of_block (h5.trans h3.symm)).trans hp
 have q : ∀ b, FreshQ base w4 b → FreshQ base0 w5 b := fun b ⟨h1, t, cs, h3, h4⟩ => ⟨by omega, t, cs, fr.2 b t cs (by omega) h4 h3, h4⟩
 exact h.keep k q fun cs x hx => hR _ _ _ _ _ _ hx k q
theorem slq_old {α : Type} {B F tb : Nat} {R : (Nat → Prop) → World → List Value → α → Prop} {w w5 : World} {v : Value} {xs : List α} (h : SlQ (· < B) F (R (· < B)) w v xs) (hR : KeepsQ R) (fr : Fr B tb w w5) : SlQ (· < B) F (R (· < B)) w5 v xs := by
 have k : KeepQ (· < B) w w5 := KeepQ.of_below fr.1 fun b hb => hb
 exact h.keep k (fun _ h => h) fun cs x hx => hR _ _ _ _ _ _ hx k fun _ h => h
theorem FlX.drew {B F : Nat} {w : World} {st : FSt} (h : FlX B w F st) : FlX B w.drew F st := by cases st <;> exact h
theorem Fr.drew (B tb : Nat) (w : World) : Fr B tb w w.drew := ⟨⟨rfl, rfl, rfl, Nat.le_refl _, fun _ _ => rfl⟩, fun _ _ _ _ _ h => h⟩
def CapC (gB F : Nat) (g : Nat) (w : World) : Prop := gB ≠ g ∧ Blk w gB 105 #[.pointer (some ⟨F, 0, none⟩)]
theorem hot_pf : ¬ hot 105 := by unfold hot; decide
theorem capC_list {gB F tb B : Nat} {w : World} (hne : gB ≠ tb) (hlt : gB < w.heap.size) : ∀ b w1 w2, b = tb ∨ w.heap.size ≤ b → Fr B b w1 w2 → (∀ g, g = tb ∨ w.heap.size ≤ g → CapC gB F g w1 → CapC gB F g w2) := fun b w1 w2 hb fr g _ h =>
 ⟨h.1, fr.2 gB _ _ (by rcases hb with rfl | hb; exact hne; omega) hot_pf h.2⟩
theorem capC_new {gB F : Nat} {w : World} (h : Blk w gB 105 #[.pointer (some ⟨F, 0, none⟩)]) : ∀ g, w.heap.size ≤ g → CapC gB F g w := fun g hg => ⟨by have := h.lt; omega, h⟩
def noCap (_ : Nat) (_ : World) : Prop := True
theorem noCap_list {tb B : Nat} {w : World} : ∀ b w1 w2, b = tb ∨ w.heap.size ≤ b → Fr B b w1 w2 → (∀ g, g = tb ∨ w.heap.size ≤ g → noCap g w1 → noCap g w2) := fun _ _ _ _ _ _ _ _ => trivial
theorem noCap_new {w : World} : ∀ g, w.heap.size ≤ g → noCap g w := fun _ _ => trivial
theorem len1 {l : List Int} (h : l.length = 1) : l = [l.getD 0 0] := by match l, h with | [a], _ => rfl
theorem len2 {l : List Int} (h : l.length = 2) : l = [l.getD 0 0, l.getD 1 0] := by match l, h with | [a, b], _ => rfl
theorem len3 {l : List Int} (h : l.length = 3) : l = [l.getD 0 0, l.getD 1 0, l.getD 2 0] := by match l, h with | [a, b, c], _ => rfl
theorem len4 {l : List Int} (h : l.length = 4) : l = [l.getD 0 0, l.getD 1 0, l.getD 2 0, l.getD 3 0] := by match l, h with | [a, b, c, d], _ => rfl
theorem runs_wf {ns : List Int} {st st' : FSt} {ys : List Int} (h : runL num st ns = some (st', ys)) (k : Nat) : wfi (ys.getD k 0) := by
 rcases hk : ys[k]? with _ | y
 ·simp [List.getD, hk]; unfold wfi; decide
 ·simp [List.getD, hk]; exact numOk_wf (runs_ok h y (List.mem_of_getElem? hk))
theorem keeps_int : KeepsQ (fun _ => IntC) := fun _ _ _ _ _ _ h _ _ => h
theorem keeps_stop : KeepsQ (fun _ => StopC) := fun _ _ _ _ _ _ h _ _ => h
theorem keeps_inp : KeepsQ (fun _ => InpC) := fun _ _ _ _ _ _ h _ _ => h
theorem keeps_val : KeepsQ (fun _ => ValC) := fun _ _ _ _ _ _ h _ _ => h
theorem keeps_ins : KeepsQ (fun _ => InsC) := fun _ _ _ _ _ _ h _ _ => h
def intF (st : FSt) (x : Int) : Option (FSt × Int) := (runL num st [x]).bind fun p => some (p.1, p.2.getD 0 0)
def stopF (st : FSt) (x : TStop) : Option (FSt × TStop) := (runL num st [x.ty, x.gd]).bind fun p => some (p.1, ⟨p.2.getD 0 0, p.2.getD 1 0⟩)
def zStop : TStop := ⟨0, 0⟩
def tailF (st : FSt) (x : TTail) : Option (FSt × TTail) := (runL num st [x.br, x.cl]).bind fun p => (listF stopF zStop p.1 x.bars).bind fun q => some (q.1, ⟨p.2.getD 0 0, p.2.getD 1 0, q.2⟩)
def zTail : TTail := ⟨0, 0, []⟩
def rowF (st : FSt) (x : TRow) : Option (FSt × TRow) := (runL num st [x.par, x.ty]).bind fun p1 => (flagF p1.1 x.many).bind fun p2 => (num p2.1 x.win).bind fun p3 => (listF stopF zStop p3.1 x.bars).bind fun p4 => (runL num p4.1 [x.leave, x.guard]).bind fun p5 => (listF tailF zTail p5.1 x.ends).bind fun p6 =>
 some (p6.1, ⟨p1.2.getD 0 0, p1.2.getD 1 0, p2.2, p3.2, p4.2, p5.2.getD 0 0, p5.2.getD 1 0, p6.2⟩)
def zRow : TRow := ⟨0, 0, false, 0, [], 0, 0, []⟩
def inpF (st : FSt) (x : TInp) : Option (FSt × TInp) := (runL num st [x.op, x.kind, x.pos, x.attr]).bind fun p => some (p.1, ⟨p.2.getD 0 0, p.2.getD 1 0, p.2.getD 2 0, p.2.getD 3 0⟩)
def zInp : TInp := ⟨0, 0, 0, 0⟩
def valF (st : FSt) (x : TVal) : Option (FSt × TVal) := (runL num st [x.kind]).bind fun p => (bitsF p.1 x.bits).bind fun q => some (q.1, ⟨p.2.getD 0 0, q.2⟩)
def zVal : TVal := ⟨0, 0⟩
def insF (st : FSt) (x : TIns) : Option (FSt × TIns) := (runL num st [x.op, x.dst, x.a, x.b]).bind fun p => some (p.1, ⟨p.2.getD 0 0, p.2.getD 1 0, p.2.getD 2 0, p.2.getD 3 0⟩)
def zIns : TIns := ⟨0, 0, 0, 0⟩
def codeF (st : FSt) (x : TCode) : Option (FSt × TCode) := (runL num st [x.regs, x.slots]).bind fun p1 => (listF inpF zInp p1.1 x.inputs).bind fun p2 => (listF valF zVal p2.1 x.consts).bind fun p3 => (listF insF zIns p3.1 x.list).bind fun p4 => some (p4.1, ⟨p1.2.getD 0 0, p1.2.getD 1 0, p2.2, p3.2, p4.2⟩)
def zCode : TCode := ⟨0, 0, [], [], []⟩
def tabF (st : FSt) (x : TTab) : Option (FSt × TTab) := (runL num st [x.strategy]).bind fun p1 => (listF intF 0 p1.1 x.keys).bind fun p2 => (listF (listF intF 0) [] p2.1 x.kinds).bind fun p3 => (runL num p3.1 [x.syms, x.runs, x.cells]).bind fun p4 => (listF rowF zRow p4.1 x.states).bind fun p5 => (listF codeF zCode p5.1 x.codes).bind fun p6 =>
 some (p6.1, ⟨p1.2.getD 0 0, p2.2, p3.2, p4.2.getD 0 0, p4.2.getD 1 0, p4.2.getD 2 0, p5.2, p6.2⟩)
def TabQ (Q : Nat → Prop) (w : World) (cs : List Value) (x : TTab) : Prop :=
 ∃ vk vkk vs vc, cs = [.int .i64 x.strategy, vk, vkk, .int .i64 x.syms, .int .i64 x.runs, .int .i64 x.cells, vs, vc] ∧ SlQ Q 1 IntC w vk x.keys ∧ SlQ Q 1 (IntsQ Q) w vkk x.kinds ∧ SlQ Q 8 (RowQ Q) w vs x.states ∧ SlQ Q 5 (CodeQ Q) w vc x.codes ∧ wfi x.strategy ∧ wfi x.syms ∧ wfi x.runs ∧ wfi x.cells
theorem slq_cell {α : Type} {Q : Nat → Prop} {F : Nat} {R : World → List Value → α → Prop} {w : World} {v : Value} {xs : List α} (h : SlQ Q F R w v xs) : v.oneCell' = true := by obtain ⟨A, c, rfl, _⟩ := h; rfl
theorem onec_K : ∀ (Q : Nat → Prop) w cs x, (fun _ => IntC) Q w cs x → ∀ u ∈ cs, u.oneCell' = true := by rintro Q w cs x ⟨rfl, _⟩ u hu; simp at hu; subst hu; rfl
theorem onec_J : ∀ (Q : Nat → Prop) w cs x, (fun _ => IntC) Q w cs x → ∀ u ∈ cs, u.oneCell' = true := onec_K
theorem onec_T : ∀ (Q : Nat → Prop) w cs x, (fun _ => StopC) Q w cs x → ∀ u ∈ cs, u.oneCell' = true := by rintro Q w cs x ⟨rfl, _⟩ u hu; simp at hu; rcases hu with rfl | rfl <;> rfl
theorem onec_I : ∀ (Q : Nat → Prop) w cs x, (fun _ => InpC) Q w cs x → ∀ u ∈ cs, u.oneCell' = true := by rintro Q w cs x ⟨rfl, _⟩ u hu; simp at hu; rcases hu with rfl | rfl | rfl | rfl <;> rfl
theorem onec_N : ∀ (Q : Nat → Prop) w cs x, (fun _ => InsC) Q w cs x → ∀ u ∈ cs, u.oneCell' = true := by rintro Q w cs x ⟨rfl, _⟩ u hu; simp at hu; rcases hu with rfl | rfl | rfl | rfl <;> rfl
theorem onec_V : ∀ (Q : Nat → Prop) w cs x, (fun _ => ValC) Q w cs x → ∀ u ∈ cs, u.oneCell' = true := by rintro Q w cs x ⟨rfl, _⟩ u hu; simp at hu; rcases hu with rfl | rfl <;> rfl
theorem onec_G : ∀ (Q : Nat → Prop) w cs x, IntsQ Q w cs x → ∀ u ∈ cs, u.oneCell' = true := by rintro Q w cs x ⟨v, rfl, h⟩ u hu; simp at hu; subst hu; exact slq_cell h
theorem onec_E : ∀ (Q : Nat → Prop) w cs x, TailQ Q w cs x → ∀ u ∈ cs, u.oneCell' = true := by rintro Q w cs x ⟨v, rfl, h, _⟩ u hu; simp at hu; rcases hu with rfl | rfl | rfl; rfl; rfl; exact slq_cell h
theorem onec_R : ∀ (Q : Nat → Prop) w cs x, RowQ Q w cs x → ∀ u ∈ cs, u.oneCell' = true := by rintro Q w cs x ⟨vb, ve, rfl, h, k, _⟩ u hu; simp at hu; rcases hu with rfl | rfl | rfl | rfl | rfl | rfl | rfl | rfl; rfl; rfl; rfl; rfl; exact slq_cell h; rfl; rfl; exact slq_cell k
theorem onec_C : ∀ (Q : Nat → Prop) w cs x, CodeQ Q w cs x → ∀ u ∈ cs, u.oneCell' = true := by rintro Q w cs x ⟨vi, vc, vl, rfl, h, k, l, _⟩ u hu; simp at hu; rcases hu with rfl | rfl | rfl | rfl | rfl; rfl; rfl; exact slq_cell h; exact slq_cell k; exact slq_cell l
theorem zero_K : ∀ (Q : Nat → Prop) w, (fun _ => IntC) Q w [Value.int .i64 0] (0 : Int) := fun _ _ => ⟨rfl, by unfold wfi; decide⟩
theorem zero_J : ∀ (Q : Nat → Prop) w, (fun _ => IntC) Q w [Value.int .i64 0] (0 : Int) := zero_K
theorem zero_G : ∀ (Q : Nat → Prop) w, IntsQ Q w [Value.slice none 0 0] ([] : List Int) := fun _ _ => ⟨_, rfl, SlQ.nil _ _ _⟩
theorem zero_T : ∀ (Q : Nat → Prop) w, (fun _ => StopC) Q w [Value.int .i64 0, Value.int .i64 0] zStop := fun _ _ => ⟨rfl, by unfold wfi; decide, by unfold wfi; decide⟩
theorem zero_I : ∀ (Q : Nat → Prop) w, (fun _ => InpC) Q w [Value.int .i64 0, Value.int .i64 0, Value.int .i64 0, Value.int .i64 0] zInp := fun _ _ => ⟨rfl, by unfold wfi; decide, by unfold wfi; decide, by unfold wfi; decide, by unfold wfi; decide⟩
theorem zero_N : ∀ (Q : Nat → Prop) w, (fun _ => InsC) Q w [Value.int .i64 0, Value.int .i64 0, Value.int .i64 0, Value.int .i64 0] zIns := fun _ _ => ⟨rfl, by unfold wfi; decide, by unfold wfi; decide, by unfold wfi; decide, by unfold wfi; decide⟩
theorem zero_V : ∀ (Q : Nat → Prop) w, (fun _ => ValC) Q w [Value.int .i64 0, Value.int .u64 0] zVal := fun _ _ => ⟨rfl, by unfold wfi; decide, by unfold wfu; decide⟩
theorem zero_E : ∀ (Q : Nat → Prop) w, TailQ Q w [Value.int .i64 0, Value.int .i64 0, Value.slice none 0 0] zTail := fun _ _ => ⟨_, rfl, SlQ.nil _ _ _, by unfold wfi; decide, by unfold wfi; decide⟩
theorem zero_R : ∀ (Q : Nat → Prop) w, RowQ Q w [Value.int .i64 0, Value.int .i64 0, Value.bool false, Value.int .i64 0, Value.slice none 0 0, Value.int .i64 0, Value.int .i64 0, Value.slice none 0 0] zRow := fun _ _ => ⟨_, _, rfl, SlQ.nil _ _ _, SlQ.nil _ _ _, by unfold wfi; decide, by unfold wfi; decide, by unfold wfi; decide, by unfold wfi; decide, by unfold wfi; decide⟩
theorem zero_C : ∀ (Q : Nat → Prop) w, CodeQ Q w [Value.int .i64 0, Value.int .i64 0, Value.slice none 0 0, Value.slice none 0 0, Value.slice none 0 0] zCode := fun _ _ => ⟨_, _, _, rfl, SlQ.nil _ _ _, SlQ.nil _ _ _, SlQ.nil _ _ _, by unfold wfi; decide, by unfold wfi; decide⟩
def zTab : TTab := ⟨0, [], [], 0, 0, 0, [], []⟩
theorem fine_bind {α β : Type} {o : Option (FSt × β)} {f : FSt × β → Option (FSt × α)} {st st' : FSt} {y : α} {C D : Nat} (h : o.bind f = some (st', y)) (h1 : ∀ s z, o = some (s, z) → s.room ≤ st.room + C ∧ st.kin s) (h2 : ∀ s z, f (s, z) = some (st', y) → st'.room ≤ s.room + D ∧ s.kin st') : st'.room ≤ st.room + (C + D) ∧ st.kin st' := by
 cases o with
 | none => cases h
 | some p =>
  obtain ⟨s, z⟩ := p
  obtain ⟨a1, a2⟩ := h1 s z rfl
  obtain ⟨b1, b2⟩ := h2 s z h
  exact ⟨by omega, kin_trans a2 b2⟩
theorem fine_runs {st s : FSt} {ns ys : List Int} {k : Nat} (hk : ns.length = k) (h : runL num st ns = some (s, ys)) : s.room ≤ st.room + 10 * k ∧ st.kin s := by
 obtain ⟨a, b, _⟩ := fine_run fine_num _ _ _ _ h
 subst hk
 exact ⟨a, b⟩
theorem fine_end {α : Type} {s st' : FSt} {z y : α} (h : some (s, z) = some (st', y)) : st'.room ≤ s.room + 0 ∧ s.kin st' := by cases h; exact ⟨by omega, kin_refl _⟩
theorem fine_int : Fine intF 10 := fun st x st' y h => fine_bind (C := 10) (D := 0) h (fun s z h => fine_runs rfl h) fun s z h => fine_end h
theorem fine_stop : Fine stopF 20 := fun st x st' y h => fine_bind (C := 20) (D := 0) h (fun s z h => fine_runs rfl h) fun s z h => fine_end h
theorem fine_inp : Fine inpF 40 := fun st x st' y h => fine_bind (C := 40) (D := 0) h (fun s z h => fine_runs rfl h) fun s z h => fine_end h
theorem fine_ins : Fine insF 40 := fun st x st' y h => fine_bind (C := 40) (D := 0) h (fun s z h => fine_runs rfl h) fun s z h => fine_end h
theorem fine_val : Fine valF 20 := fun st x st' y h => fine_bind (C := 10) (D := 10) h (fun s z h => fine_runs rfl h) fun s z h => fine_bind (C := 10) (D := 0) h (fun s z h => fine_bits _ _ _ _ h) fun s z h => fine_end h
theorem fine_tail : Fine tailF (20 + (10 + 20 * 1024)) := fun st x st' y h => fine_bind (C := 20) (D := 10 + 20 * 1024) h (fun s z h => fine_runs rfl h) fun s z h => fine_bind (C := 10 + 20 * 1024) (D := 0) h (fun s z h => fine_list fine_stop _ _ _ _ h) fun s z h => fine_end h
theorem fine_row : Fine rowF 21600000 := fun st x st' y h => by
 have h := fine_bind (C := 20) (D := 21599980) h (fun s z h => fine_runs rfl h) fun s z h => fine_bind (C := 10) (D := 21599970) h (fun s z h => fine_flag _ _ _ _ h) fun s z h => fine_bind (C := 10) (D := 21599960) h (fun s z h => fine_num _ _ _ _ h) fun s z h => fine_bind (C := 10 + 20 * 1024) (D := 21579470) h (fun s z h => fine_list fine_stop _ _ _ _ h)
  fun s z h => fine_bind (C := 20) (D := 21579450) h (fun s z h => fine_runs rfl h) fun s z h => fine_bind (C := 21579450) (D := 0) h (fun s z h => by have := fine_list (zero := zTail) fine_tail _ _ _ _ h; exact ⟨Nat.le_trans this.1 (Nat.add_le_add_left (by decide) _), this.2⟩) fun s z h => fine_end h
 exact h
theorem fine_code : Fine codeF 200000 := fun st x st' y h => by
 have h := fine_bind (C := 20) (D := 199980) h (fun s z h => fine_runs rfl h) fun s z h => fine_bind (C := 10 + 40 * 1024) (D := 159010) h (fun s z h => fine_list fine_inp _ _ _ _ h) fun s z h => fine_bind (C := 10 + 20 * 1024) (D := 138520) h (fun s z h => fine_list fine_val _ _ _ _ h)
  fun s z h => fine_bind (C := 138520) (D := 0) h (fun s z h => by have := fine_list (zero := zIns) fine_ins _ _ _ _ h; exact ⟨Nat.le_trans this.1 (Nat.add_le_add_left (by decide) _), this.2⟩) fun s z h => fine_end h
 exact h
end Go.Proofs.Ytioocaicmiggoaa

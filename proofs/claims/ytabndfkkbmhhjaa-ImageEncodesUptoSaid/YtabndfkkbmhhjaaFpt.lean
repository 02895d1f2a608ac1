/-
  What a flow's function over several fields wants: what lies in memory while it goes from field to field, and the plain words of the elements.
-/
import Derived.Test.YtabndfkkbmhhjaaFls
import Derived.Test.YtabndfkkbmhhjaaTill
namespace Go.Proofs.Ytabndfkkbmhhjaa
set_option linter.unusedVariables false
set_option linter.unusedSimpArgs false
open Go.RowKit Go.Deep

theorem slq_next {α : Type} {B F tb base base0 : Nat} {R : (Nat → Prop) → World → List Value → α → Prop} {w4 w5 : World} {v : Value} {xs : List α} (h : SlQ (FreshQ base w4) F (R (FreshQ base w4)) w4 v xs) (hR : KeepsQ R) (fr : Fr B tb w4 w5) (htb : tb < base) (hb : base0 ≤ base) : SlQ (FreshQ base0 w5) F (R (FreshQ base0 w5)) w5 v xs := by
  have k : KeepQ (FreshQ base w4) w4 w5 := fun p u ⟨h1, t, cs, h3, h4⟩ hp => by
    have h5 := fr.2 p.block t cs (by omega) h4 h3
    exact (World.cell?_of_block (h5.trans h3.symm)).trans hp
  have q : ∀ b, FreshQ base w4 b → FreshQ base0 w5 b := fun b ⟨h1, t, cs, h3, h4⟩ => ⟨by omega, t, cs, fr.2 b t cs (by omega) h4 h3, h4⟩
  exact h.keep k q fun cs x hx => hR _ _ _ _ _ _ hx k q
theorem slq_old {α : Type} {B F tb : Nat} {R : (Nat → Prop) → World → List Value → α → Prop} {w w5 : World} {v : Value} {xs : List α} (h : SlQ (· < B) F (R (· < B)) w v xs) (hR : KeepsQ R) (fr : Fr B tb w w5) : SlQ (· < B) F (R (· < B)) w5 v xs := by
  have k : KeepQ (· < B) w w5 := KeepQ.of_below fr.1 fun b hb => hb
  exact h.keep k (fun _ h => h) fun cs x hx => hR _ _ _ _ _ _ hx k fun _ h => h
theorem FlX.drew {B F : Nat} {w : World} {st : FSt} (h : FlX B w F st) : FlX B w.drew F st := by cases st <;> exact h
theorem Fr.drew (B tb : Nat) (w : World) : Fr B tb w w.drew := ⟨⟨rfl, rfl, rfl, Nat.le_refl _, fun _ _ => rfl⟩, fun _ _ _ _ _ h => h⟩
/-- the box in which a closure finds the flow -/
def CapC (gB F : Nat) (g : Nat) (w : World) : Prop := gB ≠ g ∧ Blk w gB 59 #[.pointer (some ⟨F, 0, none⟩)]
theorem hot_pf : ¬ hot 59 := by unfold hot; decide
theorem capC_list {gB F tb B : Nat} {w : World} (hne : gB ≠ tb) (hlt : gB < w.heap.size) : ∀ b w1 w2, b = tb ∨ w.heap.size ≤ b → Fr B b w1 w2 → (∀ g, g = tb ∨ w.heap.size ≤ g → CapC gB F g w1 → CapC gB F g w2) := fun b w1 w2 hb fr g _ h =>
  ⟨h.1, fr.2 gB _ _ (by rcases hb with rfl | hb; exact hne; omega) hot_pf h.2⟩
theorem capC_new {gB F : Nat} {w : World} (h : Blk w gB 59 #[.pointer (some ⟨F, 0, none⟩)]) : ∀ g, w.heap.size ≤ g → CapC gB F g w := fun g hg => ⟨by have := h.lt; omega, h⟩
def noCap (_ : Nat) (_ : World) : Prop := True
theorem noCap_list {tb B : Nat} {w : World} : ∀ b w1 w2, b = tb ∨ w.heap.size ≤ b → Fr B b w1 w2 → (∀ g, g = tb ∨ w.heap.size ≤ g → noCap g w1 → noCap g w2) := fun _ _ _ _ _ _ _ _ => trivial
theorem noCap_new {w : World} : ∀ g, w.heap.size ≤ g → noCap g w := fun _ _ => trivial
theorem len1 {l : List Int} (h : l.length = 1) : l = [l.getD 0 0] := by match l, h with | [a], _ => rfl
theorem len2 {l : List Int} (h : l.length = 2) : l = [l.getD 0 0, l.getD 1 0] := by match l, h with | [a, b], _ => rfl
theorem len3 {l : List Int} (h : l.length = 3) : l = [l.getD 0 0, l.getD 1 0, l.getD 2 0] := by match l, h with | [a, b, c], _ => rfl
theorem len4 {l : List Int} (h : l.length = 4) : l = [l.getD 0 0, l.getD 1 0, l.getD 2 0, l.getD 3 0] := by match l, h with | [a, b, c, d], _ => rfl
theorem runs_wf {ns : List Int} {st st' : FSt} {ys : List Int} (h : runL num st ns = some (st', ys)) (k : Nat) : wfi (ys.getD k 0) := by
  rcases hk : ys[k]? with _ | y
  · simp [List.getD, hk]; unfold wfi; decide
  · simp [List.getD, hk]; exact numOk_wf (runs_ok h y (List.mem_of_getElem? hk))
theorem keeps_int : KeepsQ (fun _ => IntC) := fun _ _ _ _ _ _ h _ _ => h
theorem keeps_stop : KeepsQ (fun _ => StopC) := fun _ _ _ _ _ _ h _ _ => h
theorem keeps_inp : KeepsQ (fun _ => InpC) := fun _ _ _ _ _ _ h _ _ => h
theorem keeps_val : KeepsQ (fun _ => ValC) := fun _ _ _ _ _ _ h _ _ => h
theorem keeps_ins : KeepsQ (fun _ => InsC) := fun _ _ _ _ _ _ h _ _ => h
def intF (st : FSt) (x : Int) : Option (FSt × Int) := (runL num st [x]).bind fun p => some (p.1, p.2.getD 0 0)
def stopF (st : FSt) (x : TStop) : Option (FSt × TStop) := (runL num st [x.ty, x.gd]).bind fun p => some (p.1, ⟨p.2.getD 0 0, p.2.getD 1 0⟩)
def zStop : TStop := ⟨0, 0⟩
def tailF (st : FSt) (x : TTail) : Option (FSt × TTail) := (runL num st [x.br, x.cl]).bind fun p => (listF stopF zStop p.1 x.bars).bind fun q => some (q.1, ⟨p.2.getD 0 0, p.2.getD 1 0, q.2⟩)
def zTail : TTail := ⟨0, 0, []⟩
def rowF (st : FSt) (x : TRow) : Option (FSt × TRow) := (runL num st [x.par, x.ty]).bind fun p1 => (flagF p1.1 x.many).bind fun p2 => (num p2.1 x.win).bind fun p3 => (listF stopF zStop p3.1 x.bars).bind fun p4 => (runL num p4.1 [x.leave, x.guard]).bind fun p5 => (listF tailF zTail p5.1 x.ends).bind fun p6 =>
  some (p6.1, ⟨p1.2.getD 0 0, p1.2.getD 1 0, p2.2, p3.2, p4.2, p5.2.getD 0 0, p5.2.getD 1 0, p6.2⟩)
def zRow : TRow := ⟨0, 0, false, 0, [], 0, 0, []⟩
def inpF (st : FSt) (x : TInp) : Option (FSt × TInp) := (runL num st [x.op, x.kind, x.pos, x.attr]).bind fun p => some (p.1, ⟨p.2.getD 0 0, p.2.getD 1 0, p.2.getD 2 0, p.2.getD 3 0⟩)
def zInp : TInp := ⟨0, 0, 0, 0⟩
def valF (st : FSt) (x : TVal) : Option (FSt × TVal) := (runL num st [x.kind]).bind fun p => (bitsF p.1 x.bits).bind fun q => some (q.1, ⟨p.2.getD 0 0, q.2⟩)
def zVal : TVal := ⟨0, 0⟩
def insF (st : FSt) (x : TIns) : Option (FSt × TIns) := (runL num st [x.op, x.dst, x.a, x.b]).bind fun p => some (p.1, ⟨p.2.getD 0 0, p.2.getD 1 0, p.2.getD 2 0, p.2.getD 3 0⟩)
def zIns : TIns := ⟨0, 0, 0, 0⟩
def codeF (st : FSt) (x : TCode) : Option (FSt × TCode) := (runL num st [x.regs, x.slots]).bind fun p1 => (listF inpF zInp p1.1 x.inputs).bind fun p2 => (listF valF zVal p2.1 x.consts).bind fun p3 => (listF insF zIns p3.1 x.list).bind fun p4 => some (p4.1, ⟨p1.2.getD 0 0, p1.2.getD 1 0, p2.2, p3.2, p4.2⟩)
def zCode : TCode := ⟨0, 0, [], [], []⟩
def tabF (st : FSt) (x : TTab) : Option (FSt × TTab) := (runL num st [x.strategy]).bind fun p1 => (listF intF 0 p1.1 x.keys).bind fun p2 => (listF (listF intF 0) [] p2.1 x.kinds).bind fun p3 => (runL num p3.1 [x.syms, x.runs, x.cells]).bind fun p4 => (listF rowF zRow p4.1 x.states).bind fun p5 => (listF codeF zCode p5.1 x.codes).bind fun p6 =>
  some (p6.1, ⟨p1.2.getD 0 0, p2.2, p3.2, p4.2.getD 0 0, p4.2.getD 1 0, p4.2.getD 2 0, p5.2, p6.2⟩)
def TabQ (Q : Nat → Prop) (w : World) (cs : List Value) (x : TTab) : Prop :=
  ∃ vk vkk vs vc, cs = [.int .i64 x.strategy, vk, vkk, .int .i64 x.syms, .int .i64 x.runs, .int .i64 x.cells, vs, vc] ∧ SlQ Q 1 IntC w vk x.keys ∧ SlQ Q 1 (IntsQ Q) w vkk x.kinds ∧ SlQ Q 8 (RowQ Q) w vs x.states ∧ SlQ Q 5 (CodeQ Q) w vc x.codes ∧ wfi x.strategy ∧ wfi x.syms ∧ wfi x.runs ∧ wfi x.cells
theorem slq_cell {α : Type} {Q : Nat → Prop} {F : Nat} {R : World → List Value → α → Prop} {w : World} {v : Value} {xs : List α} (h : SlQ Q F R w v xs) : v.oneCell' = true := by obtain ⟨A, c, rfl, _⟩ := h; rfl
theorem onec_K : ∀ (Q : Nat → Prop) w cs x, (fun _ => IntC) Q w cs x → ∀ u ∈ cs, u.oneCell' = true := by rintro Q w cs x ⟨rfl, _⟩ u hu; simp at hu; subst hu; rfl
theorem onec_J : ∀ (Q : Nat → Prop) w cs x, (fun _ => IntC) Q w cs x → ∀ u ∈ cs, u.oneCell' = true := onec_K
theorem onec_T : ∀ (Q : Nat → Prop) w cs x, (fun _ => StopC) Q w cs x → ∀ u ∈ cs, u.oneCell' = true := by rintro Q w cs x ⟨rfl, _⟩ u hu; simp at hu; rcases hu with rfl | rfl <;> rfl
theorem onec_I : ∀ (Q : Nat → Prop) w cs x, (fun _ => InpC) Q w cs x → ∀ u ∈ cs, u.oneCell' = true := by rintro Q w cs x ⟨rfl, _⟩ u hu; simp at hu; rcases hu with rfl | rfl | rfl | rfl <;> rfl
theorem onec_N : ∀ (Q : Nat → Prop) w cs x, (fun _ => InsC) Q w cs x → ∀ u ∈ cs, u.oneCell' = true := by rintro Q w cs x ⟨rfl, _⟩ u hu; simp at hu; rcases hu with rfl | rfl | rfl | rfl <;> rfl
theorem onec_V : ∀ (Q : Nat → Prop) w cs x, (fun _ => ValC) Q w cs x → ∀ u ∈ cs, u.oneCell' = true := by rintro Q w cs x ⟨rfl, _⟩ u hu; simp at hu; rcases hu with rfl | rfl <;> rfl
theorem onec_G : ∀ (Q : Nat → Prop) w cs x, IntsQ Q w cs x → ∀ u ∈ cs, u.oneCell' = true := by rintro Q w cs x ⟨v, rfl, h⟩ u hu; simp at hu; subst hu; exact slq_cell h
theorem onec_E : ∀ (Q : Nat → Prop) w cs x, TailQ Q w cs x → ∀ u ∈ cs, u.oneCell' = true := by rintro Q w cs x ⟨v, rfl, h, _⟩ u hu; simp at hu; rcases hu with rfl | rfl | rfl; rfl; rfl; exact slq_cell h
theorem onec_R : ∀ (Q : Nat → Prop) w cs x, RowQ Q w cs x → ∀ u ∈ cs, u.oneCell' = true := by rintro Q w cs x ⟨vb, ve, rfl, h, k, _⟩ u hu; simp at hu; rcases hu with rfl | rfl | rfl | rfl | rfl | rfl | rfl | rfl; rfl; rfl; rfl; rfl; exact slq_cell h; rfl; rfl; exact slq_cell k
theorem onec_C : ∀ (Q : Nat → Prop) w cs x, CodeQ Q w cs x → ∀ u ∈ cs, u.oneCell' = true := by rintro Q w cs x ⟨vi, vc, vl, rfl, h, k, l, _⟩ u hu; simp at hu; rcases hu with rfl | rfl | rfl | rfl | rfl; rfl; rfl; exact slq_cell h; exact slq_cell k; exact slq_cell l
theorem zero_K : ∀ (Q : Nat → Prop) w, (fun _ => IntC) Q w [Value.int .i64 0] (0 : Int) := fun _ _ => ⟨rfl, by unfold wfi; decide⟩
theorem zero_J : ∀ (Q : Nat → Prop) w, (fun _ => IntC) Q w [Value.int .i64 0] (0 : Int) := zero_K
theorem zero_G : ∀ (Q : Nat → Prop) w, IntsQ Q w [Value.slice none 0 0] ([] : List Int) := fun _ _ => ⟨_, rfl, SlQ.nil _ _ _⟩
theorem zero_T : ∀ (Q : Nat → Prop) w, (fun _ => StopC) Q w [Value.int .i64 0, Value.int .i64 0] zStop := fun _ _ => ⟨rfl, by unfold wfi; decide, by unfold wfi; decide⟩
theorem zero_I : ∀ (Q : Nat → Prop) w, (fun _ => InpC) Q w [Value.int .i64 0, Value.int .i64 0, Value.int .i64 0, Value.int .i64 0] zInp := fun _ _ => ⟨rfl, by unfold wfi; decide, by unfold wfi; decide, by unfold wfi; decide, by unfold wfi; decide⟩
theorem zero_N : ∀ (Q : Nat → Prop) w, (fun _ => InsC) Q w [Value.int .i64 0, Value.int .i64 0, Value.int .i64 0, Value.int .i64 0] zIns := fun _ _ => ⟨rfl, by unfold wfi; decide, by unfold wfi; decide, by unfold wfi; decide, by unfold wfi; decide⟩
theorem zero_V : ∀ (Q : Nat → Prop) w, (fun _ => ValC) Q w [Value.int .i64 0, Value.int .u64 0] zVal := fun _ _ => ⟨rfl, by unfold wfi; decide, by unfold wfu; decide⟩
theorem zero_E : ∀ (Q : Nat → Prop) w, TailQ Q w [Value.int .i64 0, Value.int .i64 0, Value.slice none 0 0] zTail := fun _ _ => ⟨_, rfl, SlQ.nil _ _ _, by unfold wfi; decide, by unfold wfi; decide⟩
theorem zero_R : ∀ (Q : Nat → Prop) w, RowQ Q w [Value.int .i64 0, Value.int .i64 0, Value.bool false, Value.int .i64 0, Value.slice none 0 0, Value.int .i64 0, Value.int .i64 0, Value.slice none 0 0] zRow := fun _ _ => ⟨_, _, rfl, SlQ.nil _ _ _, SlQ.nil _ _ _, by unfold wfi; decide, by unfold wfi; decide, by unfold wfi; decide, by unfold wfi; decide, by unfold wfi; decide⟩
theorem zero_C : ∀ (Q : Nat → Prop) w, CodeQ Q w [Value.int .i64 0, Value.int .i64 0, Value.slice none 0 0, Value.slice none 0 0, Value.slice none 0 0] zCode := fun _ _ => ⟨_, _, _, rfl, SlQ.nil _ _ _, SlQ.nil _ _ _, SlQ.nil _ _ _, by unfold wfi; decide, by unfold wfi; decide⟩
def zTab : TTab := ⟨0, [], [], 0, 0, 0, [], []⟩
/-- two parts, one behind the other -/
theorem fine_bind {α β : Type} {o : Option (FSt × β)} {f : FSt × β → Option (FSt × α)} {st st' : FSt} {y : α} {C D : Nat} (h : o.bind f = some (st', y)) (h1 : ∀ s z, o = some (s, z) → s.room ≤ st.room + C ∧ st.kin s) (h2 : ∀ s z, f (s, z) = some (st', y) → st'.room ≤ s.room + D ∧ s.kin st') : st'.room ≤ st.room + (C + D) ∧ st.kin st' := by
  cases o with
  | none => cases h
  | some p =>
    obtain ⟨s, z⟩ := p
    obtain ⟨a1, a2⟩ := h1 s z rfl
    obtain ⟨b1, b2⟩ := h2 s z h
    exact ⟨by omega, kin_trans a2 b2⟩
theorem fine_runs {st s : FSt} {ns ys : List Int} {k : Nat} (hk : ns.length = k) (h : runL num st ns = some (s, ys)) : s.room ≤ st.room + 10 * k ∧ st.kin s := by
  obtain ⟨a, b, _⟩ := fine_run fine_num _ _ _ _ h
  subst hk
  exact ⟨a, b⟩
theorem fine_end {α : Type} {s st' : FSt} {z y : α} (h : some (s, z) = some (st', y)) : st'.room ≤ s.room + 0 ∧ s.kin st' := by cases h; exact ⟨by omega, kin_refl _⟩
theorem fine_int : Fine intF 10 := fun st x st' y h => fine_bind (C := 10) (D := 0) h (fun s z h => fine_runs rfl h) fun s z h => fine_end h
theorem fine_stop : Fine stopF 20 := fun st x st' y h => fine_bind (C := 20) (D := 0) h (fun s z h => fine_runs rfl h) fun s z h => fine_end h
theorem fine_inp : Fine inpF 40 := fun st x st' y h => fine_bind (C := 40) (D := 0) h (fun s z h => fine_runs rfl h) fun s z h => fine_end h
theorem fine_ins : Fine insF 40 := fun st x st' y h => fine_bind (C := 40) (D := 0) h (fun s z h => fine_runs rfl h) fun s z h => fine_end h
theorem fine_val : Fine valF 20 := fun st x st' y h => fine_bind (C := 10) (D := 10) h (fun s z h => fine_runs rfl h) fun s z h => fine_bind (C := 10) (D := 0) h (fun s z h => fine_bits _ _ _ _ h) fun s z h => fine_end h
theorem fine_tail : Fine tailF (20 + (10 + 20 * 1024)) := fun st x st' y h => fine_bind (C := 20) (D := 10 + 20 * 1024) h (fun s z h => fine_runs rfl h) fun s z h => fine_bind (C := 10 + 20 * 1024) (D := 0) h (fun s z h => fine_list fine_stop _ _ _ _ h) fun s z h => fine_end h
theorem fine_row : Fine rowF 21600000 := fun st x st' y h => by
  have h := fine_bind (C := 20) (D := 21599980) h (fun s z h => fine_runs rfl h) fun s z h => fine_bind (C := 10) (D := 21599970) h (fun s z h => fine_flag _ _ _ _ h) fun s z h => fine_bind (C := 10) (D := 21599960) h (fun s z h => fine_num _ _ _ _ h) fun s z h => fine_bind (C := 10 + 20 * 1024) (D := 21579470) h (fun s z h => fine_list fine_stop _ _ _ _ h)
    fun s z h => fine_bind (C := 20) (D := 21579450) h (fun s z h => fine_runs rfl h) fun s z h => fine_bind (C := 21579450) (D := 0) h (fun s z h => by have := fine_list (zero := zTail) fine_tail _ _ _ _ h; exact ⟨Nat.le_trans this.1 (Nat.add_le_add_left (by decide) _), this.2⟩) fun s z h => fine_end h
  exact h
theorem fine_code : Fine codeF 200000 := fun st x st' y h => by
  have h := fine_bind (C := 20) (D := 199980) h (fun s z h => fine_runs rfl h) fun s z h => fine_bind (C := 10 + 40 * 1024) (D := 159010) h (fun s z h => fine_list fine_inp _ _ _ _ h) fun s z h => fine_bind (C := 10 + 20 * 1024) (D := 138520) h (fun s z h => fine_list fine_val _ _ _ _ h)
    fun s z h => fine_bind (C := 138520) (D := 0) h (fun s z h => by have := fine_list (zero := zIns) fine_ins _ _ _ _ h; exact ⟨Nat.le_trans this.1 (Nat.add_le_add_left (by decide) _), this.2⟩) fun s z h => fine_end h
  exact h
end Go.Proofs.Ytabndfkkbmhhjaa

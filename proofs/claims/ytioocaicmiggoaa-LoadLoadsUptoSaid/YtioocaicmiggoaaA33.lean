/- Dbx, Drw: texts merged for a claim by a program of mine. -/
import Derived.Test.YtioocaicmiggoaaA32
namespace Go.Proofs.Ytioocaicmiggoaa
set_option linter.unusedVariables false
set_option linter.unusedSimpArgs false
open Go.RowKit Go.Deep
def KeepsP (I G : Nat) (P : World → Prop) : Prop := ∀ W W', GrD W.heap.size I G W W' → P W → P W'
theorem KeepsP.true_ {I G : Nat} : KeepsP I G (fun _ => True) := fun _ _ _ _ => trivial
theorem KeepsP.and_ {I G : Nat} {P Q : World → Prop} (h : KeepsP I G P) (k : KeepsP I G Q) : KeepsP I G (fun W => P W ∧ Q W) := fun W W' g p => ⟨h W W' g p.1, k W W' g p.2⟩
theorem KeepsP.blk {I G g : Nat} {t : TypeId} {cs : Array Value} (h1 : g ≠ I) (h2 : g ≠ G) : KeepsP I G (fun W => Blk W g t cs) := fun W W' k h => (k.2.2.2.2 g h.lt h1 h2).trans h
def SlP {α : Type} (G F : Nat) (R : (Nat → Prop) → World → List Value → α → Prop) (v : Value) (xs : List α) (W : World) : Prop := SlQ (fun b => G < b ∧ b < W.heap.size) F (R (fun b => G < b ∧ b < W.heap.size)) W v xs
theorem KeepsP.sl {α : Type} {I G F : Nat} {R : (Nat → Prop) → World → List Value → α → Prop} {v : Value} {xs : List α} (hI : I < G) (hR : KeepsQ R) : KeepsP I G (SlP G F R v xs) := fun W W' k h => by
 have hk : KeepQ (fun b => G < b ∧ b < W.heap.size) W W' := fun p u hq hp => (World.cell?_of_block (k.2.2.2.2 p.block hq.2 (by omega) (by omega))).trans hp
 have hm : ∀ b, (G < b ∧ b < W.heap.size) → (G < b ∧ b < W'.heap.size) := fun b hb => ⟨hb.1, Nat.lt_of_lt_of_le hb.2 k.size⟩
 exact h.keep hk hm fun cs x hx => hR _ _ _ _ _ _ hx hk hm
theorem SlP.low {α : Type} {G G' F : Nat} {R : (Nat → Prop) → World → List Value → α → Prop} {v : Value} {xs : List α} {W : World} (h : SlP G F R v xs W) (hR : KeepsQ R) (hG : G' ≤ G) : SlP G' F R v xs W :=
 SlQ.keep h (fun p u _ h => h) (fun b h => ⟨by omega, h.2⟩) (fun cs x hx => hR _ _ _ _ _ _ hx (fun p u _ h => h) (fun b h => ⟨by omega, h.2⟩))
theorem SlP.le {α : Type} {G F : Nat} {R : (Nat → Prop) → World → List Value → α → Prop} {v : Value} {xs : List α} {W : World} (h : SlP G F R v xs W) (hR : KeepsQ R) : SlQ (fun b => G ≤ b ∧ b < W.heap.size) F (R (fun b => G ≤ b ∧ b < W.heap.size)) W v xs :=
 SlQ.keep h (fun p u _ h => h) (fun b h => ⟨by omega, h.2⟩) (fun cs x hx => hR _ _ _ _ _ _ hx (fun p u _ h => h) (fun b h => ⟨by omega, h.2⟩))
theorem SlP.up {α : Type} {G B F : Nat} {R : (Nat → Prop) → World → List Value → α → Prop} {v : Value} {xs : List α} {W : World} (h : SlP G F R v xs W) (hR : KeepsQ R) (hB : B ≤ G) : SlQ (fun b => B ≤ b ∧ b < W.heap.size) F (R (fun b => B ≤ b ∧ b < W.heap.size)) W v xs :=
 SlQ.keep h (fun p u _ h => h) (fun b h => ⟨by omega, h.2⟩) (fun cs x hx => hR _ _ _ _ _ _ hx (fun p u _ h => h) (fun b h => ⟨by omega, h.2⟩))
theorem SlP.of_acc {α : Type} {G B F : Nat} {e : TypeId} {R : (Nat → Prop) → World → List Value → α → Prop} {v : Value} {xs : List α} {css : List (List Value)} {W : World} (h : Acc B e F R W v xs css) (hR : KeepsQ R) (hB : G < B) : SlP G F R v xs W :=
 SlQ.keep (h.done hR) (fun p u _ h => h) (fun b h => ⟨by omega, h.2⟩) (fun cs x hx => hR _ _ _ _ _ _ hx (fun p u _ h => h) (fun b h => ⟨by omega, h.2⟩))
def BoxX (w0 : World) (I : Nat) (l : List UInt8) (G : Nat) (T : TypeId) (W : World) (t : Option Nat) (cs : Array Value) (P : World → Prop) : Prop :=
 I < w0.heap.size ∧ w0.heap.size ≤ G ∧ Blk W G T cs ∧ InD W I l t ∧ w0.grownBy W (some I) ∧ P W ∧ KeepsP I G P
section
variable {w0 W W2 : World} {I G : Nat} {l : List UInt8} {T : TypeId} {t t2 : Option Nat} {cs cs2 : Array Value} {P P' : World → Prop}
theorem BoxX.lt (h : BoxX w0 I l G T W t cs P) : I < G := Nat.lt_of_lt_of_le h.1 h.2.1
theorem BoxX.in_ (h : BoxX w0 I l G T W t cs P) : InD W I l t := h.2.2.2.1
theorem BoxX.blk (h : BoxX w0 I l G T W t cs P) : Blk W G T cs := h.2.2.1
theorem BoxX.gr (h : BoxX w0 I l G T W t cs P) : w0.grownBy W (some I) := h.2.2.2.2.1
theorem BoxX.rest (h : BoxX w0 I l G T W t cs P) : P W := h.2.2.2.2.2.1
theorem BoxX.start (hi : InD W I l t) (hw : w0.grownBy W (some I)) (hI : I < w0.heap.size) (hP : P (W.alloc (.cells cs T))) (hK : KeepsP I W.heap.size P) : BoxX w0 I l W.heap.size T (W.alloc (.cells cs T)) t cs P :=
 ⟨hI, hw.size, Blk.new _ _ _, hi.below ((Below.refl _ _).alloc (Nat.le_refl _) _), only_alloc hw _, hP, hK⟩
theorem BoxX.call (h : BoxX w0 I l G T W t cs P) (hg : W.grownBy W2 (some I)) (hi : InD W2 I l t2) : BoxX w0 I l G T W2 t2 cs P :=
 ⟨h.1, h.2.1, h.2.2.1.grown hg (by have := h.lt; intro e; injection e with e; omega), hi, only_tr h.gr hg, h.2.2.2.2.2.2 W W2 (GrD.of_grown hg (Nat.le_refl _) (fun x e => by cases e; exact .inl rfl)) h.rest, h.2.2.2.2.2.2⟩
theorem BoxX.set_ (h : BoxX w0 I l G T W t cs P) (i : Nat) (u : Value) : BoxX w0 I l G T (W.setCell ⟨G, i, none⟩ u) t (cs.setIfInBounds i u) P :=
 ⟨h.1, h.2.1, h.blk.set_ i u, h.in_.far h.lt u, only_setCell h.gr (.inr h.2.1) u, h.2.2.2.2.2.2 _ _ ((GrD.refl _ _ _ _).set_ (.inr (.inl rfl)) u) h.rest, h.2.2.2.2.2.2⟩
theorem BoxX.alloc (h : BoxX w0 I l G T W t cs P) (o : Obj) : BoxX w0 I l G T (W.alloc o) t cs P :=
 h.call (only_alloc (World.grownBy.refl _ _) o) (h.in_.below ((Below.refl _ _).alloc (Nat.le_refl _) _))
theorem BoxX.loop (h : BoxX w0 I l G T W t cs P) (hg : GrD W.heap.size I G W W2) (hb : Blk W2 G T cs2) (hi : InD W2 I l t2) : BoxX w0 I l G T W2 t2 cs2 P :=
 ⟨h.1, h.2.1, hb, hi, ⟨hg.1.trans h.gr.os, hg.2.1.trans h.gr.tape, hg.2.2.1.trans h.gr.output, Nat.le_trans h.gr.size hg.size, fun i h1 h2 => (hg.2.2.2.2 i (Nat.lt_of_lt_of_le h1 h.gr.size) (fun e => h2 (by rw [e])) (by have := h.2.1; omega)).trans (h.gr.block i h1 h2)⟩, h.2.2.2.2.2.2 _ _ hg h.rest, h.2.2.2.2.2.2⟩
theorem BoxX.add (h : BoxX w0 I l G T W t cs P) (hP : P' W) (hK : KeepsP I G P') : BoxX w0 I l G T W t cs (fun W => P W ∧ P' W) :=
 ⟨h.1, h.2.1, h.2.2.1, h.2.2.2.1, h.gr, ⟨h.rest, hP⟩, h.2.2.2.2.2.2.and_ hK⟩
end
section
variable {α : Type} {B : Nat} {e : TypeId} {F : Nat} {R : (Nat → Prop) → World → List Value → α → Prop} {one : FSt → α → Option (FSt × α)} {z : α} {l : List UInt8} {I g n : Nat} {m : Option Nat} {w wr : World} {v v' j : Value}
theorem LpD.gr (h : LpD B e F R one z l I g n m w wr v j) : GrD B I g w wr := by
 obtain ⟨_, _, _, _, _, _, _, _, _, h, _⟩ := h
 exact h
end
theorem blk3f {w : World} {g : Nat} {t : TypeId} {a b c : Value} (h : Blk w g t #[a, b, c]) : w.cell? ⟨g, 0, none⟩ = some a ∧ w.cell? ⟨g, 1, none⟩ = some b ∧ w.cell? ⟨g, 2, none⟩ = some c ∧ w.frozen? ⟨g, 0, none⟩ = false ∧ w.frozen? ⟨g, 1, none⟩ = false ∧ w.frozen? ⟨g, 2, none⟩ = false := ⟨h.cell 0, h.cell 1, h.cell 2, h.frozen 0, h.frozen 1, h.frozen 2⟩
theorem blk4f {w : World} {g : Nat} {t : TypeId} {a b c d : Value} (h : Blk w g t #[a, b, c, d]) : w.cell? ⟨g, 0, none⟩ = some a ∧ w.cell? ⟨g, 1, none⟩ = some b ∧ w.cell? ⟨g, 2, none⟩ = some c ∧ w.cell? ⟨g, 3, none⟩ = some d ∧ w.frozen? ⟨g, 0, none⟩ = false ∧ w.frozen? ⟨g, 1, none⟩ = false ∧ w.frozen? ⟨g, 2, none⟩ = false ∧ w.frozen? ⟨g, 3, none⟩ = false := ⟨h.cell 0, h.cell 1, h.cell 2, h.cell 3, h.frozen 0, h.frozen 1, h.frozen 2, h.frozen 3⟩
theorem step_inp {l : List UInt8} {s t u x y : Option Nat} {a b c d : Int} (h1 : StepD num 0 l s t a) (h2 : StepD num 0 l t u b) (h3 : StepD num 0 l u x c) (h4 : StepD num 0 l x y d) : StepD inpF zInp l s y ⟨a, b, c, d⟩ :=
 ((h1.pair (h2.pair (h3.pair h4))).map_ (fun x : TInp => (x.op, x.kind, x.pos, x.attr)) (fun p => ⟨p.1, p.2.1, p.2.2.1, p.2.2.2⟩) zInp rfl).congr fun st x => by
  simp only [inpF, run4_bind, mapF, pairF, Option.bind_assoc, Option.bind_some, List.getD_cons_zero, List.getD_cons_succ]
theorem step_ins {l : List UInt8} {s t u x y : Option Nat} {a b c d : Int} (h1 : StepD num 0 l s t a) (h2 : StepD num 0 l t u b) (h3 : StepD num 0 l u x c) (h4 : StepD num 0 l x y d) : StepD insF zIns l s y ⟨a, b, c, d⟩ :=
 ((h1.pair (h2.pair (h3.pair h4))).map_ (fun x : TIns => (x.op, x.dst, x.a, x.b)) (fun p => ⟨p.1, p.2.1, p.2.2.1, p.2.2.2⟩) zIns rfl).congr fun st x => by
  simp only [insF, run4_bind, mapF, pairF, Option.bind_assoc, Option.bind_some, List.getD_cons_zero, List.getD_cons_succ]
theorem step_val {l : List UInt8} {s t u : Option Nat} {a b : Int} (h1 : StepD num 0 l s t a) (h2 : StepD bitsF 0 l t u b) : StepD valF zVal l s u ⟨a, b⟩ :=
 ((h1.pair h2).map_ (fun x : TVal => (x.kind, x.bits)) (fun p => ⟨p.1, p.2⟩) zVal rfl).congr fun st x => by
  simp only [valF, run1_bind, mapF, pairF, Option.bind_assoc, Option.bind_some, List.getD_cons_zero, List.getD_cons_succ]
theorem step_bits {l : List UInt8} {s t : Option Nat} {v : Nat} (h1 : s = none → t = none) (h2 : ∀ p, s = some p → dec (l.drop p) = (t.map fun q => (v, q - p)) ∧ ∀ q, t = some q → p ≤ q) : StepD bitsF 0 l s t (v : Int) := by
 refine ⟨h1, fun p hp => ?_⟩
 obtain ⟨h3, h4⟩ := h2 p hp
 unfold rdS bitsF
 simp only [h3]
 rcases t with _ | q
 ·rfl
 ·have := h4 q rfl
  simp only [Option.map_some]
  rw [show p + (q - p) = q by omega]
theorem step_tail {l : List UInt8} {s t u x : Option Nat} {a b : Int} {c : List TStop} (h1 : StepD num 0 l s t a) (h2 : StepD num 0 l t u b) (h3 : StepD (listF stopF zStop) [] l u x c) : StepD tailF zTail l s x ⟨a, b, c⟩ :=
 ((h1.pair (h2.pair h3)).map_ (fun x : TTail => (x.br, x.cl, x.bars)) (fun p => ⟨p.1, p.2.1, p.2.2⟩) zTail rfl).congr fun st x => by
  simp only [tailF, run2_bind, mapF, pairF, Option.bind_assoc, Option.bind_some, List.getD_cons_zero, List.getD_cons_succ]
theorem step_code {l : List UInt8} {s t u x y z : Option Nat} {a b : Int} {c : List TInp} {d : List TVal} {f : List TIns} (h1 : StepD num 0 l s t a) (h2 : StepD num 0 l t u b) (h3 : StepD (listF inpF zInp) [] l u x c) (h4 : StepD (listF valF zVal) [] l x y d) (h5 : StepD (listF insF zIns) [] l y z f) : StepD codeF zCode l s z ⟨a, b, c, d, f⟩ :=
 ((h1.pair (h2.pair (h3.pair (h4.pair h5)))).map_ (fun x : TCode => (x.regs, x.slots, x.inputs, x.consts, x.list)) (fun p => ⟨p.1, p.2.1, p.2.2.1, p.2.2.2.1, p.2.2.2.2⟩) zCode rfl).congr fun st x => by
  simp only [codeF, run2_bind, mapF, pairF, Option.bind_assoc, Option.bind_some, List.getD_cons_zero, List.getD_cons_succ]
theorem wfu_nat {v : Nat} (h : v < 18446744073709551616) : wfu (v : Int) := by
 unfold wfu
 simp [Lit.wf, IntKind.min, IntKind.max, IntKind.bits, IntKind.signed]
 omega
end Go.Proofs.Ytioocaicmiggoaa
namespace Go.Proofs.Ytioocaicmiggoaa
set_option linter.unusedVariables false
set_option linter.unusedSimpArgs false
open Go.RowKit Go.Deep
theorem step_flag {l : List UInt8} {s t : Option Nat} {y : Int} (h : StepD num 0 l s t y) : StepD flagF false l s (if 0 ≤ y ∧ y ≤ 1 then t else none) (decide (y = 1)) := by
 refine ⟨fun e => by rw [h.1 e]; split <;> rfl, fun p hp => ?_⟩
 unfold flagF
 rw [show bInt false = 0 from rfl, h.2 p hp]
 rcases t with _ | q
 ·simp
 ·simp only [Option.map_some]
  by_cases h0 : y = 0
  ·subst h0; rfl
  ·by_cases h1 : y = 1
   ·subst h1; rfl
   ·rw [if_neg h0, if_neg h1, if_neg (by omega)]; rfl
theorem step_row {l : List UInt8} {s0 s1 s2 s3 s4 s5 s6 s7 s8 : Option Nat} {a b : Int} {c : Bool} {d : Int} {f : List TStop} {g h : Int} {k : List TTail} (h1 : StepD num 0 l s0 s1 a) (h2 : StepD num 0 l s1 s2 b) (h3 : StepD flagF false l s2 s3 c) (h4 : StepD num 0 l s3 s4 d) (h5 : StepD (listF stopF zStop) [] l s4 s5 f) (h6 : StepD num 0 l s5 s6 g) (h7 : StepD num 0 l s6 s7 h) (h8 : StepD (listF tailF zTail) [] l s7 s8 k) : StepD rowF zRow l s0 s8 ⟨a, b, c, d, f, g, h, k⟩ :=
 ((h1.pair (h2.pair (h3.pair (h4.pair (h5.pair (h6.pair (h7.pair h8))))))).map_ (fun x : TRow => (x.par, x.ty, x.many, x.win, x.bars, x.leave, x.guard, x.ends)) (fun p => ⟨p.1, p.2.1, p.2.2.1, p.2.2.2.1, p.2.2.2.2.1, p.2.2.2.2.2.1, p.2.2.2.2.2.2.1, p.2.2.2.2.2.2.2⟩) zRow rfl).congr fun st x => by
  simp only [rowF, run2_bind, mapF, pairF, Option.bind_assoc, Option.bind_some, List.getD_cons_zero, List.getD_cons_succ]
theorem in_set {w : World} {I : Nat} {l : List UInt8} {s : Option Nat} (h : InD w I l s) (t : Option Nat) (ht : t = s ∨ t = none) : InD (w.setCell ⟨I, 1, none⟩ (.bool t.isSome)) I l t := by
 obtain ⟨A, c, r, h1, h2, h3, h4, h5⟩ := h
 exact ⟨A, c, r, by simpa using h1.set_ 1 (.bool t.isSome), h2, h3, h4.setCell (Nat.le_refl _) _, fun p hp => by rcases ht with rfl | rfl; exact h5 p hp; cases hp⟩
set_option maxRecDepth 100000 in
set_option maxHeartbeats 16000000 in
theorem in_row (I : Nat) (l : List UInt8) (s : Option Nat) (w : World) (h : InD w I l s) :
  Calls Try.prog 56 #[.pointer (some ⟨I, 0, none⟩)] w fun e w' => ∃ (t : Option Nat) (y : TRow) (cs : List Value), e = .returned (.agg cs.toArray) ∧ InD w' I l t ∧ w.grownBy w' (some I) ∧ StepD rowF zRow l s t y ∧ cs.length = 8 ∧ RowQ (fun b => w.heap.size ≤ b ∧ b < w'.heap.size) w' cs y := by
 obtain ⟨i1, hi1, hz1, hsz1, hb1⟩ := info_parts info_tail
 obtain ⟨W1, hW1⟩ : ∃ W, W = w.alloc (.cells #[.int .i64 0, .int .i64 0, .bool false, .int .i64 0, .slice none 0 0, .int .i64 0, .int .i64 0, .slice none 0 0] 46) := ⟨_, rfl⟩
 have hI1 : InD W1 I l s := by rw [hW1]; exact h.below ((Below.refl _ _).alloc (Nat.le_refl _) _)
 have HIW := Lib.hid h.blk
 have HZ1 : Hid (Blk W1 w.heap.size 46 #[.int .i64 0, .int .i64 0, .bool false, .int .i64 0, .slice none 0 0, .int .i64 0, .int .i64 0, .slice none 0 0]) := Lib.hid (by rw [hW1]; exact Blk.new _ _ _)
 have HG1 : Hid (w.grownBy W1 (some I)) := Lib.hid (by rw [hW1]; exact only_alloc (World.grownBy.refl _ _) _)
 have C1 := Lib.hid (in_num I l s W1 hI1)
 have HW1 := Lib.hid hW1
 clear h hI1 hW1
 go_enter Try.func56, Try.ntmps56
 go_upto_region 1 with fail
 rw [← HW1.out]
 clear HW1
 go_wp2_with fail
 refine C1.out.mono ?_
 rintro e w2 ⟨s1, a, rfl, hi, hg, hst, hy1, hy2⟩
 have HS1 := Lib.hid hst
 have HW1 := Lib.hid (wfi_num hy1 hy2)
 have HZ2 := Lib.hid (HZ1.out.grown hg (by have := HIW.out; intro e; injection e with e; omega))
 obtain ⟨G, hG⟩ : ∃ G, G = w2.heap.size := ⟨_, rfl⟩
 obtain ⟨y1, hy⟩ : ∃ W, W = w2.alloc (.cells #[.int .i64 a, .int .i64 0, .bool false, .int .i64 0, .slice none 0 0, .int .i64 0, .int .i64 0, .slice none 0 0] 46) := ⟨_, rfl⟩
 have HB1 : Hid (BoxX w I l G 46 y1 s1 #[.int .i64 a, .int .i64 0, .bool false, .int .i64 0, .slice none 0 0, .int .i64 0, .int .i64 0, .slice none 0 0] (fun W => Blk W w.heap.size 46 #[.int .i64 0, .int .i64 0, .bool false, .int .i64 0, .slice none 0 0, .int .i64 0, .int .i64 0, .slice none 0 0])) := Lib.hid (by
  rw [hy, hG]
  exact BoxX.start hi (only_tr HG1.out hg) HIW.out (HZ2.out.alloc _) (KeepsP.blk (by have := HIW.out; omega) (by have := HZ2.out.lt; omega)))
 have HGW : Hid (w.heap.size < G) := Lib.hid (by rw [hG]; exact HZ2.out.lt)
 have C2 := Lib.hid (in_num I l s1 y1 HB1.out.in_)
 clear C1 hi hg hst hy1 hy2 HZ2 HZ1 HG1
 go_upto_region 2 with fail
 rw [← hy, ← hG]
 clear hy hG
 go_wp2_with fail
 refine C2.out.mono ?_
 rintro e w3 ⟨s2, b, rfl, hi, hg, hst, hy1, hy2⟩
 have HS2 := Lib.hid hst
 have HW2 := Lib.hid (wfi_num hy1 hy2)
 clear hst hy1 hy2 C2
 have HF2 := Lib.hid (HB1.out.call hg hi)
 obtain ⟨p0, p1, p2, p3, p4, p5, p6, p7⟩ := blk8s HF2.out.blk
 have z := HF2.out.blk.frozen 1
 obtain ⟨y2, hy⟩ : ∃ W, W = w3.setCell ⟨G, 1, none⟩ (.int .i64 b) := ⟨_, rfl⟩
 have HB2 : Hid (BoxX w I l G 46 y2 s2 #[.int .i64 a, .int .i64 b, .bool false, .int .i64 0, .slice none 0 0, .int .i64 0, .int .i64 0, .slice none 0 0] (fun W => Blk W w.heap.size 46 #[.int .i64 0, .int .i64 0, .bool false, .int .i64 0, .slice none 0 0, .int .i64 0, .int .i64 0, .slice none 0 0])) := Lib.hid (by rw [hy]; simpa using HF2.out.set_ 1 (.int .i64 b))
 clear hi hg HF2 HB1
 have C3 := Lib.hid (in_num I l s2 y2 HB2.out.in_)
 go_upto_region 3 with fail
 rw [← hy]
 clear hy p0 p1 p2 p3 p4 p5 p6 p7 z
 go_wp2_with fail
 refine C3.out.mono ?_
 rintro e w4 ⟨s3, y, rfl, hi, hg, hst, hy1, hy2⟩
 have HFL := Lib.hid (step_flag hst)
 have HF3 := Lib.hid (HB2.out.call hg hi)
 obtain ⟨A0, m0, c0, k0, k1, f0, f1⟩ := hi.cells
 obtain ⟨b3, hb3⟩ : ∃ b, s3.isSome = b := ⟨_, rfl⟩
 rw [hb3] at k1
 have HB3 := Lib.hid hb3
 clear C3 hi hg hst hy1 hy2 HB2 hb3
 go_upto_region 4 with fail
 go_cut [4] (fun q wx => q = .int .i64 y ∧ ∃ t4, BoxX w I l G 46 wx t4 #[.int .i64 a, .int .i64 b, .bool false, .int .i64 0, .slice none 0 0, .int .i64 0, .int .i64 0, .slice none 0 0] (fun W => Blk W w.heap.size 46 #[.int .i64 0, .int .i64 0, .bool false, .int .i64 0, .slice none 0 0, .int .i64 0, .int .i64 0, .slice none 0 0]) ∧ StepD flagF false l s2 t4 (decide (y = 1)))
 case first =>
  have HT : Hid (∀ t : Option Nat, t = s3 ∨ t = none → BoxX w I l G 46 (w4.setCell ⟨I, 1, none⟩ (.bool t.isSome)) t #[.int .i64 a, .int .i64 b, .bool false, .int .i64 0, .slice none 0 0, .int .i64 0, .int .i64 0, .slice none 0 0] (fun W => Blk W w.heap.size 46 #[.int .i64 0, .int .i64 0, .bool false, .int .i64 0, .slice none 0 0, .int .i64 0, .int .i64 0, .slice none 0 0])) := Lib.hid (fun t ht => HF3.out.call (only_setCell (World.grownBy.refl w4 (some I)) (.inl rfl) _) (in_set HF3.out.in_ t ht))
  cases b3 with
  | false =>
   have hs3 : s3 = none := by have := HB3.out; revert this; cases s3 <;> simp
   have H9 := Lib.hid (HT.out none (.inr rfl))
   have H8 : Hid (StepD flagF false l s2 none (decide (y = 1))) := Lib.hid (by have h := HFL.out; rw [hs3] at h; simpa using h)
   clear hs3
   go_wp2_with fail
   go_meet
   exact ⟨rfl, none, H9.out, H8.out⟩
  | true =>
   have dd : ∀ k : Int, (y ≤ k → decide (y ≤ k) = true) ∧ (k < y → decide (y ≤ k) = false) := fun k => ⟨fun h => decide_eq_true h, fun h => decide_eq_false (by omega)⟩
   have d0 : decide (0 ≤ y) = !decide (y ≤ -1) := by rw [Bool.eq_iff_iff]; simp; omega
   have dm := dd (-1)
   have d1 := dd 1
   clear dd
   rcases Int.lt_or_le y 0 with hlt | hge
   ·have H9 := Lib.hid (HT.out none (.inr rfl))
    have H8 : Hid (StepD flagF false l s2 none (decide (y = 1))) := Lib.hid (by have h := HFL.out; rw [if_neg (by omega)] at h; exact h)
    have dz : decide (0 ≤ y) = false := decide_eq_false (by omega)
    clear dm d1 d0
    go_wp2_with fail
    go_meet
    exact ⟨rfl, none, H9.out, H8.out⟩
   ·rcases Int.lt_or_le 1 y with hgt | hle
    ·have H9 := Lib.hid (HT.out none (.inr rfl))
     have H8 : Hid (StepD flagF false l s2 none (decide (y = 1))) := Lib.hid (by have h := HFL.out; rw [if_neg (by omega)] at h; exact h)
     have dz : decide (y ≤ 1) = false := decide_eq_false (by omega)
     clear dm d1 d0
     go_wp2_with fail
     go_meet
     exact ⟨rfl, none, H9.out, H8.out⟩
    ·have H9 := Lib.hid (HT.out s3 (.inl rfl))
     rw [HB3.out] at H9
     have H8 : Hid (StepD flagF false l s2 s3 (decide (y = 1))) := Lib.hid (by have h := HFL.out; rw [if_pos ⟨hge, hle⟩] at h; exact h)
     have dz : decide (y ≤ 1) = true := decide_eq_true (by omega)
     clear dm d1 d0
     go_wp2_with fail
     go_meet
     exact ⟨rfl, s3, H9.out, H8.out⟩
 case rest =>
  obtain ⟨rfl, t4, hbx, hfl⟩ := hcut
  have HF4 := Lib.hid hbx
  have HS3 := Lib.hid hfl
  clear hbx hfl k0 k1 f0 f1 HFL HF3 HB3
  obtain ⟨c, hc⟩ : ∃ c : Bool, decide (y = 1) = c := ⟨_, rfl⟩
  rw [hc] at HS3
  obtain ⟨p0, p1, p2, p3, p4, p5, p6, p7⟩ := blk8s HF4.out.blk
  have z := HF4.out.blk.frozen 2
  go_upto_region 5 with fail
  have HDY : (y == 1) = c := by rw [← hc, Bool.eq_iff_iff]; simp
  obtain ⟨y3, hy⟩ : ∃ W, W = wc.setCell ⟨G, 2, none⟩ (.bool c) := ⟨_, rfl⟩
  have HB3 : Hid (BoxX w I l G 46 y3 t4 #[.int .i64 a, .int .i64 b, .bool c, .int .i64 0, .slice none 0 0, .int .i64 0, .int .i64 0, .slice none 0 0] (fun W => Blk W w.heap.size 46 #[.int .i64 0, .int .i64 0, .bool false, .int .i64 0, .slice none 0 0, .int .i64 0, .int .i64 0, .slice none 0 0])) := Lib.hid (by rw [hy]; simpa using HF4.out.set_ 2 (.bool c))
  have C4 := Lib.hid (in_num I l t4 y3 HB3.out.in_)
  clear HF4
  go_upto_region 6 with fail
  rw [← hy]
  clear hy p0 p1 p2 p3 p4 p5 p6 p7 z hc HDY
  go_wp2_with fail
  refine C4.out.mono ?_
  rintro e w5 ⟨s4, d, rfl, hi, hg, hst, hy1, hy2⟩
  have HS4 := Lib.hid hst
  have HW4 := Lib.hid (wfi_num hy1 hy2)
  clear hst hy1 hy2 C4
  have HF4 := Lib.hid (HB3.out.call hg hi)
  obtain ⟨p0, p1, p2, p3, p4, p5, p6, p7⟩ := blk8s HF4.out.blk
  have z := HF4.out.blk.frozen 3
  obtain ⟨y4, hy⟩ : ∃ W, W = w5.setCell ⟨G, 3, none⟩ (.int .i64 d) := ⟨_, rfl⟩
  have HB4 : Hid (BoxX w I l G 46 y4 s4 #[.int .i64 a, .int .i64 b, .bool c, .int .i64 d, .slice none 0 0, .int .i64 0, .int .i64 0, .slice none 0 0] (fun W => Blk W w.heap.size 46 #[.int .i64 0, .int .i64 0, .bool false, .int .i64 0, .slice none 0 0, .int .i64 0, .int .i64 0, .slice none 0 0])) := Lib.hid (by rw [hy]; simpa using HF4.out.set_ 3 (.int .i64 d))
  clear hi hg HF4 HB3
  have C5 := Lib.hid (in_stops I l s4 y4 HB4.out.in_)
  go_upto_region 7 with fail
  rw [← hy]
  clear hy p0 p1 p2 p3 p4 p5 p6 p7 z
  go_wp2_with fail
  refine C5.out.mono ?_
  rintro e w6 ⟨s5, f, v5, rfl, hi, hg, hst, hsl⟩
  obtain ⟨Av5, cv5, rfl, _⟩ := id hsl
  have HS5 := Lib.hid hst
  have HGB := Lib.hid HB4.out.blk.lt
  have HSL : Hid (SlP G 2 (fun _ => StopC) (.slice Av5 f.length cv5) f w6) := Lib.hid (hsl.keep (fun p u _ h => h) (fun b h => ⟨by have := HGB.out; omega, h.2⟩) (fun _ _ h => h))
  clear hst hsl C5
  have HF5 := Lib.hid (HB4.out.call hg hi)
  have HF5 := Lib.hid (HF5.out.add HSL.out (KeepsP.sl HB4.out.lt keeps_stop))
  obtain ⟨p0, p1, p2, p3, p4, p5, p6, p7⟩ := blk8s HF5.out.blk
  have z := HF5.out.blk.frozen 4
  obtain ⟨y5, hy⟩ : ∃ W, W = w6.setCell ⟨G, 4, none⟩ (.slice Av5 f.length cv5) := ⟨_, rfl⟩
  have HB5 : Hid (BoxX w I l G 46 y5 s5 #[.int .i64 a, .int .i64 b, .bool c, .int .i64 d, .slice Av5 f.length cv5, .int .i64 0, .int .i64 0, .slice none 0 0] (fun W => Blk W w.heap.size 46 #[.int .i64 0, .int .i64 0, .bool false, .int .i64 0, .slice none 0 0, .int .i64 0, .int .i64 0, .slice none 0 0] ∧ SlP G 2 (fun _ => StopC) (.slice Av5 f.length cv5) f W)) := Lib.hid (by rw [hy]; simpa using HF5.out.set_ 4 (.slice Av5 f.length cv5))
  clear hi hg HF5 HB4
  have C6 := Lib.hid (in_num I l s5 y5 HB5.out.in_)
  go_upto_region 8 with fail
  rw [← hy]
  clear hy p0 p1 p2 p3 p4 p5 p6 p7 z
  go_wp2_with fail
  refine C6.out.mono ?_
  rintro e w7 ⟨s6, g, rfl, hi, hg, hst, hy1, hy2⟩
  have HS6 := Lib.hid hst
  have HW6 := Lib.hid (wfi_num hy1 hy2)
  clear hst hy1 hy2 C6
  have HF6 := Lib.hid (HB5.out.call hg hi)
  obtain ⟨p0, p1, p2, p3, p4, p5, p6, p7⟩ := blk8s HF6.out.blk
  have z := HF6.out.blk.frozen 5
  obtain ⟨y6, hy⟩ : ∃ W, W = w7.setCell ⟨G, 5, none⟩ (.int .i64 g) := ⟨_, rfl⟩
  have HB6 : Hid (BoxX w I l G 46 y6 s6 #[.int .i64 a, .int .i64 b, .bool c, .int .i64 d, .slice Av5 f.length cv5, .int .i64 g, .int .i64 0, .slice none 0 0] (fun W => Blk W w.heap.size 46 #[.int .i64 0, .int .i64 0, .bool false, .int .i64 0, .slice none 0 0, .int .i64 0, .int .i64 0, .slice none 0 0] ∧ SlP G 2 (fun _ => StopC) (.slice Av5 f.length cv5) f W)) := Lib.hid (by rw [hy]; simpa using HF6.out.set_ 5 (.int .i64 g))
  clear hi hg HF6 HB5
  have C7 := Lib.hid (in_num I l s6 y6 HB6.out.in_)
  go_upto_region 9 with fail
  rw [← hy]
  clear hy p0 p1 p2 p3 p4 p5 p6 p7 z
  go_wp2_with fail
  refine C7.out.mono ?_
  rintro e w8 ⟨s7, h, rfl, hi, hg, hst, hy1, hy2⟩
  have HS7 := Lib.hid hst
  have HW7 := Lib.hid (wfi_num hy1 hy2)
  clear hst hy1 hy2 C7
  have HF7 := Lib.hid (HB6.out.call hg hi)
  obtain ⟨p0, p1, p2, p3, p4, p5, p6, p7⟩ := blk8s HF7.out.blk
  have z := HF7.out.blk.frozen 6
  obtain ⟨y7, hy⟩ : ∃ W, W = w8.setCell ⟨G, 6, none⟩ (.int .i64 h) := ⟨_, rfl⟩
  have HB7 : Hid (BoxX w I l G 46 y7 s7 #[.int .i64 a, .int .i64 b, .bool c, .int .i64 d, .slice Av5 f.length cv5, .int .i64 g, .int .i64 h, .slice none 0 0] (fun W => Blk W w.heap.size 46 #[.int .i64 0, .int .i64 0, .bool false, .int .i64 0, .slice none 0 0, .int .i64 0, .int .i64 0, .slice none 0 0] ∧ SlP G 2 (fun _ => StopC) (.slice Av5 f.length cv5) f W)) := Lib.hid (by rw [hy]; simpa using HF7.out.set_ 6 (.int .i64 h))
  clear hi hg HF7 HB6
  go_upto_region 10 with fail
  rw [← hy]
  clear hy p0 p1 p2 p3 p4 p5 p6 p7 z
  have C8 := Lib.hid (in_count I l s7 y7 HB7.out.in_)
  have HAT7 := Lib.hid HB7.out.in_.at_
  go_wp2_with fail
  refine C8.out.mono ?_
  rintro e w9 ⟨m1, n1, rfl, hi, hg, hc⟩
  have HC1 := Lib.hid hc
  have HB9 := Lib.hid (HB7.out.call hg hi)
  clear C8 hi hg hc HB7
  go_wp2_with fail
  have HKP1 := Lib.hid HB9.out.lt
  have HBG1 : Hid (G < w9.heap.size) := Lib.hid HB9.out.blk.lt
  go_loopw [5] (fun j wr => ∃ v, LpD w9.heap.size 56 3 TailQ tailF zTail l I G n1 m1 w9 wr v j ∧ Blk wr G 46 #[.int .i64 a, .int .i64 b, .bool c, .int .i64 d, .slice Av5 f.length cv5, .int .i64 g, .int .i64 h, v]) (fun j _ => (intOf j).toNat)
  case atStart => exact ⟨_, LpD.start w9 HB9.out.in_, HB9.out.blk⟩
  case round =>
   obtain ⟨v, ⟨K1, t1, ys1, css1, rfl, hk, hyl, hacc, hi, hgr, hrun⟩, hbg⟩ := hrel
   obtain ⟨Av1, cv1, hv⟩ := own_slice hacc.1
   rw [hyl] at hv
   subst hv
   have HACC := Lib.hid hacc
   have HGR := Lib.hid hgr
   have HRUN := Lib.hid hrun
   have HI2 := Lib.hid hi
   have HYL := Lib.hid hyl
   have HBG := Lib.hid hbg
   obtain ⟨A0, m0, c0, k0, k1, f0, f1⟩ := hi.cells
   have hn := HC1.out.1
   clear hacc hgr hrun hi hbg
   by_cases hgo : K1 < n1 ∧ t1.isSome = true
   ·obtain ⟨hlt, hts⟩ := hgo
    have hpos : (0 : Int) < (n1 : Int) - (K1 : Int) := by omega
    rw [hts] at k1
    have CN0 := Lib.hid (in_num I l t1 wr HI2.out)
    go_wp2_with fail
    refine CN0.out.mono ?_
    rintro e x0 ⟨u0, a0, rfl, hi, hg, hst, hy1, hy2⟩
    have HST0 := Lib.hid hst
    have HWF0 := Lib.hid (wfi_num hy1 hy2)
    clear hst hy1 hy2 CN0
    obtain ⟨X, hX⟩ : ∃ X, X = x0.heap.size := ⟨_, rfl⟩
    obtain ⟨y0, hy⟩ : ∃ W, W = x0.alloc (.cells #[.int .i64 a0, .int .i64 0, .slice none 0 0] 56) := ⟨_, rfl⟩
    have HE0 : Hid (BoxX wr I l X 56 y0 u0 #[.int .i64 a0, .int .i64 0, .slice none 0 0] (fun _ => True)) := Lib.hid (by rw [hy, hX]; exact BoxX.start hi hg (Nat.lt_of_lt_of_le HI2.out.blk (Nat.le_refl _)) trivial KeepsP.true_)
    clear hi hg k0 k1 f0 f1
    have CN1 := Lib.hid (in_num I l u0 y0 HE0.out.in_)
    go_upto_region 14 with fail
    rw [← hy, ← hX]
    clear hy hX
    go_wp2_with fail
    refine CN1.out.mono ?_
    rintro e x1 ⟨u1, a1, rfl, hi, hg, hst, hy1, hy2⟩
    have HST1 := Lib.hid hst
    have HWF1 := Lib.hid (wfi_num hy1 hy2)
    clear hst hy1 hy2 CN1
    have HF1 := Lib.hid (HE0.out.call hg hi)
    obtain ⟨p0, p1, p2, z0, z1, z2⟩ := blk3f HF1.out.blk
    obtain ⟨y1, hy⟩ : ∃ W, W = x1.setCell ⟨X, 1, none⟩ (.int .i64 a1) := ⟨_, rfl⟩
    have HE1 : Hid (BoxX wr I l X 56 y1 u1 #[.int .i64 a0, .int .i64 a1, .slice none 0 0] (fun _ => True)) := Lib.hid (by rw [hy]; simpa using HF1.out.set_ 1 (.int .i64 a1))
    clear hi hg HF1 HE0
    have CN2 := Lib.hid (in_stops I l u1 y1 HE1.out.in_)
    go_upto_region 15 with fail
    rw [← hy]
    clear hy p0 z0 p1 z1 p2 z2
    go_wp2_with fail
    refine CN2.out.mono ?_
    rintro e x2 ⟨u2, a2, v2, rfl, hi, hg, hst, hsl⟩
    obtain ⟨Ae, ce, rfl, _⟩ := id hsl
    have HST2 := Lib.hid hst
    have HGX := Lib.hid HE1.out.blk.lt
    have HSE : Hid (SlP X 2 (fun _ => StopC) (.slice Ae a2.length ce) a2 x2) := Lib.hid (hsl.keep (fun p u _ h => h) (fun b h => ⟨by have := HGX.out; omega, h.2⟩) (fun _ _ h => h))
    clear hst hsl CN2
    have HF2 := Lib.hid ((HE1.out.call hg hi).add HSE.out (KeepsP.sl HE1.out.lt keeps_stop))
    obtain ⟨p0, p1, p2, z0, z1, z2⟩ := blk3f HF2.out.blk
    obtain ⟨y2, hy⟩ : ∃ W, W = x2.setCell ⟨X, 2, none⟩ (.slice Ae a2.length ce) := ⟨_, rfl⟩
    have HE2 : Hid (BoxX wr I l X 56 y2 u2 #[.int .i64 a0, .int .i64 a1, .slice Ae a2.length ce] (fun W => True ∧ SlP X 2 (fun _ => StopC) (.slice Ae a2.length ce) a2 W)) := Lib.hid (by rw [hy]; simpa using HF2.out.set_ 2 (.slice Ae a2.length ce))
    clear hi hg HF2 HE1
    go_upto_region 16 with fail
    rw [← hy]
    clear hy p0 z0 p1 z1 p2 z2
    obtain ⟨p0, p1, p2, z0, z1, z2⟩ := blk3f HE2.out.blk
    have HBR2 := Lib.hid (HBG.out.grown HE2.out.gr (by have := HKP1.out; intro e; injection e with e; omega))
    obtain ⟨g0, g1, g2, g3, g4, g5, g6, g7⟩ := blk8s HBR2.out
    have gz := HBR2.out.frozen 7
    have HSW := Lib.hid HGR.out.size
    have HO2 : Hid ((y2.alloc (.cells #[.int .i64 a0, .int .i64 a1, .slice Ae a2.length ce] 56)).ownsRow w9.heap.size 56 3 (.slice Av1 K1 cv1) K1 css1.flatten) := Lib.hid (LpD.own HYL.out HACC.out (Nat.lt_of_lt_of_le HKP1.out (Nat.le_of_lt HBG1.out)) (only_alloc HE2.out.gr (.cells #[.int .i64 a0, .int .i64 a1, .slice Ae a2.length ce] 56)))
    have HSY : Hid (w9.heap.size ≤ (y2.alloc (.cells #[.int .i64 a0, .int .i64 a1, .slice Ae a2.length ce] 56)).heap.size) := Lib.hid (by rw [World.size_alloc]; have := HSW.out; have := HE2.out.gr.size; omega)
    go_wp2_with (at_builtin; refine wpList_append_any _ rfl (.tmp 67) (.tmp 69) 44 rfl w9.heap.size 56 i1 _ 3 40 Try.underlying44 hi1 hz1 hsz1 hb1 rfl (by omega) (.slice Av1 K1 cv1) K1 css1.flatten rfl HO2.out (y2.heap.size + 1) (some ⟨y2.heap.size, 0, none⟩) 1 1 [.int .i64 a0, .int .i64 a1, .slice Ae a2.length ce] rfl (reads_lit _ _ 3 rfl _ _) (by intro u hu; simp at hu; rcases hu with rfl | rfl | rfl <;> rfl) (by unfold maxLen; omega) (by omega) HSY.out ?_; intro v9 w3 ho hg hat; obtain ⟨A9, c9, rfl⟩ := own_slice ho; have HO3 := Lib.hid ho; have HG6 := Lib.hid hg; have HAT4 := Lib.hid hat; have HBR3 := Lib.hid ((HBR2.out.alloc (.cells #[.int .i64 a0, .int .i64 a1, .slice Ae a2.length ce] 56)).grown hg (fun e => by have h1 := (own_lt2 HO2.out e.symm).2; have := HBG1.out; omega)); have gz := HBR3.out.frozen 7; obtain ⟨g0, g1, g2, g3, g4, g5, g6, g7⟩ := blk8s HBR3.out; clear ho hg hat)
    have HL : Hid (LpD w9.heap.size 56 3 TailQ tailF zTail l I G n1 m1 w9 w3 (.slice A9 (K1 + 1) c9) (.int .i64 ((n1 : Int) - (K1 : Int) - 1))) := Lib.hid (LpD.next keeps_tail hlt HYL.out HACC.out HGR.out HRUN.out (Nat.lt_of_lt_of_le HKP1.out (Nat.le_of_lt HBG1.out)) HSW.out (only_alloc HE2.out.gr _) (HE2.out.alloc _).in_ (step_tail HST0.out HST1.out HST2.out) rfl ⟨_, rfl, (HE2.out.alloc _).rest.2.up keeps_stop HE2.out.2.1, HWF0.out, HWF1.out⟩ HO3.out HG6.out HAT4.out)
    have HL2 := Lib.hid (HL.out.set_ keeps_tail HBG1.out HKP1.out 7 (.slice A9 (K1 + 1) c9))
    have HBR4 : Hid (Blk (w3.setCell ⟨G, 7, none⟩ (.slice A9 (K1 + 1) c9)) G 46 #[.int .i64 a, .int .i64 b, .bool c, .int .i64 d, .slice Av5 f.length cv5, .int .i64 g, .int .i64 h, .slice A9 (K1 + 1) c9]) := Lib.hid (by simpa using HBR3.out.set_ 7 (.slice A9 (K1 + 1) c9))
    go_wp2_with fail
    clear g0 g1 g2 g3 g4 g5 g6 g7 gz p0 z0 p1 z1 p2 z2
    go_roundw
    case rel => first | exact ⟨_, HL2.out, HBR4.out⟩ | ((repeat apply Exists.intro); exact ⟨⟨_, HL2.out, HBR4.out⟩, rfl⟩)
    case measure => simp [intOf]; omega
   ·have HBK := Lib.hid (HB9.out.loop HGR.out HBG.out HI2.out)
    have HSL : Hid (SlP G 3 TailQ (.slice Av1 K1 cv1) ys1 wr) := Lib.hid (SlP.of_acc HACC.out keeps_tail HBG1.out)
    have HBY1 := Lib.hid (HBK.out.add HSL.out (KeepsP.sl HKP1.out keeps_tail))
    have HQ1 : Hid (StepD (listF tailF zTail) [] l s7 t1 ys1) := Lib.hid (HRUN.out.done codec_tail HAT7.out HC1.out HB9.out.in_.at_ hk (by rcases t1 with _ | p; exact .inr rfl; exact .inl (by simp at hgo; omega)))
    clear HACC HGR HRUN HI2 HBG HBK HSL
    have HEX0 : True := trivial
    have HEX : ((0 : Int) < (n1 : Int) - (K1 : Int) → t1.isSome = false) := fun h => by rcases t1 with _ | p; rfl; simp at hgo; omega
    obtain ⟨bb1, hb⟩ : ∃ bb, t1.isSome = bb := ⟨_, rfl⟩
    rw [hb] at k1 HEX
    clear hgo
    clear HEX0
    go_upto_region 11 with fail
    go_cut [54] (fun x wx => x = .bool false ∧ wx = wr)
    case first =>
     by_cases hp : (0 : Int) < (n1 : Int) - (K1 : Int)
     ·have hbf := HEX hp
      subst hbf
      go_wp2_with fail
      go_meet
      exact ⟨rfl, rfl⟩
     ·have hp2 : (n1 : Int) - (K1 : Int) ≤ 0 := by omega
      go_wp2_with fail
      go_meet
      exact ⟨rfl, rfl⟩
    case rest =>
     obtain ⟨rfl, hcw⟩ := hcut
     subst hcw
     obtain ⟨V1, hV⟩ : ∃ V, V = wc := ⟨wc, rfl⟩
     subst hV
     clear k0 k1 f0 f1 HEX hb
     have HAB := Lib.hid HBY1.out.rest
     have HZ : Hid (Blk V1 w.heap.size 46 #[.int .i64 0, .int .i64 0, .bool false, .int .i64 0, .slice none 0 0, .int .i64 0, .int .i64 0, .slice none 0 0]) := Lib.hid HAB.out.1.1
     obtain ⟨g0, g1, g2, g3, g4, g5, g6, g7⟩ := blk8s HBY1.out.blk
     obtain ⟨h0, h1, h2, h3, h4, h5, h6, h7⟩ := blk8s HZ.out
     have z0 := HZ.out.frozen 0
     have z1 := HZ.out.frozen 1
     have z2 := HZ.out.frozen 2
     have z3 := HZ.out.frozen 3
     have z4 := HZ.out.frozen 4
     have z5 := HZ.out.frozen 5
     have z6 := HZ.out.frozen 6
     have z7 := HZ.out.frozen 7
     have HBX : Hid (BoxX w I l w.heap.size 46 V1 t1 #[.int .i64 0, .int .i64 0, .bool false, .int .i64 0, .slice none 0 0, .int .i64 0, .int .i64 0, .slice none 0 0] (fun W => SlP w.heap.size 2 (fun _ => StopC) (.slice Av5 f.length cv5) f W ∧ SlP w.heap.size 3 TailQ (.slice Av1 K1 cv1) ys1 W)) := Lib.hid
      ⟨HIW.out, Nat.le_refl _, HZ.out, HBY1.out.in_, HBY1.out.gr, ⟨HAB.out.1.2.low keeps_stop (Nat.le_of_lt HGW.out), HAB.out.2.low keeps_tail (Nat.le_of_lt HGW.out)⟩, (KeepsP.sl HIW.out keeps_stop).and_ (KeepsP.sl HIW.out keeps_tail)⟩
     go_wp2_with fail
     have hbx := ((((((((HBX.out.set_ 0 (.int .i64 a)).set_ 1 (.int .i64 b)).set_ 2 (.bool c)).set_ 3 (.int .i64 d)).set_ 4 (.slice Av5 f.length cv5)).set_ 5 (.int .i64 g)).set_ 6 (.int .i64 h)).set_ 7 (.slice Av1 K1 cv1))
     generalize ((((((((V1.setCell ⟨w.heap.size, 0, none⟩ (.int .i64 a)).setCell ⟨w.heap.size, 1, none⟩ (.int .i64 b)).setCell ⟨w.heap.size, 2, none⟩ (.bool c)).setCell ⟨w.heap.size, 3, none⟩ (.int .i64 d)).setCell ⟨w.heap.size, 4, none⟩ (.slice Av5 f.length cv5)).setCell ⟨w.heap.size, 5, none⟩ (.int .i64 g)).setCell ⟨w.heap.size, 6, none⟩ (.int .i64 h)).setCell ⟨w.heap.size, 7, none⟩ (.slice Av1 K1 cv1)) = X at hbx ⊢
     have hbk : Blk X w.heap.size 46 #[.int .i64 a, .int .i64 b, .bool c, .int .i64 d, .slice Av5 f.length cv5, .int .i64 g, .int .i64 h, .slice Av1 K1 cv1] := by simpa using hbx.blk
     obtain ⟨q0, q1, q2, q3, q4, q5, q6, q7⟩ := blk8s hbk
     refine bodyPost_ret (v := .agg #[.int .i64 a, .int .i64 b, .bool c, .int .i64 d, .slice Av5 f.length cv5, .int .i64 g, .int .i64 h, .slice Av1 K1 cv1]) (by simp [results, Try.results56, go_sem, q0, q1, q2, q3, q4, q5, q6, q7]) rfl ?_
     refine ⟨t1, ⟨a, b, c, d, f, g, h, ys1⟩, [.int .i64 a, .int .i64 b, .bool c, .int .i64 d, .slice Av5 f.length cv5, .int .i64 g, .int .i64 h, .slice Av1 K1 cv1], rfl, hbx.in_, hbx.gr, step_row HS1.out HS2.out HS3.out HS4.out HS5.out HS6.out HS7.out HQ1.out, rfl, ⟨_, _, rfl, hbx.rest.1.le keeps_stop, hbx.rest.2.le keeps_tail, HW1.out, HW2.out, HW4.out, HW6.out, HW7.out⟩⟩
end Go.Proofs.Ytioocaicmiggoaa

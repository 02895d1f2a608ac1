/- Lset, Lri, Lgo: texts merged for a claim by a program of mine. -/
import Derived.Maps.OwnOps
import Derived.Maps.OwnSet
import Derived.Test.YtioocaicmiggoaaA20
import Derived.BigQuiet
import Derived.Deep.RegionWith
import Derived.StillTailTactics
namespace Go.Proofs.Ytioocaicmiggoaa
set_option linter.unusedVariables false
set_option linter.unusedSimpArgs false
open Go.RowKit Go.Deep Go.Maps
theorem law_ib : Keyed Try.prog 3 := int_keyed Try.underlying3
theorem zero_bool (w : World) : (zeroValue 4).run Try.prog w = .ok (.bool false) w := by kernel_rfl
def SetX (w : World) (b n : Nat) (S : List Int) : Prop :=
 ∃ D : DataW Unit, w.ownsMap Try.prog 3 (plainElem Try.prog 4) b n D ∧ Maps.size D = S.length ∧ (∀ k, wfi k → has D (.int .i64 k) = decide (k ∈ S) ∧ D.atKey (.int .i64 k) (.lit (.bool false)) = .lit (.bool (decide (k ∈ S))))
def addS (k : Int) (S : List Int) : List Int := if k ∈ S then S else k :: S
theorem mem_addS (k j : Int) (S : List Int) : j ∈ addS k S ↔ j = k ∨ j ∈ S := by
 unfold addS
 split
 ·constructor
  ·exact .inr
  ·rintro (rfl | h) <;> assumption
 ·simp
theorem plain_bool_inv {P : Program} {e : TypeId} (he : P.underlying e = some .bool) {v : Value} {z : DataW Unit × List MemPlace} (h : plainElem P e v = some z) : ∃ x, v = .bool x ∧ z = (.lit (.bool x), []) := by
 unfold plainElem at h
 simp only [he] at h
 cases v with
 | bool x => simp at h; exact ⟨x, rfl, h.symm⟩
 | _ => simp at h
theorem SetX.made (w : World) : SetX (w.alloc (.map #[] 0)) w.heap.size 0 [] :=
 ⟨.map [], World.ownsMap_made _ _ _ _, rfl, fun k hk => ⟨by simp [has_eq], rfl⟩⟩
theorem SetX.lt {w : World} {b n : Nat} {S : List Int} (h : SetX w b n S) : b < w.heap.size := by
 obtain ⟨D, h1, _⟩ := h
 exact h1.lt
theorem SetX.mono {w : World} {b n n' : Nat} {S : List Int} (h : SetX w b n S) (hn : n ≤ n') : SetX w b n' S := by
 obtain ⟨D, h1, h2⟩ := h
 exact ⟨D, h1.mono hn, h2⟩
theorem SetX.kept {w w' : World} {row : Option Nat} {b n : Nat} {S : List Int} (h : SetX w b n S) (hg : w.grownBy w' row) (hne : some b ≠ row) : SetX w' b n S := by
 obtain ⟨D, h1, h2⟩ := h
 exact ⟨D, h1.kept hg hne, h2⟩
theorem SetX.below {w w' : World} {B b n : Nat} {S : List Int} (h : SetX w b n S) (hb : Below B w w') (hB : b < B) : SetX w' b n S := by
 obtain ⟨D, ⟨es, clock, hh, h1⟩, h2⟩ := h
 exact ⟨D, ⟨es, clock, (hb.block b hB).trans hh, h1⟩, h2⟩
theorem SetX.alloc {w : World} {b n : Nat} {S : List Int} (h : SetX w b n S) (o : Obj) : SetX (w.alloc o) b n S := by
 obtain ⟨D, h1, h2⟩ := h
 exact ⟨D, h1.alloc o, h2⟩
theorem SetX.drewN {w : World} {b n : Nat} {S : List Int} (h : SetX w b n S) (k : Nat) : SetX (w.drewN k) b n S := by
 obtain ⟨D, ⟨es, clock, hh, h1⟩, h2⟩ := h
 exact ⟨D, ⟨es, clock, hh, h1⟩, h2⟩
theorem SetX.look {w : World} {b n : Nat} {S : List Int} (h : SetX w b n S) {k : Int} (hk : wfi k) : (Instr.lookup 60 (.map (some b)) (.int .i64 k) false).run Try.prog w = .ok (.bool (decide (k ∈ S))) w := by
 obtain ⟨D, h1, h2, h3⟩ := h
 obtain ⟨v, ps, hrun, hv⟩ := h1.lookup law_ib Try.underlying60 (zero_bool w) (plainElem_bool Try.underlying4 false) (keyOf_int_mk Try.underlying3 hk)
 obtain ⟨x, rfl, hx⟩ := plain_bool_inv Try.underlying4 hv
 have hx : D.atKey (.int .i64 k) (.lit (.bool false)) = .lit (.bool x) := congrArg Prod.fst hx
 have h4 := (h3 k hk).2.symm.trans hx
 simp only [DataW.lit.injEq, Lit.bool.injEq] at h4
 exact hrun.trans (by rw [h4])
theorem SetX.len {w : World} {b n : Nat} {S : List Int} (h : SetX w b n S) (ty : TypeId) : (Builtin.len_ #[60] ty #[.map (some b)]).run Try.prog w = .ok (.int .i64 S.length) w := by
 obtain ⟨D, h1, h2, h3⟩ := h
 have := h1.len Try.underlying60 ty
 rw [h2] at this
 exact this
theorem SetX.store {w : World} {b n : Nat} {S : List Int} (h : SetX w b n S) {k : Int} (hk : wfi k) (hn : n < maxLen) :
  ∃ w', (Instr.mapUpdate 60 (.map (some b)) (.int .i64 k) (.bool true)).run Try.prog w = .ok () w' ∧ SetX w' b (n + 1) (addS k S) ∧ w.grownBy w' (some b) := by
 obtain ⟨D, h1, h2, h3⟩ := h
 have hkey : keyOf Try.prog 3 (.int .i64 k) = some (.int .i64 k) := keyOf_int_mk Try.underlying3 hk
 have htidy := h1.tidy law_ib
 obtain ⟨w', hrun, ho, hg⟩ := h1.update law_ib Try.underlying60 hn hkey (plainElem_bool Try.underlying4 true)
 refine ⟨w', hrun, ⟨_, ho, ?_, fun j hj => ?_⟩, hg⟩
 ·rw [size_put htidy, (h3 k hk).1]
  unfold addS
  by_cases hm : k ∈ S
  ·rw [decide_eq_true hm, if_pos hm, if_pos rfl, h2]
  ·rw [decide_eq_false hm, if_neg hm, if_neg (by simp), h2]; rfl
 ·have hkl : WideAt.IsKeyLit (.int .i64 k) := law_ib.key hkey
  by_cases hjk : j = k
  ·subst hjk
   have hm : j ∈ addS j S := (mem_addS j j S).2 (.inl rfl)
   rw [decide_eq_true hm]
   exact ⟨has_put_same htidy.isMap hkl _, atKey_put_same htidy.isMap hkl _ _⟩
  ·have hne : Lit.int .i64 j ≠ .int .i64 k := fun h => by injection h; exact hjk (by assumption)
   rw [has_put_other hne, atKey_put_other hne]
   have hm : decide (j ∈ addS k S) = decide (j ∈ S) := by
    rw [Bool.eq_iff_iff, decide_eq_true_eq, decide_eq_true_eq, mem_addS]
    exact ⟨fun h => h.resolve_left hjk, .inr⟩
   rw [hm]
   exact h3 j hj
end Go.Proofs.Ytioocaicmiggoaa
namespace Go.Proofs.Ytioocaicmiggoaa
set_option linter.unusedVariables false
set_option linter.unusedSimpArgs false
open Go.RowKit Go.Deep Go.Maps
def writB (nr : Int) (x : TIns) : Bool := decide (0 ≤ x.dst) && decide (x.dst < nr)
def rightC (wr ra rb sa : Bool) (ns ni nc : Int) (x : TIns) : Bool :=
 if x.op = 50 then wr && decide (x.b = 0) && decide (0 ≤ x.a) && decide (x.a < ni)
 else if x.op = 51 then wr && decide (x.b = 0) && decide (0 ≤ x.a) && decide (x.a < nc)
 else if x.op = 53 then decide (x.dst = 0) && decide (0 ≤ x.a) && decide (x.a < ns) && rb
 else if x.op = 54 then wr && decide (x.b = 0) && sa
 else if x.op = 52 then decide (x.dst = 0) && decide (x.b = 0) && ra
 else if x.op = 6 ∨ (15 ≤ x.op ∧ x.op ≤ 17) then wr && decide (x.b = 0) && ra
 else decide (1 ≤ x.op) && decide (x.op ≤ 14) && wr && ra && rb
def rightB (R S : List Int) (nr ns ni nc : Int) (x : TIns) : Bool := rightC (writB nr x) (decide (x.a ∈ R)) (decide (x.b ∈ R)) (decide (x.a ∈ S)) ns ni nc x
theorem blk7 {w : World} {g : Nat} {t : TypeId} {a0 a1 a2 a3 a4 a5 a6 : Value} (h : Blk w g t #[a0, a1, a2, a3, a4, a5, a6]) :
  w.cell? ⟨g, 0, none⟩ = some a0 ∧ w.cell? ⟨g, 1, none⟩ = some a1 ∧ w.cell? ⟨g, 2, none⟩ = some a2 ∧ w.cell? ⟨g, 3, none⟩ = some a3 ∧ w.cell? ⟨g, 4, none⟩ = some a4 ∧ w.cell? ⟨g, 5, none⟩ = some a5 ∧ w.cell? ⟨g, 6, none⟩ = some a6 :=
 ⟨h.cell 0, h.cell 1, h.cell 2, h.cell 3, h.cell 4, h.cell 5, h.cell 6⟩
theorem blk4 {w : World} {g : Nat} {t : TypeId} {a0 a1 a2 a3 : Value} (h : Blk w g t #[a0, a1, a2, a3]) :
  w.cell? ⟨g, 0, none⟩ = some a0 ∧ w.cell? ⟨g, 1, none⟩ = some a1 ∧ w.cell? ⟨g, 2, none⟩ = some a2 ∧ w.cell? ⟨g, 3, none⟩ = some a3 :=
 ⟨h.cell 0, h.cell 1, h.cell 2, h.cell 3⟩
set_option maxRecDepth 100000 in
set_option maxHeartbeats 4000000 in
theorem right_any (x : TIns) (w : World) (g bR nR bS nS : Nat) (R S : List Int) (nr ns : Int) (A2 A3 : Option Addr) (n2 c2 n3 c3 : Nat) (vl : Value)
  (hB : Blk w g 92 #[.int .i64 nr, .int .i64 ns, .slice A2 n2 c2, .slice A3 n3 c3, vl, .map (some bR), .map (some bS)]) (hR : SetX w bR nR R) (hS : SetX w bS nS S) (h2 : n2 ≤ c2 ∧ c2 ≤ maxLen) (h3 : n3 ≤ c3 ∧ c3 ≤ maxLen) (wa : wfi x.a) (wb : wfi x.b) :
  Calls Try.prog 43 #[.pointer (some ⟨g, 0, none⟩), .agg #[.int .i64 x.op, .int .i64 x.dst, .int .i64 x.a, .int .i64 x.b]] w (BoolP w (rightB R S nr ns n2 n3 x)) := by
 obtain ⟨h21, h22⟩ := h2
 obtain ⟨h31, h32⟩ := h3
 unfold maxLen at h22 h32
 obtain ⟨w1, hw1⟩ : ∃ w1, w1 = w.alloc (.cells #[.int .i64 x.op, .int .i64 x.dst, .int .i64 x.a, .int .i64 x.b] 75) := ⟨_, rfl⟩
 have BX : Blk w1 w.heap.size 75 #[.int .i64 x.op, .int .i64 x.dst, .int .i64 x.a, .int .i64 x.b] := by rw [hw1]; exact Blk.new w _ _
 have BG := hB.alloc (.cells #[.int .i64 x.op, .int .i64 x.dst, .int .i64 x.a, .int .i64 x.b] 75)
 rw [← hw1] at BG
 have HB1 : Hid (Below w.heap.size w w1) := Lib.hid (by rw [hw1]; exact (Below.refl w.heap.size w).alloc (Nat.le_refl _) _)
 have hgl := hB.lt
 have LRa := fun n => ((hR.alloc (.cells #[.int .i64 x.op, .int .i64 x.dst, .int .i64 x.a, .int .i64 x.b] 75)).drewN n).look wa
 have LRb := fun n => ((hR.alloc (.cells #[.int .i64 x.op, .int .i64 x.dst, .int .i64 x.a, .int .i64 x.b] 75)).drewN n).look wb
 have LSa := fun n => ((hS.alloc (.cells #[.int .i64 x.op, .int .i64 x.dst, .int .i64 x.a, .int .i64 x.b] 75)).drewN n).look wa
 rw [← hw1] at LRa LRb LSa
 unfold rightB
 obtain ⟨ra, hra⟩ : ∃ ra, decide (x.a ∈ R) = ra := ⟨_, rfl⟩
 obtain ⟨rb, hrb⟩ : ∃ rb, decide (x.b ∈ R) = rb := ⟨_, rfl⟩
 obtain ⟨sa, hsa⟩ : ∃ sa, decide (x.a ∈ S) = sa := ⟨_, rfl⟩
 rw [hra] at LRa ⊢
 rw [hrb] at LRb ⊢
 rw [hsa] at LSa ⊢
 clear hra hrb hsa
 obtain ⟨wr, hwr⟩ : ∃ wr, writB nr x = wr := ⟨_, rfl⟩
 have HWR := Lib.hid hwr
 rw [hwr]
 clear hwr
 obtain ⟨k0, k1, k2, k3, k4, k5, k6⟩ := blk7 BG
 obtain ⟨x0, x1, x2, x3⟩ := blk4 BX
 clear BG BX hB hR hS
 go_enter Try.func43, Try.ntmps43
 go_upto_region 1 with fail
 rw [← hw1]
 clear hw1
 go_cut [5] from 6 to 18 (fun b wx => b = .bool wr ∧ ∃ n, wx = w1.drewN n)
 case first =>
  refine wp_region_quiet_lit (by kernel_rfl) (by kernel_rfl) ?_
  repeat (any_goals (first | go_big_quiet_step (fail) | quiet_step (fail) | (refine wpQuiet_step (fun K hK => ?_); go_simp; split <;> (refine hK _ ?_; clear hK K))))
  all_goals (refine wpQuiet_nil ?_; intro _ hw'; obtain ⟨nq, hw''⟩ := hw'; subst hw'')
  all_goals go_wp2_with fail
  all_goals (go_meet; refine ⟨?_, _, rfl⟩; rw [← HWR.out]; congr 1; rw [Bool.eq_iff_iff]; unfold writB; simp; try omega)
 case rest =>
  obtain ⟨rfl, n, rfl⟩ := hcut
  clear HWR
  cases wr
  all_goals go_wp2_with fail
  all_goals (
   refine wp_region_quiet_lit (by kernel_rfl) (by kernel_rfl) ?_
   repeat (any_goals (first | go_big_quiet_step (fail) | quiet_step (fail) | (refine wpQuiet_step (fun K hK => ?_); go_simp; split <;> (refine hK _ ?_; clear hK K))))
   all_goals (refine wpQuiet_nil ?_; intro _ hw'; obtain ⟨nq, hw''⟩ := hw'; subst hw'')
   all_goals go_wp2_with fail
   all_goals (go_ret; refine ⟨ret_bool ?_, by first | exact below_drewN HB1.out _ | exact below_drewN (below_drewN HB1.out _) _⟩; (try simp only [beq_iff_eq, beq_eq_false_iff_ne, bne_iff_ne, ne_eq] at *); rw [Bool.eq_iff_iff]; unfold rightC; first | (simp [*]; done) | (simp [*]; omega) | (simp [*]; split <;> omega)))
end Go.Proofs.Ytioocaicmiggoaa
namespace Go.Proofs.Ytioocaicmiggoaa
set_option linter.unusedVariables false
set_option linter.unusedSimpArgs false
open Go.RowKit Go.Deep Go.Maps
theorem blk2 {w : World} {g : Nat} {t : TypeId} {a0 a1 : Value} (h : Blk w g t #[a0, a1]) :
  w.cell? ⟨g, 0, none⟩ = some a0 ∧ w.cell? ⟨g, 1, none⟩ = some a1 :=
 ⟨h.cell 0, h.cell 1⟩
theorem inps_get {w : World} {v : Value} {l : List TInp} (h : SlR 4 InpC w v l) {i : Nat} {x : TInp} (hx : l[i]? = some x) :
  ∃ b off c, v = .slice (some ⟨b, off, none⟩) l.length c ∧ l.length ≤ c ∧ c ≤ maxLen ∧ w.cell? ⟨b, off + i * 4, none⟩ = some (.int .i64 x.op) ∧ w.cell? ⟨b, off + i * 4 + 1, none⟩ = some (.int .i64 x.kind) ∧ w.cell? ⟨b, off + i * 4 + 2, none⟩ = some (.int .i64 x.pos) ∧
   w.cell? ⟨b, off + i * 4 + 3, none⟩ = some (.int .i64 x.attr) ∧ wfi x.op ∧ wfi x.kind ∧ wfi x.pos ∧ wfi x.attr := by
 obtain ⟨b, off, c, hv, h1, h2, hi, cs, hl, ⟨rfl, hw⟩, hc⟩ := h.get hx
 exact ⟨b, off, c, hv, h1, h2, hc 0 _ rfl, hc 1 _ rfl, hc 2 _ rfl, hc 3 _ rfl, hw⟩
theorem vals_get {w : World} {v : Value} {l : List TVal} (h : SlR 2 ValC w v l) {i : Nat} {x : TVal} (hx : l[i]? = some x) :
  ∃ b off c, v = .slice (some ⟨b, off, none⟩) l.length c ∧ l.length ≤ c ∧ c ≤ maxLen ∧ w.cell? ⟨b, off + i * 2, none⟩ = some (.int .i64 x.kind) ∧ w.cell? ⟨b, off + i * 2 + 1, none⟩ = some (.int .u64 x.bits) ∧ wfi x.kind ∧ wfu x.bits := by
 obtain ⟨b, off, c, hv, h1, h2, hi, cs, hl, ⟨rfl, hw⟩, hc⟩ := h.get hx
 exact ⟨b, off, c, hv, h1, h2, hc 0 _ rfl, hc 1 _ rfl, hw⟩
theorem inss_get {w : World} {v : Value} {l : List TIns} (h : SlR 4 InsC w v l) {i : Nat} {x : TIns} (hx : l[i]? = some x) :
  ∃ b off c, v = .slice (some ⟨b, off, none⟩) l.length c ∧ l.length ≤ c ∧ c ≤ maxLen ∧ w.cell? ⟨b, off + i * 4, none⟩ = some (.int .i64 x.op) ∧ w.cell? ⟨b, off + i * 4 + 1, none⟩ = some (.int .i64 x.dst) ∧ w.cell? ⟨b, off + i * 4 + 2, none⟩ = some (.int .i64 x.a) ∧
   w.cell? ⟨b, off + i * 4 + 3, none⟩ = some (.int .i64 x.b) ∧ wfi x.op ∧ wfi x.dst ∧ wfi x.a ∧ wfi x.b := by
 obtain ⟨b, off, c, hv, h1, h2, hi, cs, hl, ⟨rfl, hw⟩, hc⟩ := h.get hx
 exact ⟨b, off, c, hv, h1, h2, hc 0 _ rfl, hc 1 _ rfl, hc 2 _ rfl, hc 3 _ rfl, hw⟩
def codeN (c : TCode) : Bool := decide (1 ≤ c.regs) && decide (c.regs ≤ 1024) && decide (0 ≤ c.slots) && decide (c.slots ≤ 256) && decide (1 ≤ c.list.length) && decide (c.list.length ≤ 1024)
def valB (v : TVal) : Bool := decide ((cleanV v).kind = v.kind) && decide ((cleanV v).bits = v.bits)
def goodL (nr ns ni nc : Int) (len : Nat) : Nat → List Int → List Int → List TIns → Bool
 | _, _, _, [] => true
 | i, R, S, x :: xs => rightB R S nr ns ni nc x && (decide (x.op = 52) == decide (i + 1 = len)) && (if x.op = 53 then goodL nr ns ni nc len (i + 1) R (addS x.a S) xs else if x.op = 52 then goodL nr ns ni nc len (i + 1) R S xs else goodL nr ns ni nc len (i + 1) (addS x.dst R) S xs)
theorem goodL_step {nr ns ni nc : Int} {len r : Nat} {R S : List Int} {l : List TIns} {x : TIns} (hx : l[r]? = some x) : goodL nr ns ni nc len r R S (l.drop r) = (rightB R S nr ns ni nc x && (decide (x.op = 52) == decide (r + 1 = len)) && (if x.op = 53 then goodL nr ns ni nc len (r + 1) R (addS x.a S) (l.drop (r + 1)) else if x.op = 52 then goodL nr ns ni nc len (r + 1) R S (l.drop (r + 1)) else goodL nr ns ni nc len (r + 1) (addS x.dst R) S (l.drop (r + 1)))) := by
 have hr := (List.getElem?_eq_some_iff.1 hx).1
 have e : l.drop r = x :: l.drop (r + 1) := by
  rw [List.drop_eq_getElem_cons hr]
  rw [List.getElem?_eq_getElem hr] at hx
  injection hx with hx
  rw [hx]
 rw [e]
 rfl
def goodB (c : TCode) : Bool := codeN c && c.inputs.all inputB && c.consts.all valB && goodL c.regs c.slots c.inputs.length c.consts.length c.list.length 0 [] [] c.list
theorem all_bad {α : Type} {f : α → Bool} {l : List α} {n : Nat} {x : α} (hx : l[n]? = some x) (hf : f x = false) : l.all f = false := by
 rw [List.all_eq_false]
 exact ⟨x, List.mem_of_getElem? hx, by rw [hf]; simp⟩
def MemG (c : TCode) (vi vc vl : Value) (H : Nat) (w4 w : World) (n : Nat) (R S : List Int) : Prop :=
 Below H w4 w ∧ SetX w H n R ∧ SetX w (H + 1) n S ∧ Blk w (H + 1 + 1) 92 #[.int .i64 c.regs, .int .i64 c.slots, vi, vc, vl, .map (some H), .map (some (H + 1))]
section
variable {c : TCode} {vi vc vl : Value} {H : Nat} {w4 w w' : World} {n : Nat} {R S : List Int}
theorem MemG.below (h : MemG c vi vc vl H w4 w n R S) (hb : Below w.heap.size w w') : MemG c vi vc vl H w4 w' n R S :=
 ⟨h.1.trans (hb.mono (by have := h.2.1.lt; omega)), h.2.1.below hb h.2.1.lt, h.2.2.1.below hb h.2.2.1.lt, h.2.2.2.below hb h.2.2.2.lt⟩
theorem MemG.drew (h : MemG c vi vc vl H w4 w n R S) : MemG c vi vc vl H w4 w.drew n R S :=
 ⟨⟨h.1.os, h.1.tape, h.1.output, h.1.size, h.1.block⟩, h.2.1.drewN 1, h.2.2.1.drewN 1, h.2.2.2⟩
theorem MemG.next (h : MemG c vi vc vl H w4 w n R S) : MemG c vi vc vl H w4 w (n + 1) R S := ⟨h.1, h.2.1.mono (Nat.le_succ n), h.2.2.1.mono (Nat.le_succ n), h.2.2.2⟩
theorem MemG.slot (h : MemG c vi vc vl H w4 w n R S) {k : Int} (hk : wfi k) (hn : n < maxLen) :
  ∃ w', (Instr.mapUpdate 60 (.map (some (H + 1))) (.int .i64 k) (.bool true)).run Try.prog w = .ok () w' ∧ MemG c vi vc vl H w4 w' (n + 1) R (addS k S) := by
 obtain ⟨w', hr, hs, hg⟩ := h.2.2.1.store hk hn
 exact ⟨w', hr, h.1.grown hg (by have := h.2.1.lt; omega) (fun g e => by injection e with e; omega), (h.2.1.kept hg (by simp)).mono (Nat.le_succ n), hs, h.2.2.2.grown hg (fun e => by injection e with e; omega)⟩
theorem MemG.reg (h : MemG c vi vc vl H w4 w n R S) {k : Int} (hk : wfi k) (hn : n < maxLen) :
  ∃ w', (Instr.mapUpdate 60 (.map (some H)) (.int .i64 k) (.bool true)).run Try.prog w = .ok () w' ∧ MemG c vi vc vl H w4 w' (n + 1) (addS k R) S := by
 obtain ⟨w', hr, hs, hg⟩ := h.2.1.store hk hn
 exact ⟨w', hr, h.1.grown hg (by have := h.2.1.lt; omega) (fun g e => by injection e with e; omega), hs, (h.2.2.1.kept hg (by simp)).mono (Nat.le_succ n), h.2.2.2.grown hg (fun e => by injection e with e; omega)⟩
end
set_option maxRecDepth 100000 in
set_option maxHeartbeats 4000000 in
theorem good_any (c : TCode) (w : World) (vi vc vl : Value) (hi : SlR 4 InpC w vi c.inputs) (hv : SlR 2 ValC w vc c.consts) (hl : SlR 4 InsC w vl c.list) :
  Calls Try.prog 22 #[.agg #[.int .i64 c.regs, .int .i64 c.slots, vi, vc, vl]] w (BoolP w (goodB c)) := by
 obtain ⟨A1, c1, rfl, hi1, hi2⟩ := hi.slice
 obtain ⟨A2, c2, rfl, hv1', hv2'⟩ := hv.slice
 obtain ⟨A3, c3, rfl, hl1, hl2⟩ := hl.slice
 unfold maxLen at hi2 hv2' hl2
 have HI := Lib.hid (fun W (hb : Below w.heap.size w W) => keep_inps (KeepC.of_below hb) hi)
 have HV := Lib.hid (fun W (hb : Below w.heap.size w W) => keep_vals (KeepC.of_below hb) hv)
 have HL := Lib.hid (fun W (hb : Below w.heap.size w W) => keep_inss (KeepC.of_below hb) hl)
 obtain ⟨w1, hw1⟩ : ∃ w1, w1 = w.alloc (.cells #[.int .i64 c.regs, .int .i64 c.slots, .slice A1 c.inputs.length c1, .slice A2 c.consts.length c2, .slice A3 c.list.length c3] 40) := ⟨_, rfl⟩
 have B0 : Below w.heap.size w w1 := by rw [hw1]; exact (Below.refl w.heap.size w).alloc (Nat.le_refl _) _
 have hs1 : w1.heap.size = w.heap.size + 1 := by rw [hw1]; simp
 have BT : Blk w1 w.heap.size 40 #[.int .i64 c.regs, .int .i64 c.slots, .slice A1 c.inputs.length c1, .slice A2 c.consts.length c2, .slice A3 c.list.length c3] := by rw [hw1]; exact Blk.new w _ _
 have B0 := Lib.hid B0
 have BT := Lib.hid BT
 have HS1 := Lib.hid hs1
 clear hi hv hl hs1
 go_enter Try.func22, Try.ntmps22
 go_upto_region 1 with fail
 rw [← hw1]
 clear hw1
 go_cut [39] from 10 to 39 (fun b wx => b = .bool (!codeN c) ∧ wx = w1)
 case first =>
  obtain ⟨k0, k1, k2, k3, k4⟩ := blk5 BT.out
  go_wp2_with fail
  all_goals (go_meet; refine ⟨?_, rfl⟩; congr 1; rw [Bool.eq_iff_iff]; unfold codeN; simp only [Bool.or_eq_true, Bool.and_eq_true, Bool.not_eq_true', Bool.and_eq_false_iff, decide_eq_true_eq, decide_eq_false_iff_not, true_iff, false_iff]; omega)
 case rest =>
  obtain ⟨rfl, hwc⟩ := hcut
  subst hwc
  obtain ⟨hn, hhn⟩ : ∃ hn, codeN c = hn := ⟨_, rfl⟩
  have HN := Lib.hid hhn
  rw [hhn]
  clear hhn
  cases hn with
  | false =>
   have e : goodB c = false := by unfold goodB; rw [HN.out]; rfl
   have e := Lib.hid e
   go_wp2_with fail
   go_ret
   exact ⟨by first | rfl | (rw [e.out]; rfl), B0.out⟩
  | true =>
   obtain ⟨k0, k1, k2, k3, k4⟩ := blk5 BT.out
   have n1 : (0 : Int) ≤ (c.inputs.length : Int) := by omega
   go_wp2_with fail
   clear k0 k1 k2 k3 k4
   go_loopw [43] (fun s wr => ∃ r : Nat, r ≤ c.inputs.length ∧ s = .int .i64 r ∧ Hid (Below wc.heap.size wc wr) ∧ Hid ((c.inputs.take r).all inputB = true)) (fun s _ => c.inputs.length - (intOf s).toNat)
   case atStart => exact ⟨0, Nat.zero_le _, rfl, Lib.hid (Below.refl _ _), Lib.hid (by simp)⟩
   case round =>
    obtain ⟨r, hr, rfl, hb, hal⟩ := hrel
    have hs1 := HS1.out
    have hwr := hb.out.size
    have HW := Lib.hid (B0.out.trans (hb.out.mono B0.out.size))
    by_cases hlt : r < c.inputs.length
    ·obtain ⟨x, hx⟩ : ∃ x, c.inputs[r]? = some x := ⟨_, List.getElem?_eq_getElem hlt⟩
     obtain ⟨b5, off5, c5, hvv, _, _, q0, q1, q2, q3, _⟩ := inps_get (HI.out wr HW.out) hx
     injection hvv with hv1 hv2 hv3
     subst hv1
     have b1 : (0 : Int) ≤ (r : Int) := by omega
     have b2 : (r : Int) < (c.inputs.length : Int) := by omega
     have HB1 := Lib.hid (fun o => hb.out.alloc hwr o)
     have HST := Lib.hid (all_step (f := inputB) hx hal.out)
     have HBD : Hid (inputB x = false → goodB c = false) := Lib.hid (fun h => by unfold goodB; rw [all_bad hx h, Bool.and_false]; rfl)
     have CT := Lib.hid (fun W => input_any x W)
     obtain ⟨tb, htb⟩ : ∃ tb, inputB x = tb := ⟨_, rfl⟩
     rw [htb] at CT HST HBD
     clear hx hv2 hv3 htb hal hb
     go_wp2_with fail
     refine (CT.out _).mono ?_
     rintro e w3 ⟨rfl, hb3⟩
     rw [World.size_alloc] at hb3
     have HB3 := Lib.hid ((HB1.out _).trans (hb3.mono (by omega)))
     clear hb3 CT q0 q1 q2 q3
     cases tb with
     | true =>
      have e := Lib.hid (HST.out rfl)
      clear HST HBD
      go_wp2_with fail
      go_roundw
      case rel => first | exact ⟨r + 1, by omega, by go_num, HB3, e⟩ | ((repeat apply Exists.intro); exact ⟨⟨r + 1, by omega, by go_num, HB3, e⟩, rfl⟩)
      case measure => simp [intOf]; omega
     | false =>
      have e := Lib.hid (HBD.out rfl)
      clear HST HBD
      go_wp2_with fail
      go_ret
      exact ⟨by first | rfl | (rw [e.out]; rfl), B0.out.trans (HB3.out.mono (by omega))⟩
    ·have hge : (c.inputs.length : Int) ≤ (r : Int) := by omega
     have HALL : Hid (c.inputs.all inputB = true) := Lib.hid (by have h9 := hal.out; rw [List.take_of_length_le (by omega)] at h9; exact h9)
     obtain ⟨k0, k1, k2, k3, k4⟩ := blk5 (BT.out.below hb.out (by omega))
     have n2 : (0 : Int) ≤ (c.consts.length : Int) := by omega
     clear hal
     go_wp2_with fail
     go_loopw [54] (fun s wr => ∃ r : Nat, r ≤ c.consts.length ∧ s = .int .i64 r ∧ Hid (Below wc.heap.size wc wr) ∧ Hid ((c.consts.take r).all valB = true)) (fun s _ => c.consts.length - (intOf s).toNat)
     case atStart => exact ⟨0, Nat.zero_le _, rfl, Lib.hid hb.out, Lib.hid (by simp)⟩
     case round =>
      clear k0 k1 k2 k3 k4 hb HW hwr
      rename_i wr1 _
      obtain ⟨r2, hr2, rfl, hb, hal⟩ := hrel
      have hwr := hb.out.size
      have HW := Lib.hid (B0.out.trans (hb.out.mono B0.out.size))
      by_cases hlt2 : r2 < c.consts.length
      ·obtain ⟨x, hx⟩ : ∃ x, c.consts[r2]? = some x := ⟨_, List.getElem?_eq_getElem hlt2⟩
       obtain ⟨b5, off5, c5, hvv, _, _, q0, q1, _, wu⟩ := vals_get (HV.out wr HW.out) hx
       injection hvv with hv1 hv2 hv3
       subst hv1
       have b1 : (0 : Int) ≤ (r2 : Int) := by omega
       have b2 : (r2 : Int) < (c.consts.length : Int) := by omega
       have HB1 := Lib.hid (fun o => hb.out.alloc hwr o)
       have HST := Lib.hid (all_step (f := valB) hx hal.out)
       have HBD : Hid (valB x = false → goodB c = false) := Lib.hid (fun h => by unfold goodB; rw [all_bad hx h, Bool.and_false]; rfl)
       have CT := Lib.hid (fun W => clean_any x W wu)
       clear hx hv2 hv3 hal hb
       go_upto_region 12 with fail
       obtain ⟨w2, hw2⟩ : ∃ w2, w2 = wr.alloc (.cells #[.int .i64 x.kind, .int .u64 x.bits] 88) := ⟨_, rfl⟩
       have BV : Blk w2 wr.heap.size 88 #[.int .i64 x.kind, .int .u64 x.bits] := by rw [hw2]; exact Blk.new wr _ _
       have HB2 := Lib.hid (HB1.out (.cells #[.int .i64 x.kind, .int .u64 x.bits] 88))
       have hs2 : w2.heap.size = wr.heap.size + 1 := by rw [hw2]; simp
       rw [← hw2] at HB2 ⊢
       have BV := Lib.hid BV
       have HS2 := Lib.hid hs2
       clear hw2 q0 q1 HB1 hs2
       go_cut [61] from 58 to 61 (fun b wx => b = .bool (!valB x) ∧ Below w2.heap.size w2 wx)
       case first =>
        obtain ⟨z0, z1⟩ := blk2 BV.out
        obtain ⟨ck, cb, hck⟩ : ∃ ck cb, cleanV x = ⟨ck, cb⟩ := ⟨_, _, rfl⟩
        have HVB : Hid (valB x = (decide (ck = x.kind) && decide (cb = x.bits))) := Lib.hid (by unfold valB; rw [hck])
        have CT2 : Hid (∀ W : World, Calls Try.prog 42 #[.agg #[.int .i64 x.kind, .int .u64 x.bits]] W (ValP W ⟨ck, cb⟩)) := Lib.hid (fun W => by rw [← hck]; exact CT.out W)
        clear hck
        rcases e1 : (ck == x.kind) with _ | _ <;> rcases e2 : (cb == x.bits) with _ | _
        all_goals (
         go_region_with ((go_at_call 42; refine (CT2.out _).mono ?_; rintro e w3 ⟨rfl, hb3⟩; have hb4 : Below w2.heap.size w2 w3 := ⟨hb3.os, hb3.tape, hb3.output, hb3.size, hb3.block⟩; have HB4 := Lib.hid hb4; clear hb3 hb4; have z0 := (BV.out.below HB4.out (by have := HS2.out; omega)).cell 0; have z1 := (BV.out.below HB4.out (by have := HS2.out; omega)).cell 1))
         all_goals go_wp2_with fail
         all_goals (go_meet; refine ⟨?_, ⟨HB4.out.os, HB4.out.tape, HB4.out.output, HB4.out.size, HB4.out.block⟩⟩; clear HB4 z0 z1; simp only [beq_iff_eq, beq_eq_false_iff_ne, ne_eq] at e1 e2; congr 1; rw [HVB.out]; simp [e1, e2]))
       case rest =>
        obtain ⟨rfl, hbx⟩ := hcut
        have HBX := Lib.hid (HB2.out.trans (hbx.mono (by have := HS2.out; omega)))
        obtain ⟨tv, htv⟩ : ∃ tv, valB x = tv := ⟨_, rfl⟩
        rw [htv] at HST HBD ⊢
        clear htv hbx HB2
        cases tv with
        | true =>
         have e := Lib.hid (HST.out rfl)
         clear HST HBD
         go_wp2_with fail
         go_roundw
         case rel => first | exact ⟨r2 + 1, by omega, by go_num, HBX, e⟩ | ((repeat apply Exists.intro); exact ⟨⟨r2 + 1, by omega, by go_num, HBX, e⟩, rfl⟩)
         case measure => simp [intOf]; omega
        | false =>
         have e := Lib.hid (HBD.out rfl)
         clear HST HBD
         go_wp2_with fail
         go_ret
         exact ⟨by first | rfl | (rw [e.out]; rfl), B0.out.trans (HBX.out.mono (by omega))⟩
      ·have hge2 : (c.consts.length : Int) ≤ (r2 : Int) := by omega
       have HALC : Hid (c.consts.all valB = true) := Lib.hid (by have h9 := hal.out; rw [List.take_of_length_le (by omega)] at h9; exact h9)
       have BT2 := BT.out.below hb.out (by omega)
       obtain ⟨k0, k1, k2, k3, k4⟩ := blk5 BT2
       have n3 : (0 : Int) ≤ (c.list.length : Int) := by omega
       have BT3 := Lib.hid BT2
       have hmm := fun t w => @run_makeMap Try.prog t w
       have wb : wr.heap.size ≥ w.heap.size + 1 := by omega
       clear hal BT2
       go_upto_region 16 with fail
       clear hmm
       obtain ⟨H, hH⟩ : ∃ H, wr.heap.size = H := ⟨_, rfl⟩
       obtain ⟨w4, hw4⟩ : ∃ w4, w4 = ((wr.alloc (.map #[] 0)).alloc (.map #[] 0)).alloc (.cells #[.int .i64 c.regs, .int .i64 c.slots, .slice A1 c.inputs.length c1, .slice A2 c.consts.length c2, .slice A3 c.list.length c3, .map (some wr.heap.size), .map (some (wr.heap.size + 1))] 92) := ⟨_, rfl⟩
       have SR : SetX w4 H 0 [] := by rw [hw4, ← hH]; exact ((SetX.made wr).alloc _).alloc _
       have SS : SetX w4 (H + 1) 0 [] := by
        rw [hw4, ← hH]
        have := (SetX.made (wr.alloc (.map #[] 0))).alloc (.cells #[.int .i64 c.regs, .int .i64 c.slots, .slice A1 c.inputs.length c1, .slice A2 c.consts.length c2, .slice A3 c.list.length c3, .map (some wr.heap.size), .map (some (wr.heap.size + 1))] 92)
        rw [World.size_alloc] at this
        exact this
       have SK : Blk w4 (H + 1 + 1) 92 #[.int .i64 c.regs, .int .i64 c.slots, .slice A1 c.inputs.length c1, .slice A2 c.consts.length c2, .slice A3 c.list.length c3, .map (some H), .map (some (H + 1))] := by
        rw [hw4, ← hH]
        have := Blk.new ((wr.alloc (.map #[] 0)).alloc (.map #[] 0)) 92 #[.int .i64 c.regs, .int .i64 c.slots, .slice A1 c.inputs.length c1, .slice A2 c.consts.length c2, .slice A3 c.list.length c3, .map (some wr.heap.size), .map (some (wr.heap.size + 1))]
        rw [World.size_alloc, World.size_alloc] at this
        exact this
       have SB : Below H wr w4 := by rw [hw4, ← hH]; exact (((Below.refl _ wr).alloc (Nat.le_refl _) _).alloc (by simp) _).alloc (by simp; omega) _
       rw [hH] at wb
       have hs4 : w4.heap.size = H + 3 := by rw [hw4]; simp [hH]
       have SM : Hid (MemG c (.slice A1 c.inputs.length c1) (.slice A2 c.consts.length c2) (.slice A3 c.list.length c3) H w4 w4 0 [] []) := Lib.hid ⟨Below.refl _ _, SR, SS, SK⟩
       have HSB := Lib.hid (HW.out.trans (SB.mono (by omega)))
       obtain ⟨k0, k1, k2, k3, k4⟩ := blk5 (BT3.out.below SB (by omega))
       have BT4 := Lib.hid (BT3.out.below SB (by omega))
       have HS4 := Lib.hid hs4
       obtain ⟨gv, hgv⟩ : ∃ gv, goodL c.regs c.slots c.inputs.length c.consts.length c.list.length 0 [] [] c.list = gv := ⟨_, rfl⟩
       have HGV := Lib.hid hgv
       have HGB : Hid (goodB c = gv) := Lib.hid (by unfold goodB; rw [HN.out, HALL.out, HALC.out, hgv]; rfl)
       try rw [← hw4]
       rw [hH]
       clear hw4 SR SS SK SB hs4 hgv hH hb HW
       go_wp2_with fail
       go_loopw [71] (fun s wx => ∃ (r : Nat) (R S : List Int), r ≤ c.list.length ∧ s = .int .i64 r ∧ Hid (MemG c (.slice A1 c.inputs.length c1) (.slice A2 c.consts.length c2) (.slice A3 c.list.length c3) H w4 wx r R S) ∧ Hid (goodL c.regs c.slots c.inputs.length c.consts.length c.list.length r R S (c.list.drop r) = gv)) (fun s _ => c.list.length - (intOf s).toNat)
       case atStart => exact ⟨0, [], [], Nat.zero_le _, rfl, SM, Lib.hid HGV.out⟩
       case round =>
        clear k0 k1 k2 k3 k4
        obtain ⟨r3, R, S, hr3, rfl, hm, hg⟩ := hrel
        have HM := hm.out
        have hwr := HM.1.size
        have hs4 := HS4.out
        have HW := Lib.hid (HSB.out.trans (HM.1.mono (by omega)))
        by_cases hlt3 : r3 < c.list.length
        ·obtain ⟨x, hx⟩ : ∃ x, c.list[r3]? = some x := ⟨_, List.getElem?_eq_getElem hlt3⟩
         obtain ⟨b5, off5, c5, hvv, _, _, q0, q1, q2, q3, wo, wd, wa, wb2⟩ := inss_get (HL.out wr HW.out) hx
         injection hvv with hv1 hv2 hv3
         subst hv1
         have b1 : (0 : Int) ≤ (r3 : Int) := by omega
         have b2 : (r3 : Int) < (c.list.length : Int) := by omega
         obtain ⟨w5, hw5⟩ : ∃ w5, w5 = wr.alloc (.cells #[.int .i64 x.op, .int .i64 x.dst, .int .i64 x.a, .int .i64 x.b] 75) := ⟨_, rfl⟩
         have BX : Blk w5 wr.heap.size 75 #[.int .i64 x.op, .int .i64 x.dst, .int .i64 x.a, .int .i64 x.b] := by rw [hw5]; exact Blk.new wr _ _
         have M5 := HM.below (w' := w5) (by rw [hw5]; exact (Below.refl _ _).alloc (Nat.le_refl _) _)
         have hs5 : w5.heap.size = wr.heap.size + 1 := by rw [hw5]; simp
         have CT := Lib.hid (right_any x w5 (H + 1 + 1) H r3 (H + 1) r3 R S c.regs c.slots _ _ _ _ _ _ _ M5.2.2.2 M5.2.1 M5.2.2.1 ⟨hi1, by unfold maxLen; omega⟩ ⟨hv1', by unfold maxLen; omega⟩ wa wb2)
         have HG := Lib.hid ((goodL_step hx).symm.trans hg.out)
         have BX := Lib.hid BX
         have M5 := Lib.hid M5
         have HS5 := Lib.hid hs5
         have HWA := Lib.hid (And.intro wd wa)
         have BT5 := Lib.hid (BT4.out.below HM.1 (by omega))
         clear hx hv2 hv3 hm HM hs5 hg wo wd wa wb2
         go_upto_region 19 with fail
         rw [← hw5]
         clear hw5 q0 q1 q2 q3
         obtain ⟨z0, z1, z2, z3⟩ := blk4 BX.out
         go_wp2_with fail
         refine CT.out.mono ?_
         rintro e w6 ⟨rfl, hb6⟩
         have M6 := M5.out.below hb6
         have BX6 := BX.out.below hb6 (by have := HS5.out; omega)
         have HW6 := Lib.hid (HSB.out.trans (M6.1.mono (by omega)))
         obtain ⟨rb, hrb⟩ : ∃ rb, rightB R S c.regs c.slots c.inputs.length c.consts.length x = rb := ⟨_, rfl⟩
         rw [hrb] at HG ⊢
         have BT6 := Lib.hid (BT4.out.below M6.1 (by omega))
         have M6 := Lib.hid M6
         have BX6 := Lib.hid BX6
         clear hb6 hrb z0 z1 z2 z3 CT M5 BX k4 k0 k1 k2 k3
         cases rb with
         | false =>
          have e : goodB c = false := by rw [HGB.out, ← HG.out]; rfl
          have e := Lib.hid e
          clear HG
          go_wp2_with fail
          go_ret
          exact ⟨by first | rfl | (rw [e.out]; rfl), HW6.out⟩
         | true =>
          obtain ⟨z0, z1, z2, z3⟩ := blk4 BX6.out
          obtain ⟨k0, k1, k2, k3, k4⟩ := blk5 BT6.out
          rcases e1 : (x.op == 52) with _ | _ <;> rcases e2 : ((r3 : Int) == (c.list.length : Int) - 1) with _ | _
          ·have h52 : ¬ x.op = 52 := by simpa using e1
           have hla : ¬ r3 + 1 = c.list.length := by (have : ¬ (r3 : Int) = (c.list.length : Int) - 1 := by simpa using e2); omega
           have HG2 : Hid ((if x.op = 53 then goodL c.regs c.slots c.inputs.length c.consts.length c.list.length (r3 + 1) R (addS x.a S) (c.list.drop (r3 + 1)) else goodL c.regs c.slots c.inputs.length c.consts.length c.list.length (r3 + 1) (addS x.dst R) S (c.list.drop (r3 + 1))) = gv) := Lib.hid (by
            have h9 := HG.out
            rw [decide_eq_false h52, decide_eq_false hla, if_neg h52] at h9
            simpa using h9)
           have e3 : (x.op != 52) = true := by rw [bne_iff_ne]; exact h52
           clear HG h52 hla
           rcases e4 : (x.op == 53) with _ | _
           ·have HG3 := Lib.hid (show goodL c.regs c.slots c.inputs.length c.consts.length c.list.length (r3 + 1) (addS x.dst R) S (c.list.drop (r3 + 1)) = gv by
             have h9 := HG2.out
             rw [if_neg (by simpa using e4)] at h9
             exact h9)
            clear HG2
            obtain ⟨m0, m1, m2, m3, m4, m5, m6⟩ := blk7 M6.out.2.2.2
            go_upto_region 24 with fail
            obtain ⟨w7, hrun, hm7⟩ := M6.out.drew.reg (k := x.dst) HWA.out.1 (by unfold maxLen; omega)
            have HM7 := Lib.hid hm7
            clear hm7
            go_still_tail 6, (by kernel_rfl)
            go_wp2_with fail
            go_roundw
            case rel => first | exact ⟨r3 + 1, addS x.dst R, S, by omega, by go_num, HM7, HG3⟩ | ((repeat apply Exists.intro); exact ⟨⟨r3 + 1, addS x.dst R, S, by omega, by go_num, HM7, HG3⟩, rfl⟩)
            case measure => simp [intOf]; omega
           ·have HG3 := Lib.hid (show goodL c.regs c.slots c.inputs.length c.consts.length c.list.length (r3 + 1) R (addS x.a S) (c.list.drop (r3 + 1)) = gv by
             have h9 := HG2.out
             rw [if_pos (by simpa using e4)] at h9
             exact h9)
            clear HG2
            obtain ⟨m0, m1, m2, m3, m4, m5, m6⟩ := blk7 M6.out.2.2.2
            obtain ⟨w7, hrun, hm7⟩ := M6.out.drew.slot (k := x.a) HWA.out.2 (by unfold maxLen; omega)
            have HM7 := Lib.hid hm7
            clear hm7
            go_upto_region 22 with fail
            go_still_tail 6, (by kernel_rfl)
            go_wp2_with fail
            go_roundw
            case rel => first | exact ⟨r3 + 1, R, addS x.a S, by omega, by go_num, HM7, HG3⟩ | ((repeat apply Exists.intro); exact ⟨⟨r3 + 1, R, addS x.a S, by omega, by go_num, HM7, HG3⟩, rfl⟩)
            case measure => simp [intOf]; omega
          ·have h52 : ¬ x.op = 52 := by simpa using e1
           have hla : r3 + 1 = c.list.length := by (have : (r3 : Int) = (c.list.length : Int) - 1 := by simpa using e2); omega
           have e : goodB c = false := by rw [HGB.out, ← HG.out, decide_eq_false h52, decide_eq_true hla]; rfl
           have e := Lib.hid e
           clear HG h52 hla
           go_wp2_with fail
           go_ret
           exact ⟨by first | rfl | (rw [e.out]; rfl), HW6.out⟩
          ·have h52 : x.op = 52 := by simpa using e1
           have hla : ¬ r3 + 1 = c.list.length := by (have : ¬ (r3 : Int) = (c.list.length : Int) - 1 := by simpa using e2); omega
           have e : goodB c = false := by rw [HGB.out, ← HG.out, decide_eq_true h52, decide_eq_false hla]; rfl
           have e := Lib.hid e
           clear HG h52 hla
           go_wp2_with fail
           go_ret
           exact ⟨by first | rfl | (rw [e.out]; rfl), HW6.out⟩
          ·have h52 : x.op = 52 := by simpa using e1
           have hla : r3 + 1 = c.list.length := by (have : (r3 : Int) = (c.list.length : Int) - 1 := by simpa using e2); omega
           have e3 : (x.op != 52) = false := by simp [h52]
           have e4 : (x.op == 53) = false := by simp [h52]
           have HG3 := Lib.hid (show goodL c.regs c.slots c.inputs.length c.consts.length c.list.length (r3 + 1) R S (c.list.drop (r3 + 1)) = gv by
            have h9 := HG.out
            rw [decide_eq_true h52, decide_eq_true hla, if_neg (by rw [h52]; decide), if_pos h52] at h9
            simpa using h9)
           have HM7 := Lib.hid M6.out.next
           clear HG h52 hla
           go_wp2_with fail
           go_roundw
           case rel => first | exact ⟨r3 + 1, R, S, by omega, by go_num, HM7, HG3⟩ | ((repeat apply Exists.intro); exact ⟨⟨r3 + 1, R, S, by omega, by go_num, HM7, HG3⟩, rfl⟩)
           case measure => simp [intOf]; omega
        ·have hge3 : (c.list.length : Int) ≤ (r3 : Int) := by omega
         have e : goodB c = true := by
          have h9 := hg.out
          rw [List.drop_of_length_le (by omega)] at h9
          rw [HGB.out, ← h9]; rfl
         have e := Lib.hid e
         clear hg hm HM
         go_wp2_with fail
         go_ret
         exact ⟨by first | rfl | (rw [e.out]; rfl), HW.out⟩
end Go.Proofs.Ytioocaicmiggoaa

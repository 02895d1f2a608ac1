/-
  PoolFull's own state: a pool of roots, and the map of what was seen. No walk.
-/
import Derived.Test.YtcgapjicbgfpjaaNil
namespace Go.Proofs.Ytcgapjicbgfpjaa
set_option linter.unusedVariables false
set_option linter.unusedSimpArgs false
open Go.RowKit Go.Maps

theorem law_int : Keyed Try.prog 3 := int_keyed Try.underlying3
def SeenOk (D : DataW Unit) (S : St) : Prop :=
  (∀ e : Int, wfi e → Maps.has D (.int .i64 e) = (idx S (-1) e true).isSome ∧ D.atKey (.int .i64 e) (.lit (.int .i64 0)) = .lit (.int .i64 ((idx S (-1) e true).getD 0 : Nat))) ∧ Maps.size D = cnt S
def Roots (S : St) (r : Nat) : Prop := S.length ≤ r ∧ ∀ i c, at? S i = some c → c.prev = -1 ∧ c.fresh = true ∧ 0 ≤ c.own ∧ c.own ≤ r ∧ c.behind = 0
theorem Roots.bnd {S : St} {r : Nat} (h : Roots S r) (hr : r ≤ 1000) : Bnd S := fun i c hc => by
  obtain ⟨_, _, h1, h2, h3⟩ := h.2 i c hc
  omega
theorem seen_nil : SeenOk (.map []) [] := ⟨fun e _ => ⟨rfl, rfl⟩, rfl⟩
theorem lit_ne {a b : Int} (h : a ≠ b) : (Lit.int .i64 a) ≠ (Lit.int .i64 b) := fun e => h (by injection e)
/-- one that was seen is told again -/
theorem seen_again {D : DataW Unit} {S S' : St} {q : Nat} {c c' : Cl} {e : Int} (hs : SeenOk D S) (hm : Tidy D) (hu : Uniq S) (ht : Turn S S' q (some c')) (hc : at? S q = some c) (h1 : c'.prev = c.prev) (h2 : c'.event = c.event) (h3 : c'.fresh = c.fresh) (hn : cnt S' = cnt S) (hi : idx S (-1) e true = some q) (he : wfi e) :
    SeenOk (D.put (.int .i64 e) (.lit (.int .i64 (q : Nat)))) S' := by
  have hu' := uniq_stay hu ht hc h1 h2 h3
  have hk : WideAt.IsKeyLit (Lit.int .i64 e) := law_int.key (keyOf_int_mk Try.underlying3 he)
  have same : ∀ x, idx S' (-1) x true = idx S (-1) x true := fun x => by
    cases hx : idx S (-1) x true with
    | none =>
      refine idx_not fun i a ha hk2 => ?_
      rw [ht i] at ha
      by_cases hiq : i = q
      · rw [if_pos hiq] at ha; injection ha with ha; subst ha
        exact idx_none hx hc ⟨by rw [← h1]; exact hk2.1, by rw [← h2]; exact hk2.2.1, by rw [← h3]; exact hk2.2.2⟩
      · rw [if_neg hiq] at ha; exact idx_none hx ha hk2
    | some i =>
      obtain ⟨a, ha, k1, k2, k3⟩ := idx_some hx
      by_cases hiq : i = q
      · subst hiq
        rw [hc] at ha; injection ha with ha; subst ha
        exact (idx_char hu').2 ⟨c', by rw [ht i, if_pos rfl], by rw [h1, k1], by rw [h2, k2], by rw [h3, k3]⟩
      · exact (idx_char hu').2 ⟨a, by rw [ht i, if_neg hiq]; exact ha, k1, k2, k3⟩
  refine ⟨fun x hx => ?_, ?_⟩
  · rw [same x]
    by_cases hxe : x = e
    · subst hxe
      rw [hi]; exact ⟨has_put_same hm.isMap hk _, atKey_put_same hm.isMap hk _ _⟩
    · rw [has_put_other (lit_ne hxe), atKey_put_other (lit_ne hxe)]; exact hs.1 x hx
  · rw [size_put hm, (hs.1 e he).1, hi, hn]; exact hs.2
/-- one is new -/
theorem seen_new {D : DataW Unit} {S S' : St} {q : Nat} {c : Cl} {e : Int} (hs : SeenOk D S) (hm : Tidy D) (hu : Uniq S) (ht : Turn S S' q (some c)) (hq : at? S q = none) (h1 : c.prev = -1) (h2 : c.event = e) (h3 : c.fresh = true) (hn : cnt S' = cnt S + 1) (hi : idx S (-1) e true = none) (he : wfi e) :
    SeenOk (D.put (.int .i64 e) (.lit (.int .i64 (q : Nat)))) S' := by
  have hu' := uniq_come hu ht (by rw [h1, h2, h3]; exact hi)
  have hk : WideAt.IsKeyLit (Lit.int .i64 e) := law_int.key (keyOf_int_mk Try.underlying3 he)
  refine ⟨fun x hx => ?_, ?_⟩
  · by_cases hxe : x = e
    · subst hxe
      rw [(idx_char hu').2 ⟨c, by rw [ht q, if_pos rfl], h1, h2, h3⟩]
      exact ⟨has_put_same hm.isMap hk _, atKey_put_same hm.isMap hk _ _⟩
    · have same : idx S' (-1) x true = idx S (-1) x true := by
        cases hx2 : idx S (-1) x true with
        | none =>
          refine idx_not fun i a ha hk2 => ?_
          rw [ht i] at ha
          by_cases hiq : i = q
          · rw [if_pos hiq] at ha; injection ha with ha; subst ha
            exact hxe (by rw [← hk2.2.1, h2])
          · rw [if_neg hiq] at ha; exact idx_none hx2 ha hk2
        | some i =>
          obtain ⟨a, ha, k⟩ := idx_some hx2
          have hiq : i ≠ q := fun h => by rw [h, hq] at ha; cases ha
          exact (idx_char hu').2 ⟨a, by rw [ht i, if_neg hiq]; exact ha, k⟩
      rw [same, has_put_other (lit_ne hxe), atKey_put_other (lit_ne hxe)]; exact hs.1 x hx
  · rw [size_put hm, (hs.1 e he).1, hi, hn, hs.2]; rfl
theorem roots_again {S S' : St} {q r : Nat} {c : Cl} (h : Roots S r) (hl : S'.length = S.length) (ht : Turn S S' q (some { c with own := c.own + 1 })) (hc : at? S q = some c) : Roots S' (r + 1) := by
  refine ⟨by have := h.1; omega, fun i a ha => ?_⟩
  rw [ht i] at ha
  by_cases hiq : i = q
  · rw [if_pos hiq] at ha; injection ha with ha; subst ha
    obtain ⟨k1, k2, k3, k4, k5⟩ := h.2 q c hc
    exact ⟨k1, k2, by show 0 ≤ c.own + 1; omega, by show c.own + 1 ≤ _; omega, k5⟩
  · rw [if_neg hiq] at ha
    obtain ⟨k1, k2, k3, k4, k5⟩ := h.2 i a ha
    exact ⟨k1, k2, k3, by omega, k5⟩
theorem roots_new {S S' : St} {q r : Nat} {e : Int} (h : Roots S r) (hl : S'.length ≤ S.length + 1) (ht : Turn S S' q (some ⟨-1, e, true, 1, 0⟩)) : Roots S' (r + 1) := by
  refine ⟨by have := h.1; omega, fun i a ha => ?_⟩
  rw [ht i] at ha
  by_cases hiq : i = q
  · rw [if_pos hiq] at ha; injection ha with ha; subst ha
    exact ⟨rfl, rfl, by show (0 : Int) ≤ 1; decide, by show (1 : Int) ≤ _; omega, rfl⟩
  · rw [if_neg hiq] at ha
    obtain ⟨k1, k2, k3, k4, k5⟩ := h.2 i a ha
    exact ⟨k1, k2, k3, by omega, k5⟩
theorem roots_more {S : St} {r : Nat} (h : Roots S r) : Roots S (r + 1) := ⟨by have := h.1; omega, fun i a ha => by
  obtain ⟨k1, k2, k3, k4, k5⟩ := h.2 i a ha
  exact ⟨k1, k2, k3, by omega, k5⟩⟩

theorem map_keptT {T : Nat → Prop} {w w' : World} {P : Program} {k : TypeId} {R : Value → Option (DataW Unit × List MemPlace)} {b n : Nat} {D : DataW Unit} (h : w.ownsMap P k R b n D) (hk : KeptT T w w') (hb : T b) : w'.ownsMap P k R b n D := by
  have hl := h.lt
  obtain ⟨es, clock, hh, F, hs, e⟩ := h
  exact ⟨es, clock, (hk.2.2.2.2 b hl hb).trans hh, F, hs, e⟩
theorem PoolW.mapped {T : Nat → Prop} {w w' : World} {P : Nat} {S : St} {m : Int} {b : Nat} (h : PoolW T w P S m) (ht : w.mapTurned w' b) (hb : T b) : PoolW T w' P S m :=
  h.keep fun g hg hn => ht.grown.block g hg (fun e => hn (by injection e with e; rw [e]; exact hb))
/-- looking up in a map of numbers -/
theorem look_int {w : World} {b n : Nat} {D : DataW Unit} (h : w.ownsMap Try.prog 3 (plainElem Try.prog 3) b n D) (e : Int) (he : wfi e) (v : Int) (hv : D.atKey (.int .i64 e) (.lit (.int .i64 0)) = .lit (.int .i64 v)) :
    (Instr.lookup 35 (.map (some b)) (.int .i64 e) true).run Try.prog w = .ok (.tuple #[.int .i64 v, .bool (Maps.has D (.int .i64 e))]) w := by
  obtain ⟨u, ps, hrun, hu⟩ := h.look_ok law_int Try.underlying35 (zero_int w) (zd := .lit (.int .i64 0)) (zp := []) (plainElem_int Try.underlying3 (by decide)) (keyOf_int_mk Try.underlying3 he)
  rw [hv] at hu
  obtain ⟨a, rfl, hz, _⟩ := plainElem_int_inv Try.underlying3 hu
  injection hz with hz
  injection hz with hz
  injection hz with _ hz
  rw [hrun, hz]
/-- what holds at the head of each of PoolFull's rounds -/
def FullR (w : World) (P M2 : Nat) (K : Nat) (r : Nat) (wr : World) : Prop :=
  ∃ S D2, PoolW (fun g => g < w.heap.size ∨ g = M2) wr P S K ∧ wr.ownsMap Try.prog 3 (plainElem Try.prog 3) M2 (Maps.size D2) D2 ∧ SeenOk D2 S ∧ Uniq S ∧ Roots S r ∧ cnt S ≤ K ∧ w.heap.size ≤ M2 ∧ M2 < wr.heap.size ∧ Below w.heap.size w wr
theorem addS_again {S : St} {m : Int} {e : Int} {f : Bool} {i : Nat} {c : Cl} (he : 0 ≤ e) (hi : idx S (-1) e true = some i) (hc : at? S i = some c) : addS S m (-1) e f = (S.set i (some { c with own := c.own + 1 }), (i : Int), true) := by
  unfold addS
  rw [if_neg (by omega), if_neg (fun h => h.1 rfl), show keyF (-1) f = true by unfold keyF; simp, hi]
  simp only [hc]
theorem addS_full {S : St} {m : Int} {e : Int} {f : Bool} (he : 0 ≤ e) (hi : idx S (-1) e true = none) (hm : m ≤ (cnt S : Int)) : addS S m (-1) e f = (S, -1, false) := by
  unfold addS
  rw [if_neg (by omega), if_neg (fun h => h.1 rfl), show keyF (-1) f = true by unfold keyF; simp, hi]
  simp only [if_pos hm]
theorem addS_root {S : St} {m : Int} {e : Int} {f : Bool} (he : 0 ≤ e) (hi : idx S (-1) e true = none) (hm : ¬ m ≤ (cnt S : Int)) : addS S m (-1) e f = ((putS S ⟨-1, e, true, 1, 0⟩).1, ((putS S ⟨-1, e, true, 1, 0⟩).2 : Int), true) := by
  unfold addS
  rw [if_neg (by omega), if_neg (fun h => h.1 rfl), show keyF (-1) f = true by unfold keyF; simp, hi]
  simp only [if_neg hm, if_true]
theorem FullR.used {w wr : World} {P M2 K r : Nat} (h : FullR w P M2 K r wr) : ∃ ct : Nat, ct ≤ K ∧ Calls Try.prog 11 #[.pointer (some ⟨P, 0, none⟩)] wr (fun e w' => e = .returned (.int .i64 ct) ∧ wr = w') ∧
    (Builtin.len_ #[35] 3 #[.map (some M2)]).run Try.prog wr = .ok (.int .i64 ct) wr := by
  obtain ⟨S, D2, ⟨_, _, _, _, _, _, D, hX, hD⟩, hM, hs, hu, hro, hcn, _⟩ := h
  refine ⟨cnt S, hcn, used_any hX hD, ?_⟩
  have h1 := hM.len Try.underlying35 3
  rw [hs.2] at h1
  exact h1
end Go.Proofs.Ytcgapjicbgfpjaa

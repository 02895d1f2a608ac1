/-
  What the flow does to a list, as plain words, and how its elements lie while it goes on.
-/
import Derived.Test.YtabndfkkbmhhjaaFfl
import Derived.Test.YtabndfkkbmhhjaaTwa
import Derived.Test.YtabndfkkbmhhjaaSro
import Derived.OwnWalk
import Derived.BigQuiet
namespace Go.Proofs.Ytabndfkkbmhhjaa
set_option linter.unusedVariables false
set_option linter.unusedSimpArgs false
open Go.RowKit Go.Deep

def listF {α : Type} (one : FSt → α → Option (FSt × α)) (zero : α) (st : FSt) (xs : List α) : Option (FSt × List α) :=
  if 1024 < xs.length then none else
  match num st xs.length with
  | none => none
  | some (.rd R A n c l p, k) => if 0 ≤ k ∧ k ≤ 1024 ∧ k ≤ ((n - p : Nat) : Int) then runL one (.rd R A n c l p) (List.replicate k.toNat zero) else none
  | some (.wr bs, _) => runL one (.wr bs) xs
theorem fine_list {α : Type} {one : FSt → α → Option (FSt × α)} {zero : α} {C : Nat} (h : Fine one C) : Fine (listF one zero) (10 + C * 1024) := by
  intro st xs st' ys h1
  unfold listF at h1
  split at h1
  · cases h1
  · rename_i hlen
    split at h1
    · cases h1
    · rename_i R A n c l p k hn
      obtain ⟨a1, a2⟩ := fine_num _ _ _ _ hn
      split at h1
      · rename_i hk
        obtain ⟨b1, b2, b3⟩ := fine_run h _ _ _ _ h1
        refine ⟨?_, kin_trans a2 b2⟩
        have : C * (List.replicate k.toNat zero).length ≤ C * 1024 := Nat.mul_le_mul_left _ (by rw [List.length_replicate]; omega)
        omega
      · cases h1
    · rename_i bs k hn
      obtain ⟨a1, a2⟩ := fine_num _ _ _ _ hn
      obtain ⟨b1, b2, b3⟩ := fine_run h _ _ _ _ h1
      refine ⟨?_, kin_trans a2 b2⟩
      have : C * xs.length ≤ C * 1024 := Nat.mul_le_mul_left _ (by omega)
      omega
/-- blocks that are new since base, and of kinds that the flow leaves alone -/
def FreshQ (base : Nat) (w : World) (b : Nat) : Prop := base ≤ b ∧ ∃ t cs, Blk w b t cs ∧ ¬ hot t
/-- .. and not the block g -/
def FreshN (base g : Nat) (w : World) (b : Nat) : Prop := base ≤ b ∧ b ≠ g ∧ ∃ t cs, Blk w b t cs ∧ ¬ hot t
theorem keepN {B g base : Nat} {w w' : World} (h : Fr B g w w') : KeepQ (FreshN base g w) w w' := fun p u ⟨_, h2, t, cs, h3, h4⟩ hp => by
  have h5 := h.2 p.block t cs h2 h4 h3
  exact (World.cell?_of_block (h5.trans h3.symm)).trans hp
theorem freshN_mono {B g base : Nat} {w w' : World} (h : Fr B g w w') {b : Nat} (hb : FreshN base g w b) : FreshN base g w' b := by
  obtain ⟨h1, h2, t, cs, h3, h4⟩ := hb
  exact ⟨h1, h2, t, cs, h.2 b t cs h2 h4 h3, h4⟩
/-- what is asked of the code of one element -/
def OneC {α : Type} (B F : Nat) (e : TypeId) (sz : Nat) (R : (Nat → Prop) → World → List Value → α → Prop) (Cap : Nat → World → Prop) (one : FSt → α → Option (FSt × α)) (C : Nat) (call : Value → World → (Ending → World → Prop) → Prop) : Prop :=
  ∀ (tb : Nat) (L1 L2 vs : List Value) (off : Nat) (st : FSt) (x : α) (w : World), FlX B w F st → Blk w tb e (L1 ++ (vs ++ L2)).toArray → L1.length = off → vs.length = sz → B ≤ tb → B ≤ w.heap.size → st.rdUp tb → st.room + C ≤ 1000000000000 → R (· < B) w vs x → Cap tb w →
    call (.pointer (some ⟨tb, off, none⟩)) w (FlP B F tb e L1 L2 (fun w' vs' y => vs'.length = sz ∧ R (FreshQ w.heap.size w') w' vs' y) st (one st x) w)
theorem ints_box (B F tb : Nat) (t : TypeId) (cs : Array Value) (st : FSt) (a : Int) (w W : World) (hf : FlX B w F st) (ht : ¬ hot t) (hbt : Blk W tb t cs) (htb : tb < w.heap.size) (hw : wfi a) (hBw : B ≤ w.heap.size) (hroom : st.room + 10 ≤ 1000000000000)
    (hW : Fr B tb w W) (hs : W.heap.size = w.heap.size + 1) (hb : Blk W w.heap.size 3 #[.int .i64 a]) (hfW : FlX B W F st) :
    Calls Try.prog 43 #[.pointer (some ⟨F, 0, none⟩), .slice (some ⟨W.heap.size, 0, none⟩) 1 1] (W.alloc (.cells #[.pointer (some ⟨w.heap.size, 0, none⟩)] 107)) (fun e w' => (∃ s y, num st a = some (s, y) ∧ e = .returned (.tuple #[]) ∧ FlX B w' F s ∧ Blk w' w.heap.size 3 #[.int .i64 y] ∧ Blk w' tb t cs ∧ Fr B tb w w') ∨ (num st a = none ∧ ∃ ec, e = .panicked (stopP ec) ∧ errOk st ec ∧ Fr B tb w w')) := by
  have ha : Below W.heap.size W (W.alloc (.cells #[.pointer (some ⟨w.heap.size, 0, none⟩)] 107)) := (Below.refl _ _).alloc (Nat.le_refl _) _
  refine (ints_step B F w.heap.size 3 [] [] 0 st [a] _ W.heap.size 1 (hfW.below ha) hot_int (by intro b h; simp at h; subst h; exact hw) (hb.below ha hb.lt) rfl hBw (by simp; omega) (hf.rdUp (Nat.le_refl _)) (by simpa using hroom) (Blk.new W _ _) (by omega) (by simp)).mono ?_
  rintro e w' (⟨s, ys, vs, h1, rfl, h2, h3, rfl, h4⟩ | ⟨h1, ec, rfl, h2, h3⟩)
  · rw [run_one] at h1
    rcases hn : num st a with _ | ⟨s2, y⟩
    · rw [hn] at h1; cases h1
    · rw [hn] at h1
      simp only [Option.map_some] at h1
      cases h1
      have h5 : Fr B tb w w' := (hW.trans (Fr.below (by omega) ha)).new h4 (Nat.le_refl _)
      exact .inl ⟨_, y, rfl, rfl, h2, h3, h4.2 tb t _ (by omega) ht (hbt.below ha hbt.lt), h5⟩
  · rw [run_one] at h1
    rcases hn : num st a with _ | ⟨s2, y⟩
    · exact .inr ⟨rfl, ec, rfl, h2, (hW.trans (Fr.below (by omega) ha)).new h3 (Nat.le_refl _)⟩
    · rw [hn] at h1; cases h1
/-- the list's elements before the loop: their own row, as they are -/
def LoopS {α : Type} (B F tb : Nat) (t : TypeId) (L1 L2 : List Value) (e : TypeId) (sz : Nat) (R : (Nat → Prop) → World → List Value → α → Prop) (one : FSt → α → Option (FSt × α)) (st : FSt) (o : Option (FSt × List α)) (w : World) (m : Nat) (wx : World) : Prop :=
  ∃ (s0 : FSt) (xs0 : List α) (v2 : Value) (css : List (List Value)), o = runL one s0 xs0 ∧ (xs0.length ≤ 1024 ∧ xs0.length = m) ∧ st.kin s0 ∧ s0.room ≤ st.room + 10 ∧ FlX B wx F s0 ∧ Blk wx tb t (L1 ++ ([v2] ++ L2)).toArray ∧ wx.ownsRow w.heap.size e sz v2 xs0.length css.flatten ∧ FlatR sz (R (· < B)) wx css xs0 ∧ Fr B tb w wx
theorem made_zero {sz : Nat} (zs : List Value) (hz : zs.length = sz) (hp : 0 < sz) (n : Nat) : (madeCells zs.toArray (n * sz)).toList = (List.replicate n zs).flatten := by
  apply List.ext_getElem?
  intro i
  have hfl : ((List.replicate n zs).flatten).length = n * sz := by rw [flat_len (F := sz) (by intro cs hc; rw [List.eq_of_mem_replicate hc]; exact hz)]; simp
  rcases Nat.lt_or_ge i (n * sz) with hi | hi
  · have hdiv : i / sz < n := Nat.div_lt_of_lt_mul (by rw [Nat.mul_comm]; exact hi)
    have hmod : i % sz < sz := Nat.mod_lt _ hp
    have h1 : (List.replicate n zs)[i / sz]? = some zs := by rw [List.getElem?_replicate]; simp [hdiv]
    have h2 := flat_get (F := sz) (css := List.replicate n zs) (by intro cs hc; rw [List.eq_of_mem_replicate hc]; exact hz) h1 (i % sz) (zs[i % sz]'(by omega)) (List.getElem?_eq_getElem _)
    rw [show i / sz * sz + i % sz = i by rw [Nat.mul_comm]; exact Nat.div_add_mod i sz] at h2
    rw [h2]
    unfold madeCells
    simp only [Array.getElem?_toList, Array.getElem?_map, Array.getElem?_range, hi, if_true, Option.map_some, Option.some.injEq, List.size_toArray, hz]
    simp [hz, hmod]
  · rw [List.getElem?_eq_none (by rw [Array.length_toList, size_madeCells]; exact hi), List.getElem?_eq_none (by rw [hfl]; exact hi)]
theorem flat_zero {α : Type} {sz : Nat} {R : World → List Value → α → Prop} {w : World} (zs : List Value) (zero : α) (hz : zs.length = sz) (hr : R w zs zero) (n : Nat) : FlatR sz R w (List.replicate n zs) (List.replicate n zero) := by
  refine ⟨by simp, fun i x hx => ?_⟩
  rw [List.getElem?_replicate] at hx
  split at hx
  · cases hx
    exact ⟨zs, by rw [List.getElem?_replicate]; simp [*], hz, hr⟩
  · cases hx
/-- what came in, cells by cells, as flat_of_slr, of a list in blocks of Q -/
theorem flat_of_slq {α : Type} {Q : Nat → Prop} {F : Nat} {R : World → List Value → α → Prop} {w : World} {v : Value} {xs : List α} (h : SlQ Q F R w v xs) :
    ∃ (css : List (List Value)) (A : Option Addr) (c : Nat), v = .slice A xs.length c ∧ xs.length ≤ c ∧ c ≤ maxLen ∧ FlatR F R w css xs ∧ (0 < F → Reads w w.heap.size F A xs.length css.flatten) := by
  refine flat_of_slr (F := F) (R := R) ?_
  obtain ⟨A, c, h1, h2, h3, h4⟩ := h
  refine ⟨A, c, h1, h2, h3, fun hp => ?_⟩
  obtain ⟨b, off, h5, _, h6⟩ := h4 hp
  exact ⟨b, off, h5, h6⟩
theorem flat_of_slqB {α : Type} {B F : Nat} {R : World → List Value → α → Prop} {w : World} {v : Value} {xs : List α} (h : SlQ (· < B) F R w v xs) (hF : 0 < F) :
    ∃ (css : List (List Value)) (A : Option Addr) (c : Nat), v = .slice A xs.length c ∧ xs.length ≤ c ∧ c ≤ maxLen ∧ FlatR F R w css xs ∧ Reads w B F A xs.length css.flatten := by
  obtain ⟨css, A, c, h1, h2, h3, h4, h5⟩ := flat_of_slq h
  refine ⟨css, A, c, h1, h2, h3, h4, (h5 hF).1, fun hp => ?_⟩
  obtain ⟨ad, k1, k2, k3⟩ := (h5 hF).2 hp
  refine ⟨ad, k1, ?_, k3⟩
  obtain ⟨A', c', g1, _, _, g4⟩ := h
  obtain ⟨b, off, g5, g6, _⟩ := g4 hp
  rw [g1] at h1
  injection h1 with h1 _ _
  rw [← h1, g5] at k1
  injection k1 with k1
  subst k1
  exact g6
theorem flat_onec {css : List (List Value)} (h : ∀ cs ∈ css, ∀ u ∈ cs, u.oneCell' = true) : ∀ u ∈ css.flatten, u.oneCell' = true := by
  intro u hu
  obtain ⟨cs, h1, h2⟩ := List.mem_flatten.1 hu
  exact h cs h1 u h2
theorem flatR_mem {α : Type} {F : Nat} {R : World → List Value → α → Prop} {w : World} {css : List (List Value)} {xs : List α} (h : FlatR F R w css xs) : ∀ cs ∈ css, ∃ x, R w cs x := by
  intro cs hc
  obtain ⟨i, hi, rfl⟩ := List.getElem_of_mem hc
  have hx : xs[i]? = some (xs[i]'(by rw [← h.1]; exact hi)) := List.getElem?_eq_getElem _
  obtain ⟨c, h1, _, h2⟩ := h.2 i _ hx
  rw [List.getElem?_eq_getElem hi] at h1
  injection h1 with h1
  exact ⟨_, by rw [h1]; exact h2⟩
theorem flatR_drop {α : Type} {F : Nat} {R : World → List Value → α → Prop} {w : World} {css : List (List Value)} {x : α} {xs : List α} (h : FlatR F R w css (x :: xs)) : ∃ cs rest, css = cs :: rest ∧ cs.length = F ∧ R w cs x ∧ FlatR F R w rest xs := by
  obtain ⟨cs, h1, h2, h3⟩ := h.2 0 x rfl
  cases css with
  | nil => simp at h1
  | cons c rest =>
    simp at h1
    subst h1
    refine ⟨c, rest, rfl, h2, h3, by have := h.1; simpa using this, fun i y hy => ?_⟩
    obtain ⟨d, k1, k2⟩ := h.2 (i + 1) y (by simpa using hy)
    exact ⟨d, by simpa using k1, k2⟩
/-- where the loop over the elements has got to -/
def LoopR {α : Type} (B F tb g : Nat) (t : TypeId) (L1 L2 tail : List Value) (v2 : Value) (e : TypeId) (sz : Nat) (R : (Nat → Prop) → World → List Value → α → Prop) (Cap : Nat → World → Prop) (one : FSt → α → Option (FSt × α)) (s0 : FSt) (xs0 : List α) (w : World) (r : Nat) (wr : World) : Prop :=
  ∃ (s : FSt) (ys : List α) (dn rest : List (List Value)), runL one s0 (xs0.take r) = some (s, ys) ∧ FlX B wr F s ∧ Blk wr tb t (L1 ++ ([v2] ++ L2)).toArray ∧ Fr B tb w wr ∧ (0 < xs0.length → Blk wr g e (dn.flatten ++ (rest.flatten ++ tail)).toArray) ∧
    FlatR sz (R (FreshN w.heap.size g wr)) wr dn ys ∧ FlatR sz (R (· < B)) wr rest (xs0.drop r) ∧ Cap g wr
/-- one element more -/
theorem LoopR.step {α : Type} {B F tb g : Nat} {t : TypeId} {L1 L2 tail : List Value} {v2 : Value} {e : TypeId} {sz : Nat} {R : (Nat → Prop) → World → List Value → α → Prop} {Cap : Nat → World → Prop} {one : FSt → α → Option (FSt × α)} {s0 : FSt} {xs0 : List α} {w : World} {r : Nat} {wr : World}
    (h : LoopR B F tb g t L1 L2 tail v2 e sz R Cap one s0 xs0 w r wr) (hR : KeepsQ R) (ht : ¬ hot t) (he : ¬ hot e) (hg : w.heap.size ≤ g) (hB : B ≤ w.heap.size) (htb : tb < w.heap.size) {call : Value → World → (Ending → World → Prop) → Prop} {C : Nat} (hone : OneC B F e sz R Cap one C call) (hfine : Fine one C)
    (hcap : ∀ w1 w2, Fr B g w1 w2 → Cap g w1 → Cap g w2) (hroom : s0.room + C * 1024 ≤ 1000000000000) (hlen : xs0.length ≤ 1024) (hup : s0.rdUp g) (hr : r < xs0.length) (hmono : ∀ p w (Q Q' : Ending → World → Prop), (∀ e w, Q e w → Q' e w) → call p w Q → call p w Q') :
    call (.pointer (some ⟨g, r * sz, none⟩)) wr (fun e' w' => (e' = .returned (.tuple #[]) ∧ LoopR B F tb g t L1 L2 tail v2 e sz R Cap one s0 xs0 w (r + 1) w') ∨ (runL one s0 xs0 = none ∧ ∃ ec, e' = .panicked (stopP ec) ∧ errOk s0 ec ∧ Fr B tb w w')) := by
  obtain ⟨s, ys, dn, rest, h1, h2, h3, h4, h5, h6, h7, h8⟩ := h
  obtain ⟨x, hx⟩ : ∃ x, xs0[r]? = some x := ⟨_, List.getElem?_eq_getElem hr⟩
  have hd : xs0.drop r = x :: xs0.drop (r + 1) := by
    rw [List.getElem?_eq_some_iff] at hx
    obtain ⟨p, q⟩ := hx
    rw [← q]; exact List.drop_eq_getElem_cons p
  rw [hd] at h7
  obtain ⟨cs, rest2, rfl, k1, k2, k3⟩ := flatR_drop h7
  obtain ⟨f1, f2, f3⟩ := fine_run hfine _ _ _ _ h1
  have hys : ys.length = r := by rw [f3, List.length_take]; omega
  have hdl : dn.flatten.length = r * sz := by rw [flat_len (F := sz) h6.each, h6.1, hys]
  have h5' := h5 (by omega)
  have h5b : Blk wr g e (dn.flatten ++ (cs ++ (rest2.flatten ++ tail))).toArray := by simpa [List.append_assoc] using h5'
  have hsr : s.room + C ≤ 1000000000000 := by
    rw [List.length_take] at f1
    have h9 : C * min r xs0.length + C ≤ C * 1024 := by rw [← Nat.mul_succ]; exact Nat.mul_le_mul_left _ (by omega)
    omega
  have hBr : B ≤ wr.heap.size := Nat.le_trans hB h4.size
  have hcall := hone g dn.flatten (rest2.flatten ++ tail) cs (r * sz) s x wr h2 h5b hdl k1 (Nat.le_trans hB hg) hBr (kin_up f2 hup) hsr k2 h8
  refine hmono _ _ _ _ ?_ hcall
  rintro e' w' (⟨s2, y, vs, p1, rfl, p2, p3, ⟨p4, p5⟩, p6⟩ | ⟨p1, ec, rfl, p2, p3⟩)
  · refine .inl ⟨rfl, s2, ys ++ [y], dn ++ [vs], rest2, ?_, p2, p6.2 tb t _ (by omega) ht h3, h4.new p6 hg, fun _ => ?_, ?_, ?_, hcap _ _ p6 h8⟩
    · rw [run_take _ _ _ _ _ _ hx h1, p1]; rfl
    · simpa [List.append_assoc] using p3
    · refine FlatR.snoc (h6.keep fun cs x hc => hR _ _ _ _ _ _ hc (keepN p6) fun b hb => freshN_mono p6 hb) p4 ?_
      refine hR _ _ _ _ _ _ p5 (fun _ _ _ h => h) fun b hb => ⟨Nat.le_trans h4.size hb.1, ?_, hb.2⟩
      have := h5'.lt
      have := hb.1
      omega
    · exact k3.keep fun cs x hc => hR _ _ _ _ _ _ hc (KeepQ.of_below p6.1 fun b hb => hb) fun b hb => hb
  · exact .inr ⟨run_none xs0 (r + 1) s0 (by rw [run_take _ _ _ _ _ _ hx h1, p1]; rfl), ec, rfl, kin_err f2 p2, h4.new p3 hg⟩
/-- all elements -/
theorem LoopR.done {α : Type} {B F tb g : Nat} {t : TypeId} {L1 L2 tail : List Value} {A : Option Addr} {c : Nat} {e : TypeId} {sz : Nat} {R : (Nat → Prop) → World → List Value → α → Prop} {Cap : Nat → World → Prop} {one : FSt → α → Option (FSt × α)} {s0 : FSt} {xs0 : List α} {w : World} {wr : World}
    (h : LoopR B F tb g t L1 L2 tail (.slice A xs0.length c) e sz R Cap one s0 xs0 w xs0.length wr) (hR : KeepsQ R) (he : ¬ hot e) (hg : w.heap.size ≤ g) {C : Nat} (hfine : Fine one C) (hA : 0 < xs0.length → A = some ⟨g, 0, none⟩) (hc1 : xs0.length ≤ c) (hc2 : c ≤ maxLen) (st : FSt) :
    FlP B F tb t L1 L2 (fun w' vs ys => ∃ v', vs = [v'] ∧ SlQ (FreshQ w.heap.size w') sz (R (FreshQ w.heap.size w')) w' v' ys) st (runL one s0 xs0) w (.returned (.tuple #[])) wr := by
  obtain ⟨s, ys, dn, rest, h1, h2, h3, h4, h5, h6, h7, h8⟩ := h
  rw [List.take_length] at h1
  obtain ⟨f1, f2, f3⟩ := fine_run hfine _ _ _ _ h1
  refine .inl ⟨s, ys, [.slice A xs0.length c], h1, rfl, h2, h3, ⟨_, rfl, A, c, by rw [f3], by rw [f3]; exact hc1, hc2, fun hp => ?_⟩, h4⟩
  rw [f3] at hp
  have h5' := h5 hp
  refine ⟨g, 0, hA hp, ⟨hg, e, _, h5', he⟩, fun i x hx => ?_⟩
  obtain ⟨cs, k1, k2, k3⟩ := h6.2 i x hx
  refine ⟨cs, k2, hR _ _ _ _ _ _ k3 (fun _ _ _ h => h) fun b hb => ⟨hb.1, hb.2.2⟩, fun j u hu => ?_⟩
  have h9 := flat_get h6.each k1 j u hu
  rw [Nat.zero_add]
  refine (h5'.cell _).trans ?_
  have h10 : i * sz + j < dn.flatten.length := (List.getElem?_eq_some_iff.1 h9).1
  simp only [List.getElem?_toArray]
  rw [List.getElem?_append_left h10]
  exact h9
end Go.Proofs.Ytabndfkkbmhhjaa

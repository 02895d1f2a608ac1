/-
  The walk of Path: the events up to a cell.
-/
import Derived.Deep.DrawnRows
import Derived.Test.YtcgapjicbgfpjaaNest
import Derived.Test.YtcgapjicbgfpjaaHas
namespace Go.Proofs.Ytcgapjicbgfpjaa
set_option linter.unusedVariables false
set_option linter.unusedSimpArgs false
open Go.RowKit Go.Maps

attribute [local go_sem ↓] Go.wp_at_zero Go.wp_at_succ
def cellAt (S : St) (i : Int) : Option Cl := if 0 ≤ i then at? S i.toNat else none
/-- the events up to a cell, so many steps back -/
def pathF : Nat → St → Int → List (List Int)
  | 0, _, _ => []
  | k + 1, S, i => match cellAt S i with
    | none => []
    | some c => if c.fresh then pathF k S c.prev ++ [[c.event]] else (pathF k S c.prev).dropLast ++ [(pathF k S c.prev).getLastD [] ++ [c.event]]
/-- the way back ends, and a cell that goes on has one to go on -/
def Chain : Nat → St → Int → Prop
  | 0, S, i => cellAt S i = none
  | k + 1, S, i => cellAt S i = none ∨ ∃ c, cellAt S i = some c ∧ Chain k S c.prev ∧ (c.fresh = false → (cellAt S c.prev).isSome = true)
theorem cellAt_has (S : St) (i : Int) : hasB S i = (cellAt S i).isSome := by
  unfold hasB cellAt
  by_cases h : 0 ≤ i
  · rw [if_pos h, decide_eq_true h]; rfl
  · rw [if_neg h, decide_eq_false h]; rfl
theorem cellAt_some {S : St} {i : Int} {c : Cl} (h : cellAt S i = some c) : ∃ n : Nat, i = n ∧ at? S n = some c := by
  unfold cellAt at h
  by_cases hi : 0 ≤ i
  · rw [if_pos hi] at h; exact ⟨i.toNat, by omega, h⟩
  · rw [if_neg hi] at h; cases h
theorem pathF_ne : ∀ (k : Nat) (S : St) (i : Int), Chain k S i → (cellAt S i).isSome = true → pathF k S i ≠ [] := by
  intro k S i hc hs
  cases k with
  | zero => unfold Chain at hc; rw [hc] at hs; cases hs
  | succ k =>
    unfold pathF
    cases h : cellAt S i with
    | none => rw [h] at hs; cases hs
    | some c => simp only; split <;> simp
theorem pathF_len : ∀ (k : Nat) (S : St) (i : Int), (pathF k S i).length ≤ k ∧ ∀ x ∈ pathF k S i, x.length ≤ k := by
  intro k S
  induction k with
  | zero => intro i; simp [pathF]
  | succ k ih =>
    intro i
    unfold pathF
    cases h : cellAt S i with
    | none => simp
    | some c =>
      obtain ⟨h1, h2⟩ := ih c.prev
      simp only
      split
      · refine ⟨by simp; omega, fun x hx => ?_⟩
        rw [List.mem_append] at hx
        rcases hx with hx | hx
        · have := h2 x hx; omega
        · simp at hx; subst hx; simp
      · refine ⟨?_, fun x hx => ?_⟩
        · rw [List.length_append, List.length_dropLast]; simp; omega
        · rw [List.mem_append] at hx
          rcases hx with hx | hx
          · have := h2 x (List.dropLast_subset _ hx); omega
          · simp only [List.mem_singleton] at hx; subst hx
            rw [List.length_append]
            rcases hl : pathF k S c.prev with _ | ⟨y, ys⟩
            · simp
            · have hm : (y :: ys).getLastD [] ∈ y :: ys := by
                rw [List.getLastD_eq_getLast?, List.getLast?_eq_some_getLast (by simp)]
                exact List.getLast_mem _
              have := h2 _ (by rw [hl]; exact hm)
              simp only [List.length_singleton]; omega
theorem info_ints : (Try.prog.info? 25).map (fun i => (i.zero, i.size, i.bytes)) = some (some (.slice none 0 0), 1, 24) := by kernel_rfl
theorem info_int : (Try.prog.info? 3).map (fun i => (i.zero, i.size, i.bytes)) = some (some (.int .i64 0), 1, 8) := by kernel_rfl
theorem oneI {ev : Int} : ∀ u ∈ [Value.int .i64 ev], u.oneCell' = true := by
  intro u hu
  simp only [List.mem_cons, List.not_mem_nil, or_false] at hu
  subst hu; rfl
theorem oneS {A : Option Addr} {n c : Nat} : ∀ u ∈ [Value.slice A n c], u.oneCell' = true := by
  intro u hu
  simp only [List.mem_cons, List.not_mem_nil, or_false] at hu
  subst hu; rfl
def PathPost (xss : List (List Int)) (w : World) (e : Ending) (w' : World) : Prop := ∃ v, e = .returned v ∧ RowsO w.heap.size w' v xss ∧ Below w.heap.size w w'
section
variable {T : Nat → Prop} {P : Nat} {S : St} {m : Int} {A1 A2 : Option Addr} {c1 c2 M : Nat} {xs : List Cl} {D : DataW Unit}
set_option maxHeartbeats 4000000 in
theorem path_any (hS : S.length ≤ 1000000) (k : Nat) : ∀ (i : Int) (w : World), k ≤ 1000000 → PoolX T w P S m A1 A2 c1 c2 M xs D → Chain k S i →
    Calls Try.prog 13 #[.pointer (some ⟨P, 0, none⟩), .int .i64 i] w (PathPost (pathF k S i) w) := by
  have no : ∀ (k : Nat) (i : Int) (w : World), PoolX T w P S m A1 A2 c1 c2 M xs D → cellAt S i = none → Calls Try.prog 13 #[.pointer (some ⟨P, 0, none⟩), .int .i64 i] w (PathPost (pathF k S i) w) := by
    intro k i w h hn
    have e : pathF k S i = [] := by cases k with
      | zero => rfl
      | succ k => unfold pathF; rw [hn]
    rw [e]
    have C := Lib.hid (has_any h i hS)
    rw [cellAt_has, hn] at C
    have HR := Lib.hid (RowsO.nil w.heap.size w)
    have HB := Lib.hid (Below.refl w.heap.size w)
    clear h hn e
    go_enter Try.func13, Try.ntmps13
    go_wp2_with fail
    refine C.out.mono ?_
    rintro e w' ⟨rfl, rfl⟩
    go_wp2_with fail
    go_ret
    exact ⟨_, rfl, HR.out, HB.out⟩
  induction k with
  | zero => intro i w _ h hc; exact no 0 i w h hc
  | succ k ih =>
    intro i w hk h hc
    rcases hc with hn | ⟨c, hcc, hch, hfr⟩
    · exact no _ i w h hn
    · obtain ⟨n, rfl, hat⟩ := cellAt_some hcc
      have epath : pathF (k + 1) S n = if c.fresh then pathF k S c.prev ++ [[c.event]] else (pathF k S c.prev).dropLast ++ [(pathF k S c.prev).getLastD [] ++ [c.event]] := by
        show (match cellAt S n with | none => [] | some c => _) = _
        rw [hcc]
      have C := Lib.hid (has_any h n hS)
      rw [cellAt_has, hcc] at C
      have IH := Lib.hid fun o => ih c.prev (w.alloc o) (by omega) (h.keep fun g hg _ => Below.heap_alloc w o g hg) hch
      have hpl := pathF_len k S c.prev
      have k0 := h.k0
      obtain ⟨g0, rfl, _, q0, q1, q2, q3, q4⟩ := h.allAt hat
      have hgl : g0 < w.heap.size := (h.all.lt g0 rfl).2
      have hil := at_lt hat
      have b0 : (0 : Int) ≤ (n : Int) := by omega
      have b1 : (n : Int) < (S.length : Int) := by omega
      have HNE := Lib.hid (pathF_ne k S c.prev hch)
      rw [epath]
      obtain ⟨ev, hev⟩ : ∃ ev, c.event = ev := ⟨_, rfl⟩
      obtain ⟨fr, hfre⟩ : ∃ fr, c.fresh = fr := ⟨_, rfl⟩
      rw [hev] at q1 ⊢
      rw [hfre] at q2 hfr ⊢
      have HF := Lib.hid hfr
      obtain ⟨yss, hyss⟩ : ∃ yss, pathF k S c.prev = yss := ⟨_, rfl⟩
      rw [hyss] at IH HNE hpl ⊢
      obtain ⟨hpl1, hpl2⟩ := hpl
      have HL2 := Lib.hid hpl2
      clear h hcc hat epath hch hfr hev hfre hyss hpl2 ih no
      cases fr
      case true =>
        rw [if_pos rfl]
        go_enter Try.func13, Try.ntmps13
        go_wp2_with fail
        refine C.out.mono ?_
        rintro e w' ⟨rfl, rfl⟩
        go_wp2_with fail
        refine (IH.out (.cells #[.int .i64 c.prev, .int .i64 ev, .bool true, .int .i64 c.own, .int .i64 c.behind] 61)).mono ?_
        rintro e w2 ⟨v, rfl, ⟨vs, hR⟩, hB⟩
        have HB := (Blk.new w 61 #[.int .i64 c.prev, .int .i64 ev, .bool true, .int .i64 c.own, .int .i64 c.behind]).below hB (by simp)
        have j1 := HB.cell 1
        have j2 := HB.cell 2
        have hw2 : w.heap.size + 1 ≤ w2.heap.size := by have := hB.size; simpa using this
        have hwlt : w.heap.size < w2.heap.size := by omega
        have G := Lib.hid (((Below.refl w.heap.size w).alloc (Nat.le_refl _) (.cells #[.int .i64 c.prev, .int .i64 ev, .bool true, .int .i64 c.own, .int .i64 c.behind] 61)).trans (hB.mono (by simp)))
        have HR := Lib.hid hR
        have HU := Lib.hid (World.ownsRow_lit (base := w.heap.size + 1) (e := 3) (size := 1) w2 #[.int .i64 ev] 1 hw2 (by decide) rfl)
        obtain ⟨i2, hi2, hz2, hs2, hb2⟩ := info_parts info_ints
        rw [World.size_alloc] at HR
        have HO := Lib.hid HR.out.out
        clear hR hB HB C k0 q0 q1 q2 q3 q4 hgl hil b0 b1 IH
        go_wp2_with (at_builtin; refine wpList_append_any _ rfl (.tmp 33) (.tmp 38) _ rfl (w.heap.size + 1) 25 i2 _ 1 24 Try.underlying22 hi2 hz2 hs2 hb2 rfl (by omega) v yss.length vs rfl ((HO.out.alloc _).alloc _) (w2.heap.size + 2) (some ⟨w2.heap.size + 1, 0, none⟩) 1 1 [.slice (some ⟨w2.heap.size, 0, none⟩) 1 1] rfl ?d0 oneS ?c1 ?c2 ?c3 ?_; rotate_left 4; intro v4 w4 ho hg hat)
        case d0 =>
          have h := Blk.new (w2.alloc (.cells #[.int .i64 ev] 3)) 25 #[.slice (some ⟨w2.heap.size, 0, none⟩) 1 1]
          rw [World.size_alloc] at h
          exact src1 h
        case c1 => unfold maxLen; omega
        case c2 => omega
        case c3 => simp; omega
        go_ret
        refine ⟨_, rfl, ?_, ?_⟩
        · refine ((((HR.out.alloc (.cells #[.int .i64 ev] 3)).alloc (.cells #[.slice (some ⟨w2.heap.size, 0, none⟩) 1 1] 25)).snoc (x := [ev]) (u := .slice (some ⟨w2.heap.size, 0, none⟩) 1 1) (by simp) (HU.out.alloc _) (fun j y hy e => ?_) ho hg).lower (Nat.le_succ _))
          obtain ⟨b, hb, hlt⟩ := HR.out.old hy
          rw [hb] at e
          injection e with e
          have e : b = w2.heap.size := e
          omega
        · have h1 := (G.out.alloc (by omega) (.cells #[.int .i64 ev] 3)).alloc (by simp; omega) (.cells #[.slice (some ⟨w2.heap.size, 0, none⟩) 1 1] 25)
          exact h1.grown hg (by simp; omega) (fun b hb => by have := (HO.out.lt b hb).1; omega)
      case false =>
        rw [if_neg (by decide)]
        have hyne := HNE.out (HF.out rfl)
        obtain ⟨zss, x, rfl⟩ : ∃ zss x, yss = zss ++ [x] := ⟨yss.dropLast, yss.getLast hyne, (List.dropLast_concat_getLast hyne).symm⟩
        rw [List.dropLast_concat, show (zss ++ [x]).getLastD [] = x by simp]
        have hxl := HL2.out x (by simp)
        rw [List.length_append, List.length_singleton] at hpl1
        clear HNE HF HL2 hyne
        go_enter Try.func13, Try.ntmps13
        go_wp2_with fail
        refine C.out.mono ?_
        rintro e w' ⟨rfl, rfl⟩
        go_wp2_with fail
        refine (IH.out (.cells #[.int .i64 c.prev, .int .i64 ev, .bool false, .int .i64 c.own, .int .i64 c.behind] 61)).mono ?_
        rintro e w2 ⟨v, rfl, hR, hB⟩
        have HB := (Blk.new w 61 #[.int .i64 c.prev, .int .i64 ev, .bool false, .int .i64 c.own, .int .i64 c.behind]).below hB (by simp)
        have j1 := HB.cell 1
        have j2 := HB.cell 2
        have hw2 : w.heap.size + 1 ≤ w2.heap.size := by have := hB.size; simpa using this
        have hwlt : w.heap.size < w2.heap.size := by omega
        have GB := Lib.hid (((Below.refl w.heap.size w).alloc (Nat.le_refl _) (.cells #[.int .i64 c.prev, .int .i64 ev, .bool false, .int .i64 c.own, .int .i64 c.behind] 61)).trans (hB.mono (by simp)))
        rw [World.size_alloc] at hR
        obtain ⟨g, cap, g2, cap2, rfl, hcl, hfl, hol⟩ := hR.last
        obtain ⟨cc1, cc2⟩ : zss.length + 1 ≤ cap ∧ cap ≤ maxLen := by obtain ⟨A, c', he, h1, h2⟩ := hR.slice; injection he with _ _ he; subst he; simp at h1; exact ⟨h1, h2⟩
        obtain ⟨nx, hnx⟩ : ∃ nx, x.length = nx := ⟨_, rfl⟩
        obtain ⟨ny, hny⟩ : ∃ ny, zss.length = ny := ⟨_, rfl⟩
        have hgw : g < w2.heap.size ∧ w.heap.size + 1 ≤ g := by obtain ⟨vs, hv⟩ := hR; have := hv.out.lt g rfl; exact ⟨this.2, this.1⟩
        have hg2w : g2 < w2.heap.size ∧ w.heap.size + 1 ≤ g2 := by
          have hp : 0 < x.length := by obtain ⟨vs, hv⟩ := hR; exact (hv.row zss.length x (by simp)).1
          have := hol.lt g2 rfl; exact ⟨this.2, this.1⟩
        have hgg : g ≠ g2 := fun e => by obtain ⟨vs, hv⟩ := hR; exact own_ne hv.out hol (by decide) (g := g) rfl (by rw [e]; rfl)
        have GE : Hid (∀ (u' : Value) (w5 : World), w5.ownsRow (w.heap.size + 1) 3 1 u' (nx + 1) (iv x ++ [.int .i64 ev]) → (w2.alloc (.cells #[.int .i64 ev] 3)).drew.grownBy w5 (some g2) → (u'.ownBlock = some g2 ∨ u'.ownBlock = some (w2.alloc (.cells #[.int .i64 ev] 3)).drew.heap.size) →
            PathPost (zss ++ [x ++ [ev]]) w (.returned (.slice (some ⟨g, 0, none⟩) (ny + 1) cap)) (w5.setCell ⟨g, ny, none⟩ u')) := Lib.hid fun u' w5 ho hg hat => by
          have hR2 : RowsO (w.heap.size + 1) (w2.alloc (.cells #[.int .i64 ev] 3)).drew (.slice (some ⟨g, 0, none⟩) (zss.length + 1) cap) (zss ++ [x]) := by
            obtain ⟨vs, hv⟩ := hR
            have h2 := hv.alloc (.cells #[.int .i64 ev] 3)
            exact ⟨vs, h2.out, h2.len, h2.row, h2.apart⟩
          have hc2 : (w2.alloc (.cells #[.int .i64 ev] 3)).drew.cell? ⟨g, zss.length, none⟩ = some (.slice (some ⟨g2, 0, none⟩) x.length cap2) := (World.cell?_alloc_lt w2 _ ⟨g, zss.length, none⟩ hgw.1).trans hcl
          have h3 := hR2.grow ev hc2 (by rw [hnx]; exact ho) hg (hat.imp id fun h => ⟨_, h, Nat.le_refl _⟩)
          rw [hny] at h3
          refine ⟨_, rfl, h3.lower (Nat.le_succ _), ?_⟩
          have h4 := (GB.out.alloc (by omega) (.cells #[.int .i64 ev] 3)).drew
          have h5 := h4.grown hg (by simp [World.drew]; omega) (fun b hb => by injection hb with hb; omega)
          exact h5.setCell (p := ⟨g, ny, none⟩) (by show w.heap.size ≤ g; omega) u'
        have GC : Hid (∀ w5 : World, (w2.alloc (.cells #[.int .i64 ev] 3)).drew.grownBy w5 (some g2) → w5.cell? ⟨g, ny, none⟩ = some (.slice (some ⟨g2, 0, none⟩) nx cap2)) := Lib.hid fun w5 hg => by
          have hc2 : (w2.alloc (.cells #[.int .i64 ev] 3)).drew.cell? ⟨g, zss.length, none⟩ = some (.slice (some ⟨g2, 0, none⟩) x.length cap2) := (World.cell?_alloc_lt w2 _ ⟨g, zss.length, none⟩ hgw.1).trans hcl
          rw [hny, hnx] at hc2
          exact (World.cell?_of_block (hg.block g (by simp [World.drew]; omega) (by simp [hgg]))).trans hc2
        have GZ : Hid (∀ w5 : World, (w2.alloc (.cells #[.int .i64 ev] 3)).drew.grownBy w5 (some g2) → w5.frozen? ⟨g, ny, none⟩ = false) := Lib.hid fun w5 hg => by
          have h1 := hg.block g (by simp [World.drew]; omega) (by simp [hgg])
          have h2 : (w2.alloc (.cells #[.int .i64 ev] 3)).drew.heap[g]? = w2.heap[g]? := Below.heap_alloc w2 _ g hgw.1
          have h3 : w5.heap[g]? = w2.heap[g]? := h1.trans h2
          rw [hny] at hfl
          unfold World.frozen? at hfl ⊢
          rw [h3]; exact hfl
        rw [hny] at hcl hfl cc1 hpl1
        rw [hnx] at hcl hol hxl
        rw [hny]
        unfold maxLen at cc2
        obtain ⟨i1, hi1, hz1, hs1, hb1⟩ := info_parts info_int
        have OL := Lib.hid hol
        have n0 : IntKind.i64.wrap (ny : Int) = (ny : Int) := by rw [IntKind.wrap_i64]; omega
        have n1 : IntKind.i64.wrap ((ny : Int) + 1 - 1) = (ny : Int) := by rw [IntKind.wrap_i64]; omega
        have n2 : (0 : Int) ≤ (ny : Int) := by omega
        have n3 : (ny : Int) < (ny : Int) + 1 := by omega
        have hgl2 := hgw.1
        clear hR hB HB C k0 q0 q1 q2 q3 q4 hgl hil b0 b1 IH hol hnx hny hgw
        go_wp2_with fail
        refine wp_region_any (by kernel_rfl) ?_
        change wpAny _ _ _ _ _ _ _ (World.drew _)
        refine wpAny_take (i := 0) (v := ?_) rfl (by kernel_rfl) (by kernel_rfl) (by kernel_rfl) (fun _ _ _ h => h) (Or.inl ⟨by kernel_rfl, ?_⟩) ?_
        rotate_left
        · (intro w'; go_simp; try with_reducible rfl)
        refine wpAny_take (i := 1) (v := ?_) rfl (by kernel_rfl) (by kernel_rfl) (by kernel_rfl) (fun _ _ _ h => h) (Or.inl ⟨by kernel_rfl, ?_⟩) ?_
        rotate_left
        · (intro w'; go_simp; try with_reducible rfl)
        refine wpAny_take (i := 2) (v := ?_) rfl (by kernel_rfl) (by kernel_rfl) (by kernel_rfl) (fun _ _ _ h => h) (Or.inl ⟨by kernel_rfl, ?_⟩) ?_
        rotate_left
        · (intro w'; go_simp; try with_reducible rfl)
        refine wpAny_take (i := 3) (v := ?_) rfl (by kernel_rfl) (by kernel_rfl) (by kernel_rfl) (fun _ _ _ h => h) (Or.inl ⟨by kernel_rfl, ?_⟩) ?_
        rotate_left
        · (intro w'; go_simp; try with_reducible rfl)
        refine wpAny_take (i := 4) (v := ?_) rfl (by kernel_rfl) (by kernel_rfl) (by kernel_rfl) (fun _ _ _ h => h) (Or.inl ⟨by kernel_rfl, ?_⟩) ?_
        rotate_left
        · (intro w'; go_simp; try with_reducible rfl)
        refine wpAny_take (i := 5) (v := ?_) rfl (by kernel_rfl) (by kernel_rfl) (by kernel_rfl) (fun _ _ _ h => h) (Or.inl ⟨by kernel_rfl, ?_⟩) ?_
        rotate_left
        · (intro w'; go_simp; try with_reducible rfl)
        refine wpAny_take (i := 6) (v := ?_) rfl (by kernel_rfl) (by kernel_rfl) (by kernel_rfl) (fun _ _ _ h => h) (Or.inl ⟨by kernel_rfl, ?_⟩) ?_
        rotate_left
        · (intro w'; go_simp; try with_reducible rfl)
        refine wpAny_take (i := 7) (v := ?_) rfl (by kernel_rfl) (by kernel_rfl) (by kernel_rfl) (fun _ _ _ h => h) (Or.inl ⟨by kernel_rfl, ?_⟩) ?_
        rotate_left
        · (intro w'; go_simp; try with_reducible rfl)
        refine wpAny_take (i := 8) (v := ?_) rfl (by kernel_rfl) (by kernel_rfl) (by kernel_rfl) (fun _ _ _ h => h) (Or.inl ⟨by kernel_rfl, ?_⟩) ?_
        rotate_left
        · (intro w'; go_simp; try with_reducible rfl)
        refine wpAny_take (i := 10) (v := ?_) rfl (by kernel_rfl) (by kernel_rfl) (by kernel_rfl) (fun _ _ _ h => h) (Or.inl ⟨by kernel_rfl, ?_⟩) ?_
        rotate_left
        · (intro w'; go_simp; try with_reducible rfl)
        refine wpAny_take (i := 11) (v := ?_) rfl (by kernel_rfl) (by kernel_rfl) (by kernel_rfl) (fun _ _ _ h => h) (Or.inl ⟨by kernel_rfl, ?_⟩) ?_
        rotate_left
        · (intro w'; go_simp; try with_reducible rfl)
        refine wpAny_ready (rs := [9, 12]) (by kernel_rfl) (by simp) ?_
        refine AllReady.cons rfl (fun K hK => ?_) ?_
        · skip
          go_simp
          (refine hK _ _ ?_; clear hK K)
          refine wpAny_ready (rs := [12]) (by kernel_rfl) (by simp) ?_
          refine AllReady.cons rfl (fun K hK => ?_) AllReady.nil
          go_simp
          (refine hK _ _ ?_; clear hK K)
          refine wpAny_ready (rs := [13]) (by kernel_rfl) (by simp) ?_
          refine AllReady.cons rfl (fun K hK => ?_) AllReady.nil
          go_simp
          (refine hK _ _ ?_; clear hK K)
          have SB := Lib.hid (Blk.new w2 3 #[.int .i64 ev])
          refine wpAny_ready (rs := [14]) (by kernel_rfl) (by simp) ?_
          refine AllReady.cons rfl (fun K hK => ?_) AllReady.nil
          refine step_append_any _ (by rfl) (.tmp 49) (.tmp 53) 25 (by rfl) _ 3 i1 _ 1 8 Try.underlying25 hi1 hz1 hs1 hb1 rfl (by omega) _ _ _ (by rfl) (OL.out.alloc _).drew _ _ 1 1 [.int .i64 ev] (by rfl) (src1 (Blk.drew SB.out)) oneI (by unfold maxLen; omega) (by omega) (by simp; omega) ?_
          intro u' w5 ho hg hat
          have U := Lib.hid (And.intro ho (And.intro hg hat))
          have f9 : w5.cell? ⟨g, ny, none⟩ = some (.slice (some ⟨g2, 0, none⟩) nx cap2) := GC.out w5 hg
          have z9 : w5.frozen? ⟨g, ny, none⟩ = false := GZ.out w5 hg
          obtain ⟨A5, c5, rfl⟩ := own_slice ho
          clear ho hg hat
          (refine hK _ _ ?_; clear hK K)
          refine wpAny_take (i := 15) (v := ?_) rfl (by kernel_rfl) (by kernel_rfl) (by kernel_rfl) (fun _ _ _ h => h) (Or.inl ⟨by kernel_rfl, ?_⟩) ?_
          rotate_left
          · (intro w'; go_simp; try with_reducible rfl)
          refine wpAny_ready (rs := [16]) (by kernel_rfl) (by simp) ?_
          refine AllReady.cons rfl (fun K hK => ?_) AllReady.nil
          go_simp
          (refine hK _ _ ?_; clear hK K)
          refine wpAny_done (by kernel_rfl) ?_ _
          go_simp
          clear f9 z9
          go_wp2_with fail
          go_ret
          exact GE.out _ _ U.out.1 U.out.2.1 U.out.2.2
        refine AllReady.cons rfl (fun K hK => ?_) AllReady.nil
        go_simp
        (refine hK _ _ ?_; clear hK K)
        refine wpAny_ready (rs := [9, 13]) (by kernel_rfl) (by simp) ?_
        refine AllReady.cons rfl (fun K hK => ?_) ?_
        · skip
          go_simp
          (refine hK _ _ ?_; clear hK K)
          refine wpAny_ready (rs := [13]) (by kernel_rfl) (by simp) ?_
          refine AllReady.cons rfl (fun K hK => ?_) AllReady.nil
          go_simp
          (refine hK _ _ ?_; clear hK K)
          have SB := Lib.hid (Blk.new w2 3 #[.int .i64 ev])
          refine wpAny_ready (rs := [14]) (by kernel_rfl) (by simp) ?_
          refine AllReady.cons rfl (fun K hK => ?_) AllReady.nil
          refine step_append_any _ (by rfl) (.tmp 49) (.tmp 53) 25 (by rfl) _ 3 i1 _ 1 8 Try.underlying25 hi1 hz1 hs1 hb1 rfl (by omega) _ _ _ (by rfl) (OL.out.alloc _).drew _ _ 1 1 [.int .i64 ev] (by rfl) (src1 (Blk.drew SB.out)) oneI (by unfold maxLen; omega) (by omega) (by simp; omega) ?_
          intro u' w5 ho hg hat
          have U := Lib.hid (And.intro ho (And.intro hg hat))
          have f9 : w5.cell? ⟨g, ny, none⟩ = some (.slice (some ⟨g2, 0, none⟩) nx cap2) := GC.out w5 hg
          have z9 : w5.frozen? ⟨g, ny, none⟩ = false := GZ.out w5 hg
          obtain ⟨A5, c5, rfl⟩ := own_slice ho
          clear ho hg hat
          (refine hK _ _ ?_; clear hK K)
          refine wpAny_take (i := 15) (v := ?_) rfl (by kernel_rfl) (by kernel_rfl) (by kernel_rfl) (fun _ _ _ h => h) (Or.inl ⟨by kernel_rfl, ?_⟩) ?_
          rotate_left
          · (intro w'; go_simp; try with_reducible rfl)
          refine wpAny_ready (rs := [16]) (by kernel_rfl) (by simp) ?_
          refine AllReady.cons rfl (fun K hK => ?_) AllReady.nil
          go_simp
          (refine hK _ _ ?_; clear hK K)
          refine wpAny_done (by kernel_rfl) ?_ _
          go_simp
          clear f9 z9
          go_wp2_with fail
          go_ret
          exact GE.out _ _ U.out.1 U.out.2.1 U.out.2.2
        refine AllReady.cons rfl (fun K hK => ?_) AllReady.nil
        go_simp
        (refine hK _ _ ?_; clear hK K)
        have SB := Lib.hid (Blk.new w2 3 #[.int .i64 ev])
        refine wpAny_ready (rs := [9]) (by kernel_rfl) (by simp) ?_
        refine AllReady.cons rfl (fun K hK => ?_) AllReady.nil
        go_simp
        (refine hK _ _ ?_; clear hK K)
        refine wpAny_ready (rs := [14]) (by kernel_rfl) (by simp) ?_
        refine AllReady.cons rfl (fun K hK => ?_) AllReady.nil
        refine step_append_any _ (by rfl) (.tmp 49) (.tmp 53) 25 (by rfl) _ 3 i1 _ 1 8 Try.underlying25 hi1 hz1 hs1 hb1 rfl (by omega) _ _ _ (by rfl) (OL.out.alloc _).drew _ _ 1 1 [.int .i64 ev] (by rfl) (src1 (Blk.drew SB.out)) oneI (by unfold maxLen; omega) (by omega) (by simp; omega) ?_
        intro u' w5 ho hg hat
        have U := Lib.hid (And.intro ho (And.intro hg hat))
        have f9 : w5.cell? ⟨g, ny, none⟩ = some (.slice (some ⟨g2, 0, none⟩) nx cap2) := GC.out w5 hg
        have z9 : w5.frozen? ⟨g, ny, none⟩ = false := GZ.out w5 hg
        obtain ⟨A5, c5, rfl⟩ := own_slice ho
        clear ho hg hat
        (refine hK _ _ ?_; clear hK K)
        refine wpAny_take (i := 15) (v := ?_) rfl (by kernel_rfl) (by kernel_rfl) (by kernel_rfl) (fun _ _ _ h => h) (Or.inl ⟨by kernel_rfl, ?_⟩) ?_
        rotate_left
        · (intro w'; go_simp; try with_reducible rfl)
        refine wpAny_ready (rs := [16]) (by kernel_rfl) (by simp) ?_
        refine AllReady.cons rfl (fun K hK => ?_) AllReady.nil
        go_simp
        (refine hK _ _ ?_; clear hK K)
        refine wpAny_done (by kernel_rfl) ?_ _
        go_simp
        clear f9 z9
        go_wp2_with fail
        go_ret
        exact GE.out _ _ U.out.1 U.out.2.1 U.out.2.2
end
end Go.Proofs.Ytcgapjicbgfpjaa

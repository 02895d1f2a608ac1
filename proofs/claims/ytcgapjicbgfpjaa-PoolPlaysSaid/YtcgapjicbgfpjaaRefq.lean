/-
  The walk of the document's Path.
-/
import Derived.Test.YtcgapjicbgfpjaaRefp
namespace Go.Proofs.Ytcgapjicbgfpjaa
set_option linter.unusedVariables false
set_option linter.unusedSimpArgs false
open Go.RowKit Go.Maps Go.Deep

theorem cell_in {w : World} {p : Addr} {u : Value} (h : w.cell? p = some u) : p.block < w.heap.size := by
  rcases Nat.lt_or_ge p.block w.heap.size with hl | hl
  · exact hl
  · exfalso
    obtain ⟨b, off, spot⟩ := p
    have hs := World.cell?_spot h
    have hs : spot = none := hs
    subst hs
    unfold World.cell? at h
    rw [Array.getElem?_eq_none hl] at h
    simp at h
theorem RowsR.below {w w' : World} {A : Option Addr} {xss : List (List Int)} (h : RowsR w A xss) (hb : Below w.heap.size w w') : RowsR w' A xss := fun hn => by
  obtain ⟨b, off, hA, hr⟩ := h hn
  have k : ∀ {p : Addr} {u : Value}, w.cell? p = some u → w'.cell? p = some u := fun {p u} hp => (hb.cell (cell_in hp)).trans hp
  refine ⟨b, off, hA, fun r x hx => ?_⟩
  obtain ⟨A', c', hc, hin⟩ := hr r x hx
  refine ⟨A', c', k hc, fun hp => ?_⟩
  obtain ⟨b', off', hA', hj⟩ := hin hp
  exact ⟨b', off', hA', fun j h => k (hj j h)⟩
/-- a slice of slices of numbers, by its elements -/
def RowsQ (w : World) (A : Option Addr) (xss : List (List Int)) (vs : List Value) : Prop :=
  Reads w w.heap.size 1 A xss.length vs ∧ ∀ (j : Nat) (x : List Int), xss[j]? = some x → ∃ (A' : Option Addr) (c' : Nat), vs[j]? = some (Value.slice A' x.length c') ∧ Reads w w.heap.size 1 A' x.length (iv x)
theorem RowsQ.nil (w : World) : RowsQ w none [] [] := ⟨Reads.none_, fun j x h => by simp at h⟩
theorem reads_up {w w' : World} {A : Option Addr} {n : Nat} {xs : List Value} (h : Reads w w.heap.size 1 A n xs) (hb : Below w.heap.size w w') : Reads w' w'.heap.size 1 A n xs := (h.below hb).more hb.size
theorem RowsQ.below {w w' : World} {A : Option Addr} {xss : List (List Int)} {vs : List Value} (h : RowsQ w A xss vs) (hb : Below w.heap.size w w') : RowsQ w' A xss vs :=
  ⟨reads_up h.1 hb, fun j x hx => by
    obtain ⟨A', c', h1, h2⟩ := h.2 j x hx
    exact ⟨A', c', h1, reads_up h2 hb⟩⟩
theorem RowsQ.rowsR {w : World} {A : Option Addr} {xss : List (List Int)} {vs : List Value} (h : RowsQ w A xss vs) : RowsR w A xss := fun hn => by
  obtain ⟨b, off, hA, _, hc⟩ := h.1.shape hn
  refine ⟨b, off, hA, fun r x hx => ?_⟩
  obtain ⟨A', c', h1, h2⟩ := h.2 r x hx
  refine ⟨A', c', hc r _ h1, fun hp => ?_⟩
  obtain ⟨b', off', hA', _, hj⟩ := h2.shape hp
  exact ⟨b', off', hA', fun j h => hj j _ (by unfold iv; rw [List.getElem?_map, List.getElem?_eq_getElem h]; rfl)⟩
theorem RowsQ.one {w : World} {A : Option Addr} {xss : List (List Int)} {vs : List Value} (h : RowsQ w A xss vs) : ∀ u ∈ vs, u.oneCell' = true := by
  intro u hu
  obtain ⟨j, hj, rfl⟩ := List.getElem_of_mem hu
  have hl := h.1.1
  obtain ⟨A', c', h1, _⟩ := h.2 j _ (List.getElem?_eq_getElem (show j < xss.length by omega))
  rw [List.getElem?_eq_getElem hj] at h1
  injection h1 with h1
  rw [h1]; rfl
theorem RowsQ.cons {w : World} {A A' : Option Addr} {c' : Nat} {xss : List (List Int)} {vs : List Value} {x : List Int} {A2 : Option Addr} (h : RowsQ w A xss vs) (hx : Reads w w.heap.size 1 A' x.length (iv x)) (hr : Reads w w.heap.size 1 A2 (xss.length + 1) (.slice A' x.length c' :: vs)) :
    RowsQ w A2 (x :: xss) (.slice A' x.length c' :: vs) :=
  ⟨by simpa using hr, fun j y hy => by
    cases j with
    | zero => simp at hy; subst hy; exact ⟨A', c', rfl, hx⟩
    | succ j =>
      obtain ⟨A3, c3, h1, h2⟩ := h.2 j y (by simpa using hy)
      exact ⟨A3, c3, by simpa using h1, h2⟩⟩
/-- what stands behind the path so far: the row begun, the rows made -/
def comb (P : List (List Int)) (l : List Int) (out : List (List Int)) : List (List Int) := if l = [] then P ++ out else P.dropLast ++ (P.getLastD [] ++ l) :: out
theorem comb_nil (P : List (List Int)) : comb P [] [] = P := by simp [comb]
theorem comb_fresh (P : List (List Int)) (e : Int) (l : List Int) (out : List (List Int)) : comb (P ++ [[e]]) l out = comb P [] ((e :: l) :: out) := by
  unfold comb
  rw [if_pos rfl]
  by_cases hl : l = []
  · subst hl; simp
  · rw [if_neg hl]; simp
theorem comb_more {P : List (List Int)} (hP : P ≠ []) (e : Int) (l : List Int) (out : List (List Int)) : comb (P.dropLast ++ [P.getLastD [] ++ [e]]) l out = comb P (e :: l) out := by
  unfold comb
  rw [if_neg (List.cons_ne_nil e l)]
  by_cases hl : l = []
  · subst hl; simp
  · rw [if_neg hl]; simp
def RPath (w : World) (S : St) (E : List (List Int)) (K k : Nat) (j : Int) (vout vl : Value) (wr : World) : Prop :=
  ∃ (out : List (List Int)) (l : List Int) (A1 : Option Addr) (c1 : Nat) (A2 : Option Addr) (c2 : Nat) (vs : List Value), vout = .slice A1 out.length c1 ∧ vl = .slice A2 l.length c2 ∧ RowsQ wr A1 out vs ∧ Reads wr wr.heap.size 1 A2 l.length (iv l) ∧
    Chain k S j ∧ (l ≠ [] → (cellAt S j).isSome = true) ∧ comb (pathF k S j) l out = E ∧ Below w.heap.size w wr ∧ out.length + k ≤ K ∧ l.length + k ≤ K ∧ out.length ≤ c1 ∧ l.length ≤ c2 ∧ c1 ≤ maxLen ∧ c2 ≤ maxLen
theorem RPath.done {w wr : World} {S : St} {E : List (List Int)} {K k : Nat} {j : Int} {vout vl : Value} (h : RPath w S E K k j vout vl wr) (hj : cellAt S j = none) : ∃ A c, vout = .slice A E.length c ∧ RowsR wr A E ∧ Below w.heap.size w wr := by
  obtain ⟨out, l, A1, c1, A2, c2, vs, rfl, rfl, hQ, hL, hc, hl, he, hb, _⟩ := h
  have hl0 : l = [] := by
    cases l with
    | nil => rfl
    | cons a l => have := hl (by simp); rw [hj] at this; cases this
  subst hl0
  have hp : pathF k S j = [] := by cases k with
    | zero => rfl
    | succ k => unfold pathF; rw [hj]
  rw [hp] at he
  have he : out = E := by simpa [comb] using he
  subst he
  exact ⟨A1, c1, rfl, hQ.rowsR, hb⟩
/-- a step: the number before the row begun; its slice -/
theorem RPath.step {w wr : World} {S : St} {E : List (List Int)} {K k : Nat} {q : Nat} {c : Cl} {vout vl : Value} (h : RPath w S E K (k + 1) q vout vl wr) (hq : at? S q = some c) :
    ∃ (out : List (List Int)) (l : List Int) (A1 : Option Addr) (c1 : Nat) (A2 : Option Addr) (c2 : Nat), vout = .slice A1 out.length c1 ∧ vl = .slice A2 l.length c2 ∧ Reads wr wr.heap.size 1 A2 l.length (iv l) ∧ l.length + (k + 1) ≤ K ∧ out.length + (k + 1) ≤ K ∧
      ∀ (w4 : World) (v4 : Value), Below wr.heap.size wr w4 → w4.ownsRow wr.heap.size 3 1 v4 (1 + l.length) ([.int .i64 c.event] ++ iv l) →
        ∃ A4 c4, v4 = .slice A4 (1 + l.length) c4 ∧ 1 + l.length ≤ c4 ∧ c4 ≤ maxLen ∧
          (c.fresh = false → RPath w S E K k c.prev vout v4 w4) ∧
          (c.fresh = true → ∃ vs : List Value, Reads w4 w4.heap.size 1 A1 out.length vs ∧ (∀ u ∈ vs, u.oneCell' = true) ∧ ∀ (w6 : World) (v6 : Value), Below w4.heap.size w4 w6 → w6.ownsRow w4.heap.size 25 1 v6 (1 + out.length) ([v4] ++ vs) → RPath w S E K k c.prev v6 (.slice none 0 0) w6) := by
  obtain ⟨out, l, A1, c1, A2, c2, vs, rfl, rfl, hQ, hL, hc, hl, he, hb, hk1, hk2, hc1, hc2, hm1, hm2⟩ := h
  refine ⟨out, l, A1, c1, A2, c2, rfl, rfl, hL, hk2, hk1, fun w4 v4 hb4 ho4 => ?_⟩
  obtain ⟨A4, c4, rfl⟩ := own_slice ho4
  obtain ⟨hc4, hm4⟩ := own_caps ho4
  have hcq : cellAt S (q : Int) = some c := by rw [cellAt_nat]; exact hq
  obtain ⟨c', hcc, hch, hfr⟩ := hc.resolve_left (by rw [hcq]; simp)
  rw [hcq] at hcc; injection hcc with hcc; subst hcc
  have hr4 : Reads w4 w4.heap.size 1 A4 (c.event :: l).length (iv (c.event :: l)) := by
    have h1 := Reads.of_own ho4
    have e : (c.event :: l).length = 1 + l.length := by simp; omega
    rw [e]; exact h1
  have hbw := hb.trans (hb4.mono hb.size)
  have hp : pathF (k + 1) S q = if c.fresh then pathF k S c.prev ++ [[c.event]] else (pathF k S c.prev).dropLast ++ [(pathF k S c.prev).getLastD [] ++ [c.event]] := by
    show (match cellAt S q with | none => [] | some c => _) = _
    rw [hcq]
  rw [hp] at he
  refine ⟨A4, c4, rfl, hc4, hm4, fun hf => ?_, fun hf => ⟨vs, (hQ.below hb4).1, hQ.one, fun w6 v6 hb6 ho6 => ?_⟩⟩
  · rw [hf, if_neg (by decide)] at he
    have hlive := hfr hf
    rw [comb_more (pathF_ne k S c.prev hch hlive)] at he
    exact ⟨out, c.event :: l, A1, c1, A4, c4, vs, rfl, by rw [show (c.event :: l).length = 1 + l.length by simp; omega], hQ.below hb4, hr4, hch, fun _ => hlive, he, hbw, by omega, by simp; omega, hc1, by simp; omega, hm1, hm4⟩
  · rw [hf, if_pos rfl, comb_fresh] at he
    obtain ⟨A6, c6, rfl⟩ := own_slice ho6
    obtain ⟨hc6, hm6⟩ := own_caps ho6
    have e : (c.event :: l).length = 1 + l.length := by simp; omega
    have hr6 : Reads w6 w6.heap.size 1 A6 (out.length + 1) (.slice A4 (c.event :: l).length c4 :: vs) := by
      rw [e, show out.length + 1 = 1 + out.length by omega]; exact Reads.of_own ho6
    have h6 := (((hQ.below hb4).below hb6).cons (c' := c4) (reads_up hr4 hb6) hr6)
    exact ⟨(c.event :: l) :: out, [], A6, c6, none, 0, _, by rw [show ((c.event :: l) :: out).length = 1 + out.length by simp; omega], rfl, h6, Reads.none_, hch, fun h => absurd rfl h, he, hbw.trans (hb6.mono hbw.size), by simp; omega, by simp; omega, by simp; omega, by simp, hm6, by decide⟩
section
variable {w : World} {base B : Nat} {S : St} {m : Int} {v : Value}
set_option maxRecDepth 100000 in
set_option maxHeartbeats 4000000 in
theorem ref_path (h : RefX w base B S m v) (hS : S.length ≤ 1000000) (K : Nat) (hK : K ≤ 1000000) (i : Int) (hch : Chain K S i) :
    Calls Try.prog 23 #[.pointer (some ⟨B, 0, none⟩), .int .i64 i] w fun e w' => ∃ A c, e = .returned (.slice A (pathF K S i).length c) ∧ RowsR w' A (pathF K S i) ∧ Below w.heap.size w w' := by
  obtain ⟨A, c, rfl, hc1, hc2⟩ := h.slice
  have HX := Lib.hid (fun W (hb : Below w.heap.size w W) => h.stay hb)
  obtain ⟨E, hE⟩ : ∃ E, pathF K S i = E := ⟨_, rfl⟩
  obtain ⟨n, hn⟩ : ∃ n, S.length = n := ⟨_, rfl⟩
  rw [hE]
  have R0 : Hid (RPath w S E K K i (.slice none 0 0) (.slice none 0 0) w) := Lib.hid ⟨[], [], none, 0, none, 0, [], rfl, rfl, RowsQ.nil w, Reads.none_, hch, fun h => absurd rfl h, by rw [comb_nil]; exact hE, Below.refl _ _, by simp, by simp, by simp, by simp, by decide, by decide⟩
  have HN := Lib.hid hn
  rw [hn] at HX hc1 hS
  unfold maxLen at hc2
  clear h hch hE hn
  go_enter Try.func23, Try.ntmps23
  go_wp2_with fail
  go_loopg [1, 5, 6] K (fun k i o l wr => ∃ j, i = .int .i64 j ∧ RPath w S E K k j o l wr)
  case atStart => exact ⟨_, rfl, R0.out⟩
  case round =>
    clear R0
    obtain ⟨j, rfl, hR⟩ := hrel
    have hb : Below w.heap.size w wr := by obtain ⟨_, _, _, _, _, _, _, _, _, _, _, _, _, _, hb, _⟩ := hR; exact hb
    have X := HX.out wr hb
    have CH := Lib.hid (ref_has X j (by rw [HN.out]; exact hS))
    rw [cellAt_has] at CH
    cases hj : cellAt S j with
    | none =>
      rw [hj] at CH
      have HD := Lib.hid (hR.done hj)
      obtain ⟨A9, c9, rfl, h91, h92⟩ := HD.out
      have H9 := Lib.hid (And.intro h91 h92)
      clear hR hj X hb HD h91 h92
      go_wp2_with fail
      refine CH.out.mono ?_
      rintro e w' ⟨rfl, rfl⟩
      go_wp2_with fail
      go_ret
      exact ⟨_, _, rfl, H9.out⟩
    | some c' =>
      rw [hj] at CH
      obtain ⟨q, rfl, hat⟩ := cellAt_some hj
      obtain ⟨k, rfl⟩ : ∃ k, gk = k + 1 := by
        cases gk with
        | zero =>
          obtain ⟨_, _, _, _, _, _, _, _, _, _, _, hc, _⟩ := hR
          have hc : cellAt S (q : Int) = none := hc
          rw [hj] at hc; cases hc
        | succ k => exact ⟨k, rfl⟩
      obtain ⟨out, l, A1, c1, A2, c2, rfl, rfl, hL, hl1, ho1, hstep⟩ := hR.step hat
      have hq := at_lt hat
      rw [HN.out] at hq
      have k0 := X.k0
      obtain ⟨g, cq, hv, _, _, _, _, _, q0, q1, q2, q3, q4, q5⟩ := X.six (at_some.1 hat) rfl
      injection hv with hv1 hv2 hv3
      subst hv1
      have b1 : (0 : Int) ≤ (q : Int) := by omega
      have b2 : (q : Int) < (n : Int) := by omega
      obtain ⟨ev, hev⟩ : ∃ ev, c'.event = ev := ⟨_, rfl⟩
      obtain ⟨pv, hpv⟩ : ∃ pv, c'.prev = pv := ⟨_, rfl⟩
      obtain ⟨fr, hfr⟩ : ∃ fr, c'.fresh = fr := ⟨_, rfl⟩
      rw [hev] at hstep q2
      rw [hpv] at hstep q1
      rw [hfr] at hstep q3
      have ST := Lib.hid hstep
      have HL := Lib.hid hL
      have OL := Lib.hid (fun o => World.ownsRow_lit (base := wr.heap.size) (e := 3) (size := 1) (wr.alloc o) #[.int .i64 ev] 1 (by simp) (by decide) rfl)
      have BL := Lib.hid (fun o o2 => ((Below.refl wr.heap.size wr).alloc (Nat.le_refl _) o).alloc (by simp) o2)
      have BK := Lib.hid (fun o2 => (Blk.new wr 47 #[.bool true, .int .i64 pv, .int .i64 ev, .bool fr, .int .i64 c'.own, .int .i64 c'.behind]).alloc o2)
      obtain ⟨nl, hnl⟩ : ∃ nl, l.length = nl := ⟨_, rfl⟩
      obtain ⟨no, hno⟩ : ∃ no, out.length = no := ⟨_, rfl⟩
      rw [hnl] at ST HL hl1 ⊢
      rw [hno] at ST ho1 ⊢
      obtain ⟨i2, hi2, hz2, hs2, hb2⟩ := info_parts info_int
      obtain ⟨i3, hi3, hz3, hs3, hb3⟩ := info_parts info_ints
      clear hR hj X hb hstep hL hat hev hpv hfr hv2 hv3 hnl hno
      go_wp2_with fail
      refine CH.out.mono ?_
      rintro e w' ⟨rfl, rfl⟩
      clear CH
      go_upto_region 6 with (at_builtin; refine wpList_append_any _ rfl (.tmp 20) (.tmp 21) 25 rfl wr.heap.size 3 i2 _ 1 8 Try.underlying25 hi2 hz2 hs2 hb2 rfl (by omega) (.slice (some ⟨wr.heap.size + 1, 0, none⟩) 1 1) 1 [.int .i64 ev] rfl (by have h9 := OL.out (.cells #[.bool true, .int .i64 pv, .int .i64 ev, .bool fr, .int .i64 c'.own, .int .i64 c'.behind] 47); rw [World.size_alloc] at h9; exact h9) wr.heap.size A2 nl c2 (iv l) rfl ((HL.out.alloc (Nat.le_refl _) _).alloc (by simp) _) ?d1 ?c1 ?c2 ?c3 ?_; rotate_left 4; intro v4 w4 ho hg hat4)
      case d1 =>
        intro u hu
        unfold iv at hu
        rw [List.mem_map] at hu
        obtain ⟨a, _, rfl⟩ := hu
        rfl
      case c1 => unfold maxLen; omega
      case c2 => omega
      case c3 => simp; omega
      have hb4 := (BL.out _ _).grown hg (by simp; omega) (fun g9 e9 => by simp [Value.ownBlock] at e9; omega)
      obtain ⟨A4, c4, rfl, hc4, hm4, hnf, hf⟩ := ST.out w4 v4 hb4 ho
      have BK4 := (BK.out _).grown hg (by simp [Value.ownBlock])
      have j1 := BK4.cell 1
      have j3 := BK4.cell 3
      have BK5 := Lib.hid BK4
      have HNF := Lib.hid hnf
      have HF := Lib.hid hf
      clear ST BL BK OL HL ho hg hat4 hb4 hnf hf BK4 k0 q0 q1 q2 q3 q4 q5
      cases fr with
      | false =>
        have HE := Lib.hid (HNF.out rfl)
        clear HNF HF
        go_wp2_with fail
        go_roundg k
        case measure => omega
        case rel => exact ⟨_, rfl, HE.out⟩
      | true =>
        obtain ⟨vs, hvs, hone, hnext⟩ := HF.out rfl
        have HVS := Lib.hid hone
        have HV := Lib.hid hvs
        have HN2 := Lib.hid hnext
        have OL := Lib.hid (World.ownsRow_lit (base := w4.heap.size) (e := 25) (size := 1) w4 #[.slice A4 (1 + nl) c4] 1 (Nat.le_refl _) (by decide) rfl)
        have BL := Lib.hid (fun o => (Below.refl w4.heap.size w4).alloc (Nat.le_refl _) o)
        clear HNF HF hvs hnext hone
        go_wp2_with (at_builtin; refine wpList_append_any _ rfl (.tmp 26) (.tmp 27) 22 rfl w4.heap.size 25 i3 _ 1 24 Try.underlying22 hi3 hz3 hs3 hb3 rfl (by omega) (.slice (some ⟨w4.heap.size, 0, none⟩) 1 1) 1 [.slice A4 (1 + nl) c4] rfl OL.out w4.heap.size A1 no c1 vs rfl (HV.out.alloc (Nat.le_refl _) _) ?d1 ?c1 ?c2 ?c3 ?_; rotate_left 4; intro v6 w6 ho hg hat4; have j1 := ((BK5.out.alloc _).grown hg (by simp [Value.ownBlock]; have := BK5.out.lt; omega)).cell 1; have HO6 := Lib.hid ho; have HG6 := Lib.hid hg; clear ho hg hat4)
        case d1 =>
          exact HVS.out
        case c1 => unfold maxLen; omega
        case c2 => omega
        have hb6 := (BL.out _).grown HG6.out (by simp) (fun g9 e9 => by simp [Value.ownBlock] at e9; omega)
        have HE := Lib.hid (HN2.out w6 v6 hb6 HO6.out)
        clear HN2 hb6 HO6 HG6 BL OL HV HVS BK5 j3
        go_roundg k
        case measure => omega
        case rel => exact ⟨_, rfl, HE.out⟩
end
end Go.Proofs.Ytcgapjicbgfpjaa

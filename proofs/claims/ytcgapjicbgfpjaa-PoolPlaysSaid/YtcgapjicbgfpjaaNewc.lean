/-
  The walk of Add: where a cell comes.
-/
import Derived.Test.YtcgapjicbgfpjaaFull
import Derived.Test.YtcgapjicbgfpjaaPutn
namespace Go.Proofs.Ytcgapjicbgfpjaa
set_option linter.unusedVariables false
set_option linter.unusedSimpArgs false
open Go.RowKit Go.Maps

attribute [local go_sem ↓] Go.wp_at_zero Go.wp_at_succ
/-- where a cell is put, and what there is then -/
def putS (S : St) (c : Cl) : St × Nat := match S.findIdx? (fun o => o.isNone) with
  | some q => (S.set q (some c), q)
  | none => (S ++ [some c], S.length)
theorem put_facts (S : St) (c : Cl) : Turn S (putS S c).1 (putS S c).2 (some c) ∧ at? S (putS S c).2 = none ∧ cnt (putS S c).1 = cnt S + 1 ∧ (putS S c).1.length ≤ S.length + 1 ∧ (putS S c).2 ≤ S.length := by
  unfold putS
  cases h : S.findIdx? (fun o => o.isNone) with
  | none =>
    refine ⟨turn_app S c, at_none_ge (Nat.le_refl _), cnt_app S c, by simp, Nat.le_refl _⟩
  | some q =>
    rw [List.findIdx?_eq_some_iff_getElem] at h
    obtain ⟨hq, hk, _⟩ := h
    have hn : at? S q = none := by
      unfold at?; rw [List.getElem?_eq_getElem hq]
      cases hs : S[q] with
      | none => rfl
      | some c => rw [hs] at hk; cases hk
    refine ⟨turn_set hq _, hn, ?_, by simp, Nat.le_of_lt hq⟩
    have := cnt_set S q (some c) hq
    rw [hn] at this
    simpa using this
section
variable {T : Nat → Prop} {w : World} {P : Nat} {S : St} {m : Int} {A1 A2 : Option Addr} {c1 c2 M : Nat} {xs : List Cl} {D : DataW Unit}
theorem put_any (h : PoolX T w P S m A1 A2 c1 c2 M xs D) (hT : ∀ g, T g → g < w.heap.size) (hS : S.length ≤ 1000000) (c : Cl) :
    Calls Try.prog 25 #[.pointer (some ⟨P, 0, none⟩), cvv c] w (PutPost T w P (putS S c).1 m M D (putS S c).2) := by
  have isS : ∀ j, j < S.length → ∀ hj : j < S.length, (S[j]).isNone = false → (at? S j).isSome = true := fun j _ hj h => by
    unfold at?; rw [List.getElem?_eq_getElem hj]
    cases hs : S[j] with
    | none => rw [hs] at h; cases h
    | some c => rfl
  unfold putS
  cases hf : S.findIdx? (fun o => o.isNone) with
  | none =>
    refine put_new h hT hS (fun j hj => ?_) c
    rw [List.findIdx?_eq_none_iff] at hf
    exact isS j hj hj (hf _ (List.getElem_mem hj))
  | some q =>
    rw [List.findIdx?_eq_some_iff_getElem] at hf
    obtain ⟨hq, hk, hb⟩ := hf
    refine put_free h hS q hq ?_ (fun j hj => ?_) c
    · unfold at?; rw [List.getElem?_eq_getElem hq]
      cases hs : S[q] with
      | none => rfl
      | some c => rw [hs] at hk; cases hk
    · exact isS j (by omega) (by omega) (by have := hb j hj; cases hh : (S[j]'(by omega)).isNone with
        | true => exact absurd hh this
        | false => rfl)
theorem poolx_map {w' : World} {D' : DataW Unit} (h : PoolX T w P S m A1 A2 c1 c2 M xs D) (hm : w'.ownsMap Try.prog 59 (plainElem Try.prog 3) M (Maps.size D + 1) D') (ht : w.mapTurned w' M) : PoolX T w' P S m A1 A2 c1 c2 M xs D' := by
  have hg := ht.grown
  refine ⟨h.blk.grown hg (fun e => blk_map_ne h.blk h.at_ (by injection e)), h.all.kept hg ?_, h.free.kept hg ?_, map_tight hm, h.len, h.live, h.tP, h.tM, h.tA, h.tB⟩
  · exact .inr (own_map_ne h.all h.at_)
  · exact .inr (own_map_ne h.free h.at_)


theorem PoolX.drewN (h : PoolX T w P S m A1 A2 c1 c2 M xs D) (n : Nat) : PoolX T (w.drewN n) P S m A1 A2 c1 c2 M xs D := h.keep fun _ _ _ => rfl
theorem come_x {T' : Nat → Prop} {w5 w6 : World} {S1 : St} {D' : DataW Unit} (h5 : PoolX T' w5 P S1 m A1 A2 c1 c2 M xs D) (hm : w6.ownsMap Try.prog 59 (plainElem Try.prog 3) M (Maps.size D + 1) D') (ht : w5.drew.mapTurned w6 M) : PoolX T' w6 P S1 m A1 A2 c1 c2 M xs D' :=
  poolx_map (w := w5.drew) (h5.keep fun _ _ _ => rfl) hm ht
theorem KeptT.less {T T' : Nat → Prop} {a b : World} (h : KeptT T' a b) (hT : ∀ g, T g → T' g) : KeptT T a b := ⟨h.1, h.2.1, h.2.2.1, h.2.2.2.1, fun g hg ht => h.2.2.2.2 g hg (hT g ht)⟩
theorem come_kept {w4 w5 w6 : World} {S1 : St} (h0 : KeptT T w w4) (h5 : PoolX (fun g => T g ∨ g = w.heap.size) w5 P S1 m A1 A2 c1 c2 M xs D) (hk : KeptT (fun g => T g ∨ g = w.heap.size) w4 w5) (ht : w5.drew.mapTurned w6 M) : KeptT T w w6 := by
  have h1 : KeptT T w w5 := h0.trans (hk.less fun g hg => .inl hg)
  exact h1.drew.grown ht.grown (fun g e => by injection e with e; subst e; exact .inl (fun t => h5.tM (.inl t)))
theorem come_at {pn : Nat} {b : Cl} (c : Cl) (hb : at? S pn = some b) : at? (putS S c).1 pn = some b := by
  obtain ⟨f1, f2, _⟩ := put_facts S c
  rw [f1 pn, if_neg (fun e => by rw [e, f2] at hb; cases hb)]
  exact hb
theorem come_root (c : Cl) {w4 w5 w6 : World} (h0 : KeptT T w w4) (hd : DOk D S) (hu : Uniq S) (hi : idx S c.prev c.event c.fresh = none) (hp : wfi c.prev) (he : wfi c.event) (hT : ∀ g, T g → g < w.heap.size) {B1 B2 : Option Addr} {k1 k2 : Nat} {ys : List Cl}
    (h5 : PoolX (fun g => T g ∨ g = w.heap.size) w5 P (putS S c).1 m B1 B2 k1 k2 M ys D) (hk : KeptT (fun g => T g ∨ g = w.heap.size) w4 w5)
    (hm : w6.ownsMap Try.prog 59 (plainElem Try.prog 3) M (Maps.size D + 1) (D.put (kl c.prev c.event c.fresh) (.lit (.int .i64 ((putS S c).2 : Nat))))) (ht : w5.drew.mapTurned w6 M) :
    PoolW T w6 P (putS S c).1 m ∧ KeptT T w w6 := by
  obtain ⟨f1, f2, f3, f4, f5⟩ := put_facts S c
  have hx := come_x h5 hm ht
  have hw : PoolW (fun g => T g ∨ g = w.heap.size) w6 P (putS S c).1 m := ⟨_, _, _, _, _, _, _, hx, dok_come hd (h5.at_.tidy law_key) hu f1 f2 hi hp he f3⟩
  exact ⟨hw.turn fun g _ t => .inl t, come_kept h0 h5 hk ht⟩
theorem come_behind (c : Cl) {w4 w5 w6 : World} (h0 : KeptT T w w4) {g6 pn : Nat} {b : Cl} (hd : DOk D S) (hu : Uniq S) (hi : idx S c.prev c.event c.fresh = none) (hp : wfi c.prev) (he : wfi c.event) (hT : ∀ g, T g → g < w.heap.size) {B1 B2 : Option Addr} {k1 k2 : Nat} {ys : List Cl}
    (h5 : PoolX (fun g => T g ∨ g = w.heap.size) w5 P (putS S c).1 m B1 B2 k1 k2 M ys D) (hk : KeptT (fun g => T g ∨ g = w.heap.size) w4 w5)
    (hm : w6.ownsMap Try.prog 59 (plainElem Try.prog 3) M (Maps.size D + 1) (D.put (kl c.prev c.event c.fresh) (.lit (.int .i64 ((putS S c).2 : Nat))))) (ht : w5.drew.mapTurned w6 M)
    (hA : B1 = some ⟨g6, 0, none⟩) (hb : at? (putS S c).1 pn = some b) :
    PoolW T (w6.setCell ⟨g6, pn * 5 + 4, none⟩ (.int .i64 (b.behind + 1))) P ((putS S c).1.set pn (some { b with behind := b.behind + 1 })) m ∧ KeptT T w (w6.setCell ⟨g6, pn * 5 + 4, none⟩ (.int .i64 (b.behind + 1))) := by
  subst hA
  obtain ⟨f1, f2, f3, f4, f5⟩ := put_facts S c
  have hx := come_x h5 hm ht
  have hdd := dok_come hd (h5.at_.tidy law_key) hu f1 f2 hi hp he f3
  have hx2 := set_field hx hb 4 (.int .i64 (b.behind + 1)) (by omega) (c' := { b with behind := b.behind + 1 }) rfl
  have hw : PoolW (fun g => T g ∨ g = w.heap.size) _ P _ m := ⟨_, _, _, _, _, _, _, hx2, dok_stay hdd (uniq_come hu f1 hi) (turn_set (at_lt hb) _) hb rfl rfl rfl (cnt_stay hb)⟩
  exact ⟨hw.turn fun g _ t => .inl t, (come_kept h0 h5 hk ht).setCell (p := ⟨g6, pn * 5 + 4, none⟩) (fun t => hx.tA ⟨g6, 0, none⟩ rfl (.inl t)) _⟩
set_option maxRecDepth 100000 in
set_option maxHeartbeats 4000000 in
theorem add_root_false (h : PoolX T w P S m A1 A2 c1 c2 M xs D) (hd : DOk D S) (hT : ∀ g, T g → g < w.heap.size) (hS : S.length ≤ 1000000) (hu : Uniq S) (e : Int) (he : 0 ≤ e) (hew : wfi e) (hi : idx S (-1) e true = none) (hm : (cnt S : Int) < m) :
    Calls Try.prog 10 #[.pointer (some ⟨P, 0, none⟩), .int .i64 (-1), .int .i64 e, .bool false] w (AddPost T w P (putS S ⟨-1, e, true, 1, 0⟩).1 m ((putS S ⟨-1, e, true, 1, 0⟩).2 : Nat) true) := by
  have hpw : wfi (-1) := by unfold wfi; decide
  have L := Lib.hid fun o n => look_at (((h.keep (w' := w.alloc o) fun g hg _ => Below.heap_alloc w o g hg).keep (w' := (w.alloc o).drewN n) fun _ _ _ => rfl)) hd (-1) e true hpw hew
  rw [hi] at L
  unfold kv at L
  have N : ∀ o n, (Builtin.len_ #[52] 3 #[.map (some M)]).run Try.prog ((w.alloc o).drewN n) = .ok (.int .i64 (cnt S : Nat)) ((w.alloc o).drewN n) := fun o n => by
    have h1 := ((h.keep (w' := w.alloc o) fun g hg _ => Below.heap_alloc w o g hg).keep (w' := (w.alloc o).drewN n) fun _ _ _ => rfl)
    have h2 := h1.at_.len Try.underlying52 3
    rw [hd.2] at h2
    exact h2
  have HD := Lib.hid hd
  have HTK : Hid (∀ o : Obj, ∀ g, (T g ∨ g = w.heap.size) → g < (w.alloc o).heap.size) := Lib.hid fun o g hg => by
    rw [World.size_alloc]
    rcases hg with hg | hg
    · have := hT g hg; omega
    · omega
  have HXK : Hid (∀ b : Bool, PoolX (fun g => T g ∨ g = w.heap.size) (w.alloc (.cells #[.int .i64 (-1), .int .i64 e, .bool b] 59)) P S m A1 A2 c1 c2 M xs D) := Lib.hid (fun b => by
    have h1 : PoolX (fun g => T g ∨ g = w.heap.size) w P S m A1 A2 c1 c2 M xs D := ⟨h.blk, h.all, h.free, h.at_, h.len, h.live, fun t => t.elim h.tP (fun e => by have := h.blk.lt; omega), fun t => t.elim h.tM (fun e => by have := h.at_.lt; omega),
      fun a ha t => t.elim (h.tA a ha) (fun e => by subst ha; have := (h.all.lt a.block rfl).2; omega), fun a ha t => t.elim (h.tB a ha) (fun e => by subst ha; have := (h.free.lt a.block rfl).2; omega)⟩
    exact h1.keep fun g hg _ => Below.heap_alloc w _ g hg)
  have HU := Lib.hid hu
  have k2 := h.k2
  have k3 := h.k3
  have hlP : P < w.heap.size := h.blk.lt
  obtain ⟨ct, hct⟩ : ∃ ct, ((cnt S : Nat) : Int) = ct := ⟨_, rfl⟩
  rw [hct] at N hm
  have LL := L.out
  have HI := Lib.hid hi
  have hTT := Lib.hid hT
  clear h hct L hi hd hu hT
  go_enter Try.func10, Try.ntmps10
  go_wp2_with fail
  go_quiet (fail)
  go_wp2_with fail
  go_quiet (fail)
  go_wp2_with fail
  refine wp_region_any (by kernel_rfl) ?_
  change wpAny _ _ _ _ _ _ _ (World.drew _)
  refine wpAny_take (i := 0) (v := ?_) rfl (by kernel_rfl) (by kernel_rfl) (by kernel_rfl) (fun _ _ _ h => h) (Or.inl ⟨by kernel_rfl, ?_⟩) ?_
  rotate_left
  · (intro w'; go_simp; try with_reducible rfl)
  refine wpAny_take (i := 1) (v := ?_) rfl (by kernel_rfl) (by kernel_rfl) (by kernel_rfl) (fun _ _ _ h => h) (Or.inl ⟨by kernel_rfl, ?_⟩) ?_
  rotate_left
  · (intro w'; go_simp; try with_reducible rfl)
  refine wpAny_take (i := 2) (v := ?_) rfl (by kernel_rfl) (by kernel_rfl) (by kernel_rfl) (fun _ _ _ h => h) (Or.inl ⟨by kernel_rfl, ?_⟩) ?_
  rotate_left
  · (intro w'; go_simp; try with_reducible rfl)
  refine wpAny_ready (rs := [3]) (by kernel_rfl) (by simp) ?_
  refine AllReady.cons rfl (fun K hK => ?_) AllReady.nil
  go_simp
  (refine hK _ _ ?_; clear hK K)
  refine wpAny_take (i := 4) (v := ?_) rfl (by kernel_rfl) (by kernel_rfl) (by kernel_rfl) (fun _ _ _ h => h) (Or.inl ⟨by kernel_rfl, ?_⟩) ?_
  rotate_left
  · (intro w'; go_simp; try with_reducible rfl)
  refine wpAny_ready (rs := [5]) (by kernel_rfl) (by simp) ?_
  refine AllReady.cons rfl (fun K hK => ?_) AllReady.nil
  go_simp
  go_wp2_with (go_at_call 25; refine (put_any (T := fun g => T g ∨ g = w.heap.size) ((HXK.out true).drewN _) (HTK.out _) hS (⟨(-1), e, true, 1, 0⟩ : Cl)).mono ?_; rintro ee w5 ⟨rfl, A1', A2', c1', c2', xs', HX5, HK5⟩)
  refine wpAny_take (i := 6) (v := ?_) rfl (by kernel_rfl) (by kernel_rfl) (by kernel_rfl) (fun _ _ _ h => h) (Or.inl ⟨by kernel_rfl, ?_⟩) ?_
  rotate_left
  · (intro w'; go_simp; try with_reducible rfl)
  refine wpAny_done (by kernel_rfl) ?_ _
  go_simp
  have HX5 := Lib.hid HX5
  have H0 := Lib.hid (fun n : Nat => ((KeptT.refl T w).alloc (.cells #[.int .i64 (-1), .int .i64 e, .bool true] 59)).drewN n)
  have HK5 := Lib.hid HK5
  obtain ⟨w6, hrun, hown6, hturn6⟩ := HX5.out.at_.drew.store law_key Try.underlying52 (by have h1 := HD.out.2; have h2 := cnt_le S; unfold maxLen; omega) (key_of (-1) e true hpw hew) (plainElem_int Try.underlying3 (WalkArith.wf_i64 (n := ((putS S (⟨(-1), e, true, 1, 0⟩ : Cl)).2 : Int)) (by have := (put_facts S (⟨(-1), e, true, 1, 0⟩ : Cl)).2.2.2.2; omega)))
  unfold kv at hrun
  have q2 := HX5.out.k2
  have HB5 := HK5.out.2.2.2.2 w.heap.size (by simp) (.inr rfl)
  have HB5 : Blk w5 w.heap.size 59 #[.int .i64 (-1), .int .i64 e, .bool true] := HB5.trans (Blk.new w 59 #[.int .i64 (-1), .int .i64 e, .bool true])
  have j0 := HB5.cell 0
  have j1 := HB5.cell 1
  have j2 := HB5.cell 2
  clear HB5
  have HM := Lib.hid (And.intro hown6 hturn6)
  clear hown6 hturn6 LL N k2 k3
  obtain ⟨qq, hqq⟩ : ∃ qq, (putS S (⟨(-1), e, true, 1, 0⟩ : Cl)).2 = qq := ⟨_, rfl⟩
  have HQQ := Lib.hid hqq
  rw [hqq] at hrun ⊢
  clear hqq
  go_wp2_with fail
  refine wp_region_any (by kernel_rfl) ?_
  change wpAny _ _ _ _ _ _ _ (World.drew _)
  refine wpAny_take (i := 0) (v := ?_) rfl (by kernel_rfl) (by kernel_rfl) (by kernel_rfl) (fun _ _ _ h => h) (Or.inl ⟨by kernel_rfl, ?_⟩) ?_
  rotate_left
  · (intro w'; go_simp; try with_reducible rfl)
  refine wpAny_take (i := 1) (v := ?_) rfl (by kernel_rfl) (by kernel_rfl) (by kernel_rfl) (fun _ _ _ h => h) (Or.inl ⟨by kernel_rfl, ?_⟩) ?_
  rotate_left
  · (intro w'; go_simp; try with_reducible rfl)
  refine wpAny_take (i := 2) (v := ?_) rfl (by kernel_rfl) (by kernel_rfl) (by kernel_rfl) (fun _ _ _ h => h) (Or.inl ⟨by kernel_rfl, ?_⟩) ?_
  rotate_left
  · (intro w'; go_simp; try with_reducible rfl)
  refine wpAny_take (i := 5) (v := ?_) rfl (by kernel_rfl) (by kernel_rfl) (by kernel_rfl) (fun _ _ _ h => h) (Or.inl ⟨by kernel_rfl, ?_⟩) ?_
  rotate_left
  · (intro w'; go_simp; try with_reducible rfl)
  refine wpAny_ready (rs := [3, 4]) (by kernel_rfl) (by simp) ?_
  refine AllReady.cons rfl (fun K hK => ?_) ?_
  · skip
    go_simp
    (refine hK _ _ ?_; clear hK K)
    refine wpAny_ready (rs := [4]) (by kernel_rfl) (by simp) ?_
    refine AllReady.cons rfl (fun K hK => ?_) AllReady.nil
    go_simp
    (refine hK _ _ ?_; clear hK K)
    refine wpAny_ready (rs := [6]) (by kernel_rfl) (by simp) ?_
    refine AllReady.cons rfl (fun K hK => ?_) AllReady.nil
    go_simp
    (refine hK _ _ ?_; clear hK K)
    refine wpAny_done (by kernel_rfl) ?_ _
    go_simp
    clear q2 j0 j1 j2 hrun
    go_wp2_with fail
    go_ret2
    rw [← HQQ.out]
    exact ⟨rfl, come_root (⟨(-1), e, true, 1, 0⟩ : Cl) (H0.out _) HD.out HU.out HI.out hpw hew hTT.out HX5.out HK5.out HM.out.1 HM.out.2⟩
  refine AllReady.cons rfl (fun K hK => ?_) AllReady.nil
  go_simp
  (refine hK _ _ ?_; clear hK K)
  refine wpAny_ready (rs := [3]) (by kernel_rfl) (by simp) ?_
  refine AllReady.cons rfl (fun K hK => ?_) AllReady.nil
  go_simp
  (refine hK _ _ ?_; clear hK K)
  refine wpAny_ready (rs := [6]) (by kernel_rfl) (by simp) ?_
  refine AllReady.cons rfl (fun K hK => ?_) AllReady.nil
  go_simp
  (refine hK _ _ ?_; clear hK K)
  refine wpAny_done (by kernel_rfl) ?_ _
  go_simp
  clear q2 j0 j1 j2 hrun
  go_wp2_with fail
  go_ret2
  rw [← HQQ.out]
  exact ⟨rfl, come_root (⟨(-1), e, true, 1, 0⟩ : Cl) (H0.out _) HD.out HU.out HI.out hpw hew hTT.out HX5.out HK5.out HM.out.1 HM.out.2⟩
set_option maxRecDepth 100000 in
set_option maxHeartbeats 4000000 in
theorem add_behind_false (h : PoolX T w P S m A1 A2 c1 c2 M xs D) (hd : DOk D S) (hT : ∀ g, T g → g < w.heap.size) (hS : S.length ≤ 1000000) (hu : Uniq S) (pn : Nat) (b : Cl) (hb : at? S pn = some b) (hbb : 0 ≤ b.behind) (hbc : b.behind < 1000000000) (e : Int) (he : 0 ≤ e) (hew : wfi e) (hi : idx S pn e false = none) (hm : (cnt S : Int) < m) :
    Calls Try.prog 10 #[.pointer (some ⟨P, 0, none⟩), .int .i64 pn, .int .i64 e, .bool false] w (AddPost T w P ((putS S ⟨pn, e, false, 1, 0⟩).1.set pn (some { b with behind := b.behind + 1 })) m ((putS S ⟨pn, e, false, 1, 0⟩).2 : Nat) true) := by
  have hpl := at_lt hb
  have hpw : wfi (pn : Int) := WalkArith.wf_i64 (by omega)
  have C := Lib.hid (has_any h pn hS)
  rw [has_nat, hb] at C
  have HAT := Lib.hid hb
  have hp3 : ((pn : Int) == -1) = false := by rw [beq_eq_false_iff_ne]; omega
  have hp2 : ((pn : Int) != -1) = true := by unfold bne; rw [hp3]; rfl
  have b1 : (0 : Int) ≤ (pn : Int) := by omega
  have L := Lib.hid fun o n => look_at (((h.keep (w' := w.alloc o) fun g hg _ => Below.heap_alloc w o g hg).keep (w' := (w.alloc o).drewN n) fun _ _ _ => rfl)) hd (pn : Int) e false hpw hew
  rw [hi] at L
  unfold kv at L
  have N : ∀ o n, (Builtin.len_ #[52] 3 #[.map (some M)]).run Try.prog ((w.alloc o).drewN n) = .ok (.int .i64 (cnt S : Nat)) ((w.alloc o).drewN n) := fun o n => by
    have h1 := ((h.keep (w' := w.alloc o) fun g hg _ => Below.heap_alloc w o g hg).keep (w' := (w.alloc o).drewN n) fun _ _ _ => rfl)
    have h2 := h1.at_.len Try.underlying52 3
    rw [hd.2] at h2
    exact h2
  have HD := Lib.hid hd
  have HTK : Hid (∀ o : Obj, ∀ g, (T g ∨ g = w.heap.size) → g < (w.alloc o).heap.size) := Lib.hid fun o g hg => by
    rw [World.size_alloc]
    rcases hg with hg | hg
    · have := hT g hg; omega
    · omega
  have HXK : Hid (∀ b : Bool, PoolX (fun g => T g ∨ g = w.heap.size) (w.alloc (.cells #[.int .i64 (pn : Int), .int .i64 e, .bool b] 59)) P S m A1 A2 c1 c2 M xs D) := Lib.hid (fun b => by
    have h1 : PoolX (fun g => T g ∨ g = w.heap.size) w P S m A1 A2 c1 c2 M xs D := ⟨h.blk, h.all, h.free, h.at_, h.len, h.live, fun t => t.elim h.tP (fun e => by have := h.blk.lt; omega), fun t => t.elim h.tM (fun e => by have := h.at_.lt; omega),
      fun a ha t => t.elim (h.tA a ha) (fun e => by subst ha; have := (h.all.lt a.block rfl).2; omega), fun a ha t => t.elim (h.tB a ha) (fun e => by subst ha; have := (h.free.lt a.block rfl).2; omega)⟩
    exact h1.keep fun g hg _ => Below.heap_alloc w _ g hg)
  have HU := Lib.hid hu
  have k2 := h.k2
  have k3 := h.k3
  have hlP : P < w.heap.size := h.blk.lt
  obtain ⟨ct, hct⟩ : ∃ ct, ((cnt S : Nat) : Int) = ct := ⟨_, rfl⟩
  rw [hct] at N hm
  have LL := L.out
  have HI := Lib.hid hi
  have hTT := Lib.hid hT
  clear h hct L hi hd hu hT hb
  go_enter Try.func10, Try.ntmps10
  go_wp2_with fail
  refine C.out.mono ?_
  rintro ee w' ⟨rfl, rfl⟩
  go_wp2_with fail
  go_quiet (fail)
  go_wp2_with fail
  go_quiet (fail)
  go_wp2_with fail
  refine wp_region_any (by kernel_rfl) ?_
  change wpAny _ _ _ _ _ _ _ (World.drew _)
  refine wpAny_take (i := 0) (v := ?_) rfl (by kernel_rfl) (by kernel_rfl) (by kernel_rfl) (fun _ _ _ h => h) (Or.inl ⟨by kernel_rfl, ?_⟩) ?_
  rotate_left
  · (intro w'; go_simp; try with_reducible rfl)
  refine wpAny_take (i := 1) (v := ?_) rfl (by kernel_rfl) (by kernel_rfl) (by kernel_rfl) (fun _ _ _ h => h) (Or.inl ⟨by kernel_rfl, ?_⟩) ?_
  rotate_left
  · (intro w'; go_simp; try with_reducible rfl)
  refine wpAny_take (i := 2) (v := ?_) rfl (by kernel_rfl) (by kernel_rfl) (by kernel_rfl) (fun _ _ _ h => h) (Or.inl ⟨by kernel_rfl, ?_⟩) ?_
  rotate_left
  · (intro w'; go_simp; try with_reducible rfl)
  refine wpAny_ready (rs := [3]) (by kernel_rfl) (by simp) ?_
  refine AllReady.cons rfl (fun K hK => ?_) AllReady.nil
  go_simp
  (refine hK _ _ ?_; clear hK K)
  refine wpAny_take (i := 4) (v := ?_) rfl (by kernel_rfl) (by kernel_rfl) (by kernel_rfl) (fun _ _ _ h => h) (Or.inl ⟨by kernel_rfl, ?_⟩) ?_
  rotate_left
  · (intro w'; go_simp; try with_reducible rfl)
  refine wpAny_ready (rs := [5]) (by kernel_rfl) (by simp) ?_
  refine AllReady.cons rfl (fun K hK => ?_) AllReady.nil
  go_simp
  go_wp2_with (go_at_call 25; refine (put_any (T := fun g => T g ∨ g = w.heap.size) ((HXK.out false).drewN _) (HTK.out _) hS (⟨(pn : Int), e, false, 1, 0⟩ : Cl)).mono ?_; rintro ee w5 ⟨rfl, A1', A2', c1', c2', xs', HX5, HK5⟩)
  refine wpAny_take (i := 6) (v := ?_) rfl (by kernel_rfl) (by kernel_rfl) (by kernel_rfl) (fun _ _ _ h => h) (Or.inl ⟨by kernel_rfl, ?_⟩) ?_
  rotate_left
  · (intro w'; go_simp; try with_reducible rfl)
  refine wpAny_done (by kernel_rfl) ?_ _
  go_simp
  have HX5 := Lib.hid HX5
  have H0 := Lib.hid (fun n : Nat => ((KeptT.refl T w).alloc (.cells #[.int .i64 (pn : Int), .int .i64 e, .bool false] 59)).drewN n)
  have HK5 := Lib.hid HK5
  obtain ⟨w6, hrun, hown6, hturn6⟩ := HX5.out.at_.drew.store law_key Try.underlying52 (by have h1 := HD.out.2; have h2 := cnt_le S; unfold maxLen; omega) (key_of (pn : Int) e false hpw hew) (plainElem_int Try.underlying3 (WalkArith.wf_i64 (n := ((putS S (⟨(pn : Int), e, false, 1, 0⟩ : Cl)).2 : Int)) (by have := (put_facts S (⟨(pn : Int), e, false, 1, 0⟩ : Cl)).2.2.2.2; omega)))
  unfold kv at hrun
  have q2 := HX5.out.k2
  have HB5 := HK5.out.2.2.2.2 w.heap.size (by simp) (.inr rfl)
  have HB5 : Blk w5 w.heap.size 59 #[.int .i64 (pn : Int), .int .i64 e, .bool false] := HB5.trans (Blk.new w 59 #[.int .i64 (pn : Int), .int .i64 e, .bool false])
  have j0 := HB5.cell 0
  have j1 := HB5.cell 1
  have j2 := HB5.cell 2
  clear HB5
  have HM := Lib.hid (And.intro hown6 hturn6)
  clear hown6 hturn6 LL N k2 k3
  obtain ⟨qq, hqq⟩ : ∃ qq, (putS S (⟨(pn : Int), e, false, 1, 0⟩ : Cl)).2 = qq := ⟨_, rfl⟩
  have HQQ := Lib.hid hqq
  rw [hqq] at hrun ⊢
  clear hqq
  go_wp2_with fail
  refine wp_region_any (by kernel_rfl) ?_
  change wpAny _ _ _ _ _ _ _ (World.drew _)
  refine wpAny_take (i := 0) (v := ?_) rfl (by kernel_rfl) (by kernel_rfl) (by kernel_rfl) (fun _ _ _ h => h) (Or.inl ⟨by kernel_rfl, ?_⟩) ?_
  rotate_left
  · (intro w'; go_simp; try with_reducible rfl)
  refine wpAny_take (i := 1) (v := ?_) rfl (by kernel_rfl) (by kernel_rfl) (by kernel_rfl) (fun _ _ _ h => h) (Or.inl ⟨by kernel_rfl, ?_⟩) ?_
  rotate_left
  · (intro w'; go_simp; try with_reducible rfl)
  refine wpAny_take (i := 2) (v := ?_) rfl (by kernel_rfl) (by kernel_rfl) (by kernel_rfl) (fun _ _ _ h => h) (Or.inl ⟨by kernel_rfl, ?_⟩) ?_
  rotate_left
  · (intro w'; go_simp; try with_reducible rfl)
  refine wpAny_take (i := 5) (v := ?_) rfl (by kernel_rfl) (by kernel_rfl) (by kernel_rfl) (fun _ _ _ h => h) (Or.inl ⟨by kernel_rfl, ?_⟩) ?_
  rotate_left
  · (intro w'; go_simp; try with_reducible rfl)
  refine wpAny_ready (rs := [3, 4]) (by kernel_rfl) (by simp) ?_
  refine AllReady.cons rfl (fun K hK => ?_) ?_
  · skip
    go_simp
    (refine hK _ _ ?_; clear hK K)
    refine wpAny_ready (rs := [4]) (by kernel_rfl) (by simp) ?_
    refine AllReady.cons rfl (fun K hK => ?_) AllReady.nil
    go_simp
    (refine hK _ _ ?_; clear hK K)
    refine wpAny_ready (rs := [6]) (by kernel_rfl) (by simp) ?_
    refine AllReady.cons rfl (fun K hK => ?_) AllReady.nil
    go_simp
    (refine hK _ _ ?_; clear hK K)
    refine wpAny_done (by kernel_rfl) ?_ _
    go_simp
    clear q2 j0 j1 j2 hrun
    have HBT : at? (putS S (⟨(pn : Int), e, false, 1, 0⟩ : Cl)).1 pn = some b := come_at _ HAT.out
    obtain ⟨g6, hA6, z6, _, _, _, _, q6⟩ := (come_x HX5.out HM.out.1 HM.out.2).allAt HBT
    have hA6 := Lib.hid hA6
    have HBT := Lib.hid HBT
    have q6' := (come_x HX5.out HM.out.1 HM.out.2).k0
    rw [hA6.out] at q6'
    have b3 : (pn : Int) < ((putS S (⟨(pn : Int), e, false, 1, 0⟩ : Cl)).1.length : Int) := by have := at_lt HBT.out; omega
    obtain ⟨len6, hlen6⟩ : ∃ l6, (putS S (⟨(pn : Int), e, false, 1, 0⟩ : Cl)).1.length = l6 := ⟨_, rfl⟩
    rw [hlen6] at q6' b3
    clear hlen6
    go_wp2_with fail
    go_ret2
    rw [← HQQ.out]
    exact ⟨rfl, come_behind (⟨(pn : Int), e, false, 1, 0⟩ : Cl) (H0.out _) HD.out HU.out HI.out hpw hew hTT.out HX5.out HK5.out HM.out.1 HM.out.2 hA6.out HBT.out⟩
  refine AllReady.cons rfl (fun K hK => ?_) AllReady.nil
  go_simp
  (refine hK _ _ ?_; clear hK K)
  refine wpAny_ready (rs := [3]) (by kernel_rfl) (by simp) ?_
  refine AllReady.cons rfl (fun K hK => ?_) AllReady.nil
  go_simp
  (refine hK _ _ ?_; clear hK K)
  refine wpAny_ready (rs := [6]) (by kernel_rfl) (by simp) ?_
  refine AllReady.cons rfl (fun K hK => ?_) AllReady.nil
  go_simp
  (refine hK _ _ ?_; clear hK K)
  refine wpAny_done (by kernel_rfl) ?_ _
  go_simp
  clear q2 j0 j1 j2 hrun
  have HBT : at? (putS S (⟨(pn : Int), e, false, 1, 0⟩ : Cl)).1 pn = some b := come_at _ HAT.out
  obtain ⟨g6, hA6, z6, _, _, _, _, q6⟩ := (come_x HX5.out HM.out.1 HM.out.2).allAt HBT
  have hA6 := Lib.hid hA6
  have HBT := Lib.hid HBT
  have q6' := (come_x HX5.out HM.out.1 HM.out.2).k0
  rw [hA6.out] at q6'
  have b3 : (pn : Int) < ((putS S (⟨(pn : Int), e, false, 1, 0⟩ : Cl)).1.length : Int) := by have := at_lt HBT.out; omega
  obtain ⟨len6, hlen6⟩ : ∃ l6, (putS S (⟨(pn : Int), e, false, 1, 0⟩ : Cl)).1.length = l6 := ⟨_, rfl⟩
  rw [hlen6] at q6' b3
  clear hlen6
  go_wp2_with fail
  go_ret2
  rw [← HQQ.out]
  exact ⟨rfl, come_behind (⟨(pn : Int), e, false, 1, 0⟩ : Cl) (H0.out _) HD.out HU.out HI.out hpw hew hTT.out HX5.out HK5.out HM.out.1 HM.out.2 hA6.out HBT.out⟩
set_option maxRecDepth 100000 in
set_option maxHeartbeats 4000000 in
theorem add_root_true (h : PoolX T w P S m A1 A2 c1 c2 M xs D) (hd : DOk D S) (hT : ∀ g, T g → g < w.heap.size) (hS : S.length ≤ 1000000) (hu : Uniq S) (e : Int) (he : 0 ≤ e) (hew : wfi e) (hi : idx S (-1) e true = none) (hm : (cnt S : Int) < m) :
    Calls Try.prog 10 #[.pointer (some ⟨P, 0, none⟩), .int .i64 (-1), .int .i64 e, .bool true] w (AddPost T w P (putS S ⟨-1, e, true, 1, 0⟩).1 m ((putS S ⟨-1, e, true, 1, 0⟩).2 : Nat) true) := by
  have hpw : wfi (-1) := by unfold wfi; decide
  have L := Lib.hid fun o n => look_at (((h.keep (w' := w.alloc o) fun g hg _ => Below.heap_alloc w o g hg).keep (w' := (w.alloc o).drewN n) fun _ _ _ => rfl)) hd (-1) e true hpw hew
  rw [hi] at L
  unfold kv at L
  have N : ∀ o n, (Builtin.len_ #[52] 3 #[.map (some M)]).run Try.prog ((w.alloc o).drewN n) = .ok (.int .i64 (cnt S : Nat)) ((w.alloc o).drewN n) := fun o n => by
    have h1 := ((h.keep (w' := w.alloc o) fun g hg _ => Below.heap_alloc w o g hg).keep (w' := (w.alloc o).drewN n) fun _ _ _ => rfl)
    have h2 := h1.at_.len Try.underlying52 3
    rw [hd.2] at h2
    exact h2
  have HD := Lib.hid hd
  have HTK : Hid (∀ o : Obj, ∀ g, (T g ∨ g = w.heap.size) → g < (w.alloc o).heap.size) := Lib.hid fun o g hg => by
    rw [World.size_alloc]
    rcases hg with hg | hg
    · have := hT g hg; omega
    · omega
  have HXK : Hid (∀ b : Bool, PoolX (fun g => T g ∨ g = w.heap.size) (w.alloc (.cells #[.int .i64 (-1), .int .i64 e, .bool b] 59)) P S m A1 A2 c1 c2 M xs D) := Lib.hid (fun b => by
    have h1 : PoolX (fun g => T g ∨ g = w.heap.size) w P S m A1 A2 c1 c2 M xs D := ⟨h.blk, h.all, h.free, h.at_, h.len, h.live, fun t => t.elim h.tP (fun e => by have := h.blk.lt; omega), fun t => t.elim h.tM (fun e => by have := h.at_.lt; omega),
      fun a ha t => t.elim (h.tA a ha) (fun e => by subst ha; have := (h.all.lt a.block rfl).2; omega), fun a ha t => t.elim (h.tB a ha) (fun e => by subst ha; have := (h.free.lt a.block rfl).2; omega)⟩
    exact h1.keep fun g hg _ => Below.heap_alloc w _ g hg)
  have HU := Lib.hid hu
  have k2 := h.k2
  have k3 := h.k3
  have hlP : P < w.heap.size := h.blk.lt
  obtain ⟨ct, hct⟩ : ∃ ct, ((cnt S : Nat) : Int) = ct := ⟨_, rfl⟩
  rw [hct] at N hm
  have LL := L.out
  have HI := Lib.hid hi
  have hTT := Lib.hid hT
  clear h hct L hi hd hu hT
  go_enter Try.func10, Try.ntmps10
  go_wp2_with fail
  go_quiet (fail)
  go_wp2_with fail
  go_quiet (fail)
  go_wp2_with fail
  refine wp_region_any (by kernel_rfl) ?_
  change wpAny _ _ _ _ _ _ _ (World.drew _)
  refine wpAny_take (i := 0) (v := ?_) rfl (by kernel_rfl) (by kernel_rfl) (by kernel_rfl) (fun _ _ _ h => h) (Or.inl ⟨by kernel_rfl, ?_⟩) ?_
  rotate_left
  · (intro w'; go_simp; try with_reducible rfl)
  refine wpAny_take (i := 1) (v := ?_) rfl (by kernel_rfl) (by kernel_rfl) (by kernel_rfl) (fun _ _ _ h => h) (Or.inl ⟨by kernel_rfl, ?_⟩) ?_
  rotate_left
  · (intro w'; go_simp; try with_reducible rfl)
  refine wpAny_take (i := 2) (v := ?_) rfl (by kernel_rfl) (by kernel_rfl) (by kernel_rfl) (fun _ _ _ h => h) (Or.inl ⟨by kernel_rfl, ?_⟩) ?_
  rotate_left
  · (intro w'; go_simp; try with_reducible rfl)
  refine wpAny_ready (rs := [3]) (by kernel_rfl) (by simp) ?_
  refine AllReady.cons rfl (fun K hK => ?_) AllReady.nil
  go_simp
  (refine hK _ _ ?_; clear hK K)
  refine wpAny_take (i := 4) (v := ?_) rfl (by kernel_rfl) (by kernel_rfl) (by kernel_rfl) (fun _ _ _ h => h) (Or.inl ⟨by kernel_rfl, ?_⟩) ?_
  rotate_left
  · (intro w'; go_simp; try with_reducible rfl)
  refine wpAny_ready (rs := [5]) (by kernel_rfl) (by simp) ?_
  refine AllReady.cons rfl (fun K hK => ?_) AllReady.nil
  go_simp
  go_wp2_with (go_at_call 25; refine (put_any (T := fun g => T g ∨ g = w.heap.size) ((HXK.out true).drewN _) (HTK.out _) hS (⟨(-1), e, true, 1, 0⟩ : Cl)).mono ?_; rintro ee w5 ⟨rfl, A1', A2', c1', c2', xs', HX5, HK5⟩)
  refine wpAny_take (i := 6) (v := ?_) rfl (by kernel_rfl) (by kernel_rfl) (by kernel_rfl) (fun _ _ _ h => h) (Or.inl ⟨by kernel_rfl, ?_⟩) ?_
  rotate_left
  · (intro w'; go_simp; try with_reducible rfl)
  refine wpAny_done (by kernel_rfl) ?_ _
  go_simp
  have HX5 := Lib.hid HX5
  have H0 := Lib.hid (fun n : Nat => ((KeptT.refl T w).alloc (.cells #[.int .i64 (-1), .int .i64 e, .bool true] 59)).drewN n)
  have HK5 := Lib.hid HK5
  obtain ⟨w6, hrun, hown6, hturn6⟩ := HX5.out.at_.drew.store law_key Try.underlying52 (by have h1 := HD.out.2; have h2 := cnt_le S; unfold maxLen; omega) (key_of (-1) e true hpw hew) (plainElem_int Try.underlying3 (WalkArith.wf_i64 (n := ((putS S (⟨(-1), e, true, 1, 0⟩ : Cl)).2 : Int)) (by have := (put_facts S (⟨(-1), e, true, 1, 0⟩ : Cl)).2.2.2.2; omega)))
  unfold kv at hrun
  have q2 := HX5.out.k2
  have HB5 := HK5.out.2.2.2.2 w.heap.size (by simp) (.inr rfl)
  have HB5 : Blk w5 w.heap.size 59 #[.int .i64 (-1), .int .i64 e, .bool true] := HB5.trans (Blk.new w 59 #[.int .i64 (-1), .int .i64 e, .bool true])
  have j0 := HB5.cell 0
  have j1 := HB5.cell 1
  have j2 := HB5.cell 2
  clear HB5
  have HM := Lib.hid (And.intro hown6 hturn6)
  clear hown6 hturn6 LL N k2 k3
  obtain ⟨qq, hqq⟩ : ∃ qq, (putS S (⟨(-1), e, true, 1, 0⟩ : Cl)).2 = qq := ⟨_, rfl⟩
  have HQQ := Lib.hid hqq
  rw [hqq] at hrun ⊢
  clear hqq
  go_wp2_with fail
  refine wp_region_any (by kernel_rfl) ?_
  change wpAny _ _ _ _ _ _ _ (World.drew _)
  refine wpAny_take (i := 0) (v := ?_) rfl (by kernel_rfl) (by kernel_rfl) (by kernel_rfl) (fun _ _ _ h => h) (Or.inl ⟨by kernel_rfl, ?_⟩) ?_
  rotate_left
  · (intro w'; go_simp; try with_reducible rfl)
  refine wpAny_take (i := 1) (v := ?_) rfl (by kernel_rfl) (by kernel_rfl) (by kernel_rfl) (fun _ _ _ h => h) (Or.inl ⟨by kernel_rfl, ?_⟩) ?_
  rotate_left
  · (intro w'; go_simp; try with_reducible rfl)
  refine wpAny_take (i := 2) (v := ?_) rfl (by kernel_rfl) (by kernel_rfl) (by kernel_rfl) (fun _ _ _ h => h) (Or.inl ⟨by kernel_rfl, ?_⟩) ?_
  rotate_left
  · (intro w'; go_simp; try with_reducible rfl)
  refine wpAny_take (i := 5) (v := ?_) rfl (by kernel_rfl) (by kernel_rfl) (by kernel_rfl) (fun _ _ _ h => h) (Or.inl ⟨by kernel_rfl, ?_⟩) ?_
  rotate_left
  · (intro w'; go_simp; try with_reducible rfl)
  refine wpAny_ready (rs := [3, 4]) (by kernel_rfl) (by simp) ?_
  refine AllReady.cons rfl (fun K hK => ?_) ?_
  · skip
    go_simp
    (refine hK _ _ ?_; clear hK K)
    refine wpAny_ready (rs := [4]) (by kernel_rfl) (by simp) ?_
    refine AllReady.cons rfl (fun K hK => ?_) AllReady.nil
    go_simp
    (refine hK _ _ ?_; clear hK K)
    refine wpAny_ready (rs := [6]) (by kernel_rfl) (by simp) ?_
    refine AllReady.cons rfl (fun K hK => ?_) AllReady.nil
    go_simp
    (refine hK _ _ ?_; clear hK K)
    refine wpAny_done (by kernel_rfl) ?_ _
    go_simp
    clear q2 j0 j1 j2 hrun
    go_wp2_with fail
    go_ret2
    rw [← HQQ.out]
    exact ⟨rfl, come_root (⟨(-1), e, true, 1, 0⟩ : Cl) (H0.out _) HD.out HU.out HI.out hpw hew hTT.out HX5.out HK5.out HM.out.1 HM.out.2⟩
  refine AllReady.cons rfl (fun K hK => ?_) AllReady.nil
  go_simp
  (refine hK _ _ ?_; clear hK K)
  refine wpAny_ready (rs := [3]) (by kernel_rfl) (by simp) ?_
  refine AllReady.cons rfl (fun K hK => ?_) AllReady.nil
  go_simp
  (refine hK _ _ ?_; clear hK K)
  refine wpAny_ready (rs := [6]) (by kernel_rfl) (by simp) ?_
  refine AllReady.cons rfl (fun K hK => ?_) AllReady.nil
  go_simp
  (refine hK _ _ ?_; clear hK K)
  refine wpAny_done (by kernel_rfl) ?_ _
  go_simp
  clear q2 j0 j1 j2 hrun
  go_wp2_with fail
  go_ret2
  rw [← HQQ.out]
  exact ⟨rfl, come_root (⟨(-1), e, true, 1, 0⟩ : Cl) (H0.out _) HD.out HU.out HI.out hpw hew hTT.out HX5.out HK5.out HM.out.1 HM.out.2⟩
set_option maxRecDepth 100000 in
set_option maxHeartbeats 4000000 in
theorem add_behind_true (h : PoolX T w P S m A1 A2 c1 c2 M xs D) (hd : DOk D S) (hT : ∀ g, T g → g < w.heap.size) (hS : S.length ≤ 1000000) (hu : Uniq S) (pn : Nat) (b : Cl) (hb : at? S pn = some b) (hbb : 0 ≤ b.behind) (hbc : b.behind < 1000000000) (e : Int) (he : 0 ≤ e) (hew : wfi e) (hi : idx S pn e true = none) (hm : (cnt S : Int) < m) :
    Calls Try.prog 10 #[.pointer (some ⟨P, 0, none⟩), .int .i64 pn, .int .i64 e, .bool true] w (AddPost T w P ((putS S ⟨pn, e, true, 1, 0⟩).1.set pn (some { b with behind := b.behind + 1 })) m ((putS S ⟨pn, e, true, 1, 0⟩).2 : Nat) true) := by
  have hpl := at_lt hb
  have hpw : wfi (pn : Int) := WalkArith.wf_i64 (by omega)
  have C := Lib.hid (has_any h pn hS)
  rw [has_nat, hb] at C
  have HAT := Lib.hid hb
  have hp3 : ((pn : Int) == -1) = false := by rw [beq_eq_false_iff_ne]; omega
  have hp2 : ((pn : Int) != -1) = true := by unfold bne; rw [hp3]; rfl
  have b1 : (0 : Int) ≤ (pn : Int) := by omega
  have L := Lib.hid fun o n => look_at (((h.keep (w' := w.alloc o) fun g hg _ => Below.heap_alloc w o g hg).keep (w' := (w.alloc o).drewN n) fun _ _ _ => rfl)) hd (pn : Int) e true hpw hew
  rw [hi] at L
  unfold kv at L
  have N : ∀ o n, (Builtin.len_ #[52] 3 #[.map (some M)]).run Try.prog ((w.alloc o).drewN n) = .ok (.int .i64 (cnt S : Nat)) ((w.alloc o).drewN n) := fun o n => by
    have h1 := ((h.keep (w' := w.alloc o) fun g hg _ => Below.heap_alloc w o g hg).keep (w' := (w.alloc o).drewN n) fun _ _ _ => rfl)
    have h2 := h1.at_.len Try.underlying52 3
    rw [hd.2] at h2
    exact h2
  have HD := Lib.hid hd
  have HTK : Hid (∀ o : Obj, ∀ g, (T g ∨ g = w.heap.size) → g < (w.alloc o).heap.size) := Lib.hid fun o g hg => by
    rw [World.size_alloc]
    rcases hg with hg | hg
    · have := hT g hg; omega
    · omega
  have HXK : Hid (∀ b : Bool, PoolX (fun g => T g ∨ g = w.heap.size) (w.alloc (.cells #[.int .i64 (pn : Int), .int .i64 e, .bool b] 59)) P S m A1 A2 c1 c2 M xs D) := Lib.hid (fun b => by
    have h1 : PoolX (fun g => T g ∨ g = w.heap.size) w P S m A1 A2 c1 c2 M xs D := ⟨h.blk, h.all, h.free, h.at_, h.len, h.live, fun t => t.elim h.tP (fun e => by have := h.blk.lt; omega), fun t => t.elim h.tM (fun e => by have := h.at_.lt; omega),
      fun a ha t => t.elim (h.tA a ha) (fun e => by subst ha; have := (h.all.lt a.block rfl).2; omega), fun a ha t => t.elim (h.tB a ha) (fun e => by subst ha; have := (h.free.lt a.block rfl).2; omega)⟩
    exact h1.keep fun g hg _ => Below.heap_alloc w _ g hg)
  have HU := Lib.hid hu
  have k2 := h.k2
  have k3 := h.k3
  have hlP : P < w.heap.size := h.blk.lt
  obtain ⟨ct, hct⟩ : ∃ ct, ((cnt S : Nat) : Int) = ct := ⟨_, rfl⟩
  rw [hct] at N hm
  have LL := L.out
  have HI := Lib.hid hi
  have hTT := Lib.hid hT
  clear h hct L hi hd hu hT hb
  go_enter Try.func10, Try.ntmps10
  go_wp2_with fail
  refine C.out.mono ?_
  rintro ee w' ⟨rfl, rfl⟩
  go_wp2_with fail
  go_quiet (fail)
  go_wp2_with fail
  go_quiet (fail)
  go_wp2_with fail
  refine wp_region_any (by kernel_rfl) ?_
  change wpAny _ _ _ _ _ _ _ (World.drew _)
  refine wpAny_take (i := 0) (v := ?_) rfl (by kernel_rfl) (by kernel_rfl) (by kernel_rfl) (fun _ _ _ h => h) (Or.inl ⟨by kernel_rfl, ?_⟩) ?_
  rotate_left
  · (intro w'; go_simp; try with_reducible rfl)
  refine wpAny_take (i := 1) (v := ?_) rfl (by kernel_rfl) (by kernel_rfl) (by kernel_rfl) (fun _ _ _ h => h) (Or.inl ⟨by kernel_rfl, ?_⟩) ?_
  rotate_left
  · (intro w'; go_simp; try with_reducible rfl)
  refine wpAny_take (i := 2) (v := ?_) rfl (by kernel_rfl) (by kernel_rfl) (by kernel_rfl) (fun _ _ _ h => h) (Or.inl ⟨by kernel_rfl, ?_⟩) ?_
  rotate_left
  · (intro w'; go_simp; try with_reducible rfl)
  refine wpAny_ready (rs := [3]) (by kernel_rfl) (by simp) ?_
  refine AllReady.cons rfl (fun K hK => ?_) AllReady.nil
  go_simp
  (refine hK _ _ ?_; clear hK K)
  refine wpAny_take (i := 4) (v := ?_) rfl (by kernel_rfl) (by kernel_rfl) (by kernel_rfl) (fun _ _ _ h => h) (Or.inl ⟨by kernel_rfl, ?_⟩) ?_
  rotate_left
  · (intro w'; go_simp; try with_reducible rfl)
  refine wpAny_ready (rs := [5]) (by kernel_rfl) (by simp) ?_
  refine AllReady.cons rfl (fun K hK => ?_) AllReady.nil
  go_simp
  go_wp2_with (go_at_call 25; refine (put_any (T := fun g => T g ∨ g = w.heap.size) ((HXK.out true).drewN _) (HTK.out _) hS (⟨(pn : Int), e, true, 1, 0⟩ : Cl)).mono ?_; rintro ee w5 ⟨rfl, A1', A2', c1', c2', xs', HX5, HK5⟩)
  refine wpAny_take (i := 6) (v := ?_) rfl (by kernel_rfl) (by kernel_rfl) (by kernel_rfl) (fun _ _ _ h => h) (Or.inl ⟨by kernel_rfl, ?_⟩) ?_
  rotate_left
  · (intro w'; go_simp; try with_reducible rfl)
  refine wpAny_done (by kernel_rfl) ?_ _
  go_simp
  have HX5 := Lib.hid HX5
  have H0 := Lib.hid (fun n : Nat => ((KeptT.refl T w).alloc (.cells #[.int .i64 (pn : Int), .int .i64 e, .bool true] 59)).drewN n)
  have HK5 := Lib.hid HK5
  obtain ⟨w6, hrun, hown6, hturn6⟩ := HX5.out.at_.drew.store law_key Try.underlying52 (by have h1 := HD.out.2; have h2 := cnt_le S; unfold maxLen; omega) (key_of (pn : Int) e true hpw hew) (plainElem_int Try.underlying3 (WalkArith.wf_i64 (n := ((putS S (⟨(pn : Int), e, true, 1, 0⟩ : Cl)).2 : Int)) (by have := (put_facts S (⟨(pn : Int), e, true, 1, 0⟩ : Cl)).2.2.2.2; omega)))
  unfold kv at hrun
  have q2 := HX5.out.k2
  have HB5 := HK5.out.2.2.2.2 w.heap.size (by simp) (.inr rfl)
  have HB5 : Blk w5 w.heap.size 59 #[.int .i64 (pn : Int), .int .i64 e, .bool true] := HB5.trans (Blk.new w 59 #[.int .i64 (pn : Int), .int .i64 e, .bool true])
  have j0 := HB5.cell 0
  have j1 := HB5.cell 1
  have j2 := HB5.cell 2
  clear HB5
  have HM := Lib.hid (And.intro hown6 hturn6)
  clear hown6 hturn6 LL N k2 k3
  obtain ⟨qq, hqq⟩ : ∃ qq, (putS S (⟨(pn : Int), e, true, 1, 0⟩ : Cl)).2 = qq := ⟨_, rfl⟩
  have HQQ := Lib.hid hqq
  rw [hqq] at hrun ⊢
  clear hqq
  go_wp2_with fail
  refine wp_region_any (by kernel_rfl) ?_
  change wpAny _ _ _ _ _ _ _ (World.drew _)
  refine wpAny_take (i := 0) (v := ?_) rfl (by kernel_rfl) (by kernel_rfl) (by kernel_rfl) (fun _ _ _ h => h) (Or.inl ⟨by kernel_rfl, ?_⟩) ?_
  rotate_left
  · (intro w'; go_simp; try with_reducible rfl)
  refine wpAny_take (i := 1) (v := ?_) rfl (by kernel_rfl) (by kernel_rfl) (by kernel_rfl) (fun _ _ _ h => h) (Or.inl ⟨by kernel_rfl, ?_⟩) ?_
  rotate_left
  · (intro w'; go_simp; try with_reducible rfl)
  refine wpAny_take (i := 2) (v := ?_) rfl (by kernel_rfl) (by kernel_rfl) (by kernel_rfl) (fun _ _ _ h => h) (Or.inl ⟨by kernel_rfl, ?_⟩) ?_
  rotate_left
  · (intro w'; go_simp; try with_reducible rfl)
  refine wpAny_take (i := 5) (v := ?_) rfl (by kernel_rfl) (by kernel_rfl) (by kernel_rfl) (fun _ _ _ h => h) (Or.inl ⟨by kernel_rfl, ?_⟩) ?_
  rotate_left
  · (intro w'; go_simp; try with_reducible rfl)
  refine wpAny_ready (rs := [3, 4]) (by kernel_rfl) (by simp) ?_
  refine AllReady.cons rfl (fun K hK => ?_) ?_
  · skip
    go_simp
    (refine hK _ _ ?_; clear hK K)
    refine wpAny_ready (rs := [4]) (by kernel_rfl) (by simp) ?_
    refine AllReady.cons rfl (fun K hK => ?_) AllReady.nil
    go_simp
    (refine hK _ _ ?_; clear hK K)
    refine wpAny_ready (rs := [6]) (by kernel_rfl) (by simp) ?_
    refine AllReady.cons rfl (fun K hK => ?_) AllReady.nil
    go_simp
    (refine hK _ _ ?_; clear hK K)
    refine wpAny_done (by kernel_rfl) ?_ _
    go_simp
    clear q2 j0 j1 j2 hrun
    have HBT : at? (putS S (⟨(pn : Int), e, true, 1, 0⟩ : Cl)).1 pn = some b := come_at _ HAT.out
    obtain ⟨g6, hA6, z6, _, _, _, _, q6⟩ := (come_x HX5.out HM.out.1 HM.out.2).allAt HBT
    have hA6 := Lib.hid hA6
    have HBT := Lib.hid HBT
    have q6' := (come_x HX5.out HM.out.1 HM.out.2).k0
    rw [hA6.out] at q6'
    have b3 : (pn : Int) < ((putS S (⟨(pn : Int), e, true, 1, 0⟩ : Cl)).1.length : Int) := by have := at_lt HBT.out; omega
    obtain ⟨len6, hlen6⟩ : ∃ l6, (putS S (⟨(pn : Int), e, true, 1, 0⟩ : Cl)).1.length = l6 := ⟨_, rfl⟩
    rw [hlen6] at q6' b3
    clear hlen6
    go_wp2_with fail
    go_ret2
    rw [← HQQ.out]
    exact ⟨rfl, come_behind (⟨(pn : Int), e, true, 1, 0⟩ : Cl) (H0.out _) HD.out HU.out HI.out hpw hew hTT.out HX5.out HK5.out HM.out.1 HM.out.2 hA6.out HBT.out⟩
  refine AllReady.cons rfl (fun K hK => ?_) AllReady.nil
  go_simp
  (refine hK _ _ ?_; clear hK K)
  refine wpAny_ready (rs := [3]) (by kernel_rfl) (by simp) ?_
  refine AllReady.cons rfl (fun K hK => ?_) AllReady.nil
  go_simp
  (refine hK _ _ ?_; clear hK K)
  refine wpAny_ready (rs := [6]) (by kernel_rfl) (by simp) ?_
  refine AllReady.cons rfl (fun K hK => ?_) AllReady.nil
  go_simp
  (refine hK _ _ ?_; clear hK K)
  refine wpAny_done (by kernel_rfl) ?_ _
  go_simp
  clear q2 j0 j1 j2 hrun
  have HBT : at? (putS S (⟨(pn : Int), e, true, 1, 0⟩ : Cl)).1 pn = some b := come_at _ HAT.out
  obtain ⟨g6, hA6, z6, _, _, _, _, q6⟩ := (come_x HX5.out HM.out.1 HM.out.2).allAt HBT
  have hA6 := Lib.hid hA6
  have HBT := Lib.hid HBT
  have q6' := (come_x HX5.out HM.out.1 HM.out.2).k0
  rw [hA6.out] at q6'
  have b3 : (pn : Int) < ((putS S (⟨(pn : Int), e, true, 1, 0⟩ : Cl)).1.length : Int) := by have := at_lt HBT.out; omega
  obtain ⟨len6, hlen6⟩ : ∃ l6, (putS S (⟨(pn : Int), e, true, 1, 0⟩ : Cl)).1.length = l6 := ⟨_, rfl⟩
  rw [hlen6] at q6' b3
  clear hlen6
  go_wp2_with fail
  go_ret2
  rw [← HQQ.out]
  exact ⟨rfl, come_behind (⟨(pn : Int), e, true, 1, 0⟩ : Cl) (H0.out _) HD.out HU.out HI.out hpw hew hTT.out HX5.out HK5.out HM.out.1 HM.out.2 hA6.out HBT.out⟩
end
end Go.Proofs.Ytcgapjicbgfpjaa

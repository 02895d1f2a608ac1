/-
  The walk of put: where no number is free.
-/
import Derived.Deep.DeepCutAuto
import Derived.Test.YtcgapjicbgfpjaaPut
import Derived.Test.YtcgapjicbgfpjaaTill
namespace Go.Proofs.Ytcgapjicbgfpjaa
set_option linter.unusedVariables false
set_option linter.unusedSimpArgs false
open Go.RowKit Go.Maps

attribute [local go_sem ↓] Go.wp_at_zero Go.wp_at_succ
theorem info5 : (Try.prog.info? 61).map (fun i => (i.zero, i.size, i.bytes)) = some (some (.agg #[.int .i64 0, .int .i64 0, .bool false, .int .i64 0, .int .i64 0]), 5, 40) := by kernel_rfl
/-- a pool on its way: what its block holds, the rows that it will hold -/
structure Bu (T : Nat → Prop) (w : World) (P : Nat) (m : Int) (M : Nat) (D : DataW Unit) (s1 s2 v1 : Value) (n1 : Nat) (ys1 : List Value) (v2 : Value) (n2 : Nat) (ys2 : List Value) (W : World) : Prop where
  blk : Blk W P 57 #[s1, s2, .map (some M), .int .i64 m]
  o1 : W.ownsRow 0 61 5 v1 n1 ys1
  o2 : W.ownsRow 0 4 1 v2 n2 ys2
  mp : W.ownsMap Try.prog 59 (plainElem Try.prog 3) M (Maps.size D) D
  kp : KeptT T w W
  f1 : ∀ g, v1.ownBlock = some g → ¬ T g
  f2 : ∀ g, v2.ownBlock = some g → ¬ T g
  tP : ¬ T P
  tM : ¬ T M
section
variable {T : Nat → Prop} {w W W' : World} {P : Nat} {m : Int} {M : Nat} {D : DataW Unit} {s1 s2 v1 v2 v1' v2' : Value} {n1 n2 n1' n2' : Nat} {ys1 ys2 zs1 zs2 : List Value}
theorem Bu.drew (h : Bu T w P m M D s1 s2 v1 n1 ys1 v2 n2 ys2 W) : Bu T w P m M D s1 s2 v1 n1 ys1 v2 n2 ys2 W.drew := ⟨h.blk, h.o1, h.o2, h.mp, h.kp, h.f1, h.f2, h.tP, h.tM⟩
theorem Bu.alloc (h : Bu T w P m M D s1 s2 v1 n1 ys1 v2 n2 ys2 W) (o : Obj) : Bu T w P m M D s1 s2 v1 n1 ys1 v2 n2 ys2 (W.alloc o) :=
  ⟨h.blk.alloc o, h.o1.alloc o, h.o2.alloc o, h.mp.alloc o, h.kp.alloc o, h.f1, h.f2, h.tP, h.tM⟩
theorem Bu.src (h : Bu T w P m M D s1 s2 v1 n1 ys1 v2 n2 ys2 W) (cs : Array Value) (t : TypeId) : Blk (W.alloc (.cells cs t)) W.heap.size t cs := Blk.new W t cs
theorem Bu.src_ne1 (h : Bu T w P m M D s1 s2 v1 n1 ys1 v2 n2 ys2 W) {g : Nat} {t : TypeId} {cs : Array Value} (hb : Blk W g t cs) (ht : 61 ≠ t) : some g ≠ v1.ownBlock := fun e => own_blk_ne h.o1 hb ht e.symm
theorem Bu.app1 (h : Bu T w P m M D s1 s2 v1 n1 ys1 v2 n2 ys2 W) (hT : ∀ g, T g → g < w.heap.size) (ho : W'.ownsRow 0 61 5 v1' n1' zs1) (hg : W.grownBy W' v1.ownBlock) (hat : v1'.ownBlock = v1.ownBlock ∨ v1'.ownBlock = some W.heap.size) :
    Bu T w P m M D s1 s2 v1' n1' zs1 v2 n2 ys2 W' := by
  refine ⟨h.blk.grown hg (fun e => own_blk_ne h.o1 h.blk (by decide) e.symm), ho, h.o2.kept hg ?_, h.mp.kept hg (fun e => own_map_ne h.o1 h.mp e.symm), h.kp.grown hg (fun g e => .inl (h.f1 g e)), ?_, h.f2, h.tP, h.tM⟩
  · cases hv : v2.ownBlock with
    | none => exact .inl rfl
    | some g => exact .inr (fun e => own_ne h.o1 h.o2 (by decide) e.symm hv)
  · intro g hg'
    rcases hat with e | e
    · rw [e] at hg'; exact h.f1 g hg'
    · rw [e] at hg'; injection hg' with hg'
      intro ht
      have h1 := hT g ht
      have h2 := h.kp.2.2.2.1
      omega
theorem Bu.app2 (h : Bu T w P m M D s1 s2 v1 n1 ys1 v2 n2 ys2 W) (hT : ∀ g, T g → g < w.heap.size) (ho : W'.ownsRow 0 4 1 v2' n2' zs2) (hg : W.grownBy W' v2.ownBlock) (hat : v2'.ownBlock = v2.ownBlock ∨ v2'.ownBlock = some W.heap.size) :
    Bu T w P m M D s1 s2 v1 n1 ys1 v2' n2' zs2 W' := by
  refine ⟨h.blk.grown hg (fun e => own_blk_ne h.o2 h.blk (by decide) e.symm), h.o1.kept hg ?_, ho, h.mp.kept hg (fun e => own_map_ne h.o2 h.mp e.symm), h.kp.grown hg (fun g e => .inl (h.f2 g e)), h.f1, ?_, h.tP, h.tM⟩
  · cases hv : v1.ownBlock with
    | none => exact .inl rfl
    | some g => exact .inr (fun e => own_ne h.o2 h.o1 (by decide) e.symm hv)
  · intro g hg'
    rcases hat with e | e
    · rw [e] at hg'; exact h.f2 g hg'
    · rw [e] at hg'; injection hg' with hg'
      intro ht
      have h1 := hT g ht
      have h2 := h.kp.2.2.2.1
      omega
theorem Bu.st0 (h : Bu T w P m M D s1 s2 v1 n1 ys1 v2 n2 ys2 W) (s : Value) : Bu T w P m M D s s2 v1 n1 ys1 v2 n2 ys2 (W.setCell ⟨P, 0, none⟩ s) :=
  ⟨h.blk.set_ 0 s, h.o1.kept (only_setCell (p := ⟨P, 0, none⟩) (World.grownBy.refl W (some P)) (.inl rfl) s) (.inr (own_blk_ne h.o1 h.blk (by decide))), h.o2.kept (only_setCell (p := ⟨P, 0, none⟩) (World.grownBy.refl W (some P)) (.inl rfl) s) (.inr (own_blk_ne h.o2 h.blk (by decide))),
    h.mp.setCell (a := ⟨P, 0, none⟩) (blk_map_ne h.blk h.mp).symm s, h.kp.setCell (p := ⟨P, 0, none⟩) h.tP s, h.f1, h.f2, h.tP, h.tM⟩
theorem Bu.st1 (h : Bu T w P m M D s1 s2 v1 n1 ys1 v2 n2 ys2 W) (s : Value) : Bu T w P m M D s1 s v1 n1 ys1 v2 n2 ys2 (W.setCell ⟨P, 1, none⟩ s) :=
  ⟨h.blk.set_ 1 s, h.o1.kept (only_setCell (p := ⟨P, 1, none⟩) (World.grownBy.refl W (some P)) (.inl rfl) s) (.inr (own_blk_ne h.o1 h.blk (by decide))), h.o2.kept (only_setCell (p := ⟨P, 1, none⟩) (World.grownBy.refl W (some P)) (.inl rfl) s) (.inr (own_blk_ne h.o2 h.blk (by decide))),
    h.mp.setCell (a := ⟨P, 1, none⟩) (blk_map_ne h.blk h.mp).symm s, h.kp.setCell (p := ⟨P, 1, none⟩) h.tP s, h.f1, h.f2, h.tP, h.tM⟩
end
/-- what the loads of put read -/
def Snap (P n : Nat) (A1 : Option Addr) (c1 : Nat) (A2 : Option Addr) (c2 B0 : Nat) (c : Cl) (w' : World) : Prop :=
  w'.cell? ⟨P, 0, none⟩ = some (.slice A1 n c1) ∧ w'.cell? ⟨P, 1, none⟩ = some (.slice A2 n c2) ∧ w'.cell? ⟨B0, 0, none⟩ = some (.int .i64 c.prev) ∧ w'.cell? ⟨B0, 1, none⟩ = some (.int .i64 c.event) ∧ w'.cell? ⟨B0, 2, none⟩ = some (.bool c.fresh) ∧
    w'.cell? ⟨B0, 3, none⟩ = some (.int .i64 c.own) ∧ w'.cell? ⟨B0, 4, none⟩ = some (.int .i64 c.behind)
theorem Bu.snap {T : Nat → Prop} {w W : World} {P : Nat} {m : Int} {M : Nat} {D : DataW Unit} {v1 v2 : Value} {n n1 n2 c1 c2 B0 : Nat} {A1 A2 : Option Addr} {ys1 ys2 : List Value} {c : Cl}
    (h : Bu T w P m M D (.slice A1 n c1) (.slice A2 n c2) v1 n1 ys1 v2 n2 ys2 W) (hb : Blk W B0 61 #[.int .i64 c.prev, .int .i64 c.event, .bool c.fresh, .int .i64 c.own, .int .i64 c.behind]) : Snap P n A1 c1 A2 c2 B0 c W :=
  ⟨h.blk.cell 0, h.blk.cell 1, hb.cell 0, hb.cell 1, hb.cell 2, hb.cell 3, hb.cell 4⟩
theorem src5 {W : World} {b : Nat} {c : Cl} (h : Blk W b 61 #[.int .i64 c.prev, .int .i64 c.event, .bool c.fresh, .int .i64 c.own, .int .i64 c.behind]) : Reads W (b + 1) 5 (some ⟨b, 0, none⟩) 1 c.cells := by
  refine ⟨rfl, fun _ => ⟨_, rfl, Nat.lt_succ_self _, fun j u hu => ?_⟩⟩
  rw [Go.WideShapes.add_plain, Nat.zero_add, h.cell j]
  rw [← hu]
  show (c.cells.toArray)[j]? = _
  rw [List.getElem?_toArray]
theorem one5 (c : Cl) : ∀ u ∈ c.cells, u.oneCell' = true := by
  intro u hu
  simp only [Cl.cells, List.mem_cons, List.not_mem_nil, or_false] at hu
  rcases hu with rfl | rfl | rfl | rfl | rfl <;> rfl
theorem one1 : ∀ u ∈ [Value.bool false], u.oneCell' = true := by
  intro u hu
  simp only [List.mem_cons, List.not_mem_nil, or_false] at hu
  subst hu; rfl
section
variable {T : Nat → Prop} {w : World} {P : Nat} {S : St} {m : Int} {A1 A2 : Option Addr} {c1 c2 M : Nat} {xs : List Cl} {D : DataW Unit}
theorem Bu.of (h : PoolX T w P S m A1 A2 c1 c2 M xs D) : Bu T w P m M D (.slice A1 S.length c1) (.slice A2 S.length c2) (.slice A1 S.length c1) S.length (xs.flatMap Cl.cells) (.slice A2 S.length c2) S.length (S.map fun o => .bool o.isNone) w :=
  ⟨h.blk, h.all, h.free, h.at_, KeptT.refl T w, fun g e => by
    cases hA : A1 with
    | none => rw [hA] at e; cases e
    | some a => rw [hA] at e; injection e with e; subst e; exact h.tA a hA, fun g e => by
    cases hA : A2 with
    | none => rw [hA] at e; cases e
    | some a => rw [hA] at e; injection e with e; subst e; exact h.tB a hA, h.tP, h.tM⟩
theorem Bu.to {W : World} {c : Cl} (h : Bu T w P m M D (.slice A1 (S.length + 1) c1) (.slice A2 (S.length + 1) c2) (.slice A1 (S.length + 1) c1) (S.length + 1) (xs.flatMap Cl.cells ++ c.cells) (.slice A2 (S.length + 1) c2) (S.length + 1) ((S.map fun o => .bool o.isNone) ++ [.bool false]) W)
    (hl : xs.length = S.length) (hlive : ∀ i c, at? S i = some c → xs[i]? = some c) : PoolX T W P (S ++ [some c]) m A1 A2 c1 c2 M (xs ++ [c]) D := by
  have e : (S ++ [some c]).length = S.length + 1 := by simp
  refine ⟨by rw [e]; exact h.blk, ?_, ?_, h.mp, by simp [hl], ?_, h.tP, h.tM, fun a ha => h.f1 a.block (by rw [ha]; rfl), fun a ha => h.f2 a.block (by rw [ha]; rfl)⟩
  · rw [e, List.flatMap_append]
    have h1 := h.o1
    simpa using h1
  · rw [e, List.map_append]; exact h.o2
  · intro i c' hc'
    rcases Nat.lt_or_ge i S.length with hi | hi
    · rw [at_app_lt hi] at hc'
      rw [List.getElem?_append_left (by omega)]
      exact hlive i c' hc'
    · have hlt := at_lt hc'
      rw [e] at hlt
      obtain rfl : S.length = i := by omega
      rw [at_app_last] at hc'
      injection hc' with hc'; subst hc'
      rw [← hl]; simp

set_option maxHeartbeats 4000000 in
theorem put_new (h : PoolX T w P S m A1 A2 c1 c2 M xs D) (hT0 : ∀ g, T g → g < w.heap.size) (hS : S.length ≤ 1000000) (hb : ∀ j, j < S.length → (at? S j).isSome = true) (c : Cl) :
    Calls Try.prog 25 #[.pointer (some ⟨P, 0, none⟩), cvv c] w (PutPost T w P (S ++ [some c]) m M D S.length) := by
  have k0 := h.k0
  have k1 := h.k1
  have hlP : P < w.heap.size := h.blk.lt
  have fc : ∀ j, j < S.length → ∃ g, A2 = some ⟨g, 0, none⟩ ∧ g < w.heap.size ∧ w.cell? ⟨g, j, none⟩ = some (.bool false) := fun j hj => by
    obtain ⟨g, e, hc, _⟩ := h.freeAt hj
    have := hb j hj
    cases hh : at? S j with
    | none => rw [hh] at this; cases this
    | some c => rw [hh] at hc; exact ⟨g, e, (h.free.lt g (by rw [e]; rfl)).2, hc⟩
  have FC := Lib.hid fc
  have HL := Lib.hid h.len
  have HV := Lib.hid h.live
  have BU := Lib.hid ((Bu.of h).alloc (.cells #[.int .i64 c.prev, .int .i64 c.event, .bool c.fresh, .int .i64 c.own, .int .i64 c.behind] 61))
  have hT := Lib.hid hT0
  have HA1 : Hid (∀ g, (Value.slice A1 S.length c1).ownBlock = some g → g < w.heap.size) := Lib.hid fun g e => (h.all.lt g e).2
  have BX := Lib.hid (Blk.new w 61 #[.int .i64 c.prev, .int .i64 c.event, .bool c.fresh, .int .i64 c.own, .int .i64 c.behind])
  obtain ⟨i5, hi5', hz5'⟩ : ∃ i5, Try.prog.info? 61 = some i5 ∧ i5.zero = some (.agg #[.int .i64 0, .int .i64 0, .bool false, .int .i64 0, .int .i64 0]) ∧ i5.size = 5 ∧ i5.bytes = 40 := by
    obtain ⟨i5, h1, h2⟩ := Option.map_eq_some_iff.1 info5
    simp only [Prod.mk.injEq] at h2
    exact ⟨i5, h1, h2⟩
  obtain ⟨hz5, hs5, hb5⟩ := hz5'
  have hi5 := hi5'
  obtain ⟨i1, hi1, hz1, hs1, hb1⟩ := info_parts info_bool
  clear fc hb h hT0 hi5'
  unfold cvv
  go_enter Try.func25, Try.ntmps25
  go_wp2_with fail
  go_loop [12] (fun i => ∃ k : Nat, k ≤ S.length ∧ i = .int .i64 k) (fun i => S.length - (intOf i).toNat)
  case atStart => exact ⟨0, Nat.zero_le _, rfl⟩
  case round =>
    obtain ⟨k, hk, rfl⟩ := hrel
    by_cases hlt : k < S.length
    · obtain ⟨g, rfl, hgl, hc⟩ := FC.out k hlt
      go_wp2_with fail
      go_round
      case rel => exact ⟨k + 1, by omega, by go_num⟩
      case measure => simp [intOf]; omega
    · have hge : S.length ≤ k := by omega
      clear FC
      go_upto_region 8 with fail
      go_cut [4] (fun s4 wx => ∃ A1' c1' A2' c2', Bu T w P m M D (.slice A1' (S.length + 1) c1') (.slice A2' (S.length + 1) c2') (.slice A1' (S.length + 1) c1') (S.length + 1) (xs.flatMap Cl.cells ++ c.cells) (.slice A2' (S.length + 1) c2') (S.length + 1) ((S.map fun o => .bool o.isNone) ++ [.bool false]) wx)
      case first =>
        have HS := Lib.hid (Bu.snap BU.out.drew (Blk.drew BX.out))
        refine region_till (Snap P S.length A1 c1 A2 c2 w.heap.size c) (fun j => !([5, 6, 7, 8, 12, 13, 14] : List Nat).contains j) (by kernel_rfl) ?_
        refine till_pure (i := 0) (v := ?_) rfl (by kernel_rfl) (by kernel_rfl) (by kernel_rfl) (by kernel_rfl) (fun _ _ _ h => h) (Or.inl ⟨by kernel_rfl, ?_⟩) ?_
        rotate_left
        · (intro w' _; go_simp; try with_reducible rfl)
        refine till_pure (i := 1) (v := ?_) rfl (by kernel_rfl) (by kernel_rfl) (by kernel_rfl) (by kernel_rfl) (fun _ _ _ h => h) (Or.inl ⟨by kernel_rfl, ?_⟩) ?_
        rotate_left
        · (intro w' _; go_simp; try with_reducible rfl)
        refine till_pure (i := 2) (v := ?_) rfl (by kernel_rfl) (by kernel_rfl) (by kernel_rfl) (by kernel_rfl) (fun _ _ _ h => h) (Or.inl ⟨by kernel_rfl, ?_⟩) ?_
        rotate_left
        · (intro w' _; go_simp; try with_reducible rfl)
        refine till_pure (i := 3) (v := ?_) rfl (by kernel_rfl) (by kernel_rfl) (by kernel_rfl) (by kernel_rfl) (fun _ _ _ h => h) (Or.inl ⟨by kernel_rfl, ?_⟩) ?_
        rotate_left
        · (intro w' _; go_simp; try with_reducible rfl)
        refine till_pure (i := 4) (v := ?_) rfl (by kernel_rfl) (by kernel_rfl) (by kernel_rfl) (by kernel_rfl) (fun _ _ _ h => h) (Or.inl ⟨by kernel_rfl, ?_⟩) ?_
        rotate_left
        · (intro w' _; go_simp; try with_reducible rfl)
        refine till_pure (i := 9) (v := ?_) rfl (by kernel_rfl) (by kernel_rfl) (by kernel_rfl) (by kernel_rfl) (fun _ _ _ h => h) (Or.inl ⟨by kernel_rfl, ?_⟩) ?_
        rotate_left
        · (intro w' _; go_simp; try with_reducible rfl)
        refine till_pure (i := 10) (v := ?_) rfl (by kernel_rfl) (by kernel_rfl) (by kernel_rfl) (by kernel_rfl) (fun _ _ _ h => h) (Or.inl ⟨by kernel_rfl, ?_⟩) ?_
        rotate_left
        · (intro w' _; go_simp; try with_reducible rfl)
        refine till_pure (i := 11) (v := ?_) rfl (by kernel_rfl) (by kernel_rfl) (by kernel_rfl) (by kernel_rfl) (fun _ _ _ h => h) (Or.inl ⟨by kernel_rfl, ?_⟩) ?_
        rotate_left
        · (intro w' _; go_simp; try with_reducible rfl)
        refine till_take (i := 5) (v := ?_) rfl (by kernel_rfl) (by kernel_rfl) (by kernel_rfl) (by kernel_rfl) (fun _ _ _ h => h) (Or.inl ⟨by kernel_rfl, ?_⟩) HS.out ?_
        rotate_left
        · (intro w' hSw; obtain ⟨p0, p1, x0, x1, x2, x3, x4⟩ := hSw; go_simp; try with_reducible rfl)
        refine till_take (i := 6) (v := ?_) rfl (by kernel_rfl) (by kernel_rfl) (by kernel_rfl) (by kernel_rfl) (fun _ _ _ h => h) (Or.inl ⟨by kernel_rfl, ?_⟩) HS.out ?_
        rotate_left
        · (intro w' hSw; obtain ⟨p0, p1, x0, x1, x2, x3, x4⟩ := hSw; go_simp; try with_reducible rfl)
        refine till_take (i := 12) (v := ?_) rfl (by kernel_rfl) (by kernel_rfl) (by kernel_rfl) (by kernel_rfl) (fun _ _ _ h => h) (Or.inl ⟨by kernel_rfl, ?_⟩) HS.out ?_
        rotate_left
        · (intro w' hSw; obtain ⟨p0, p1, x0, x1, x2, x3, x4⟩ := hSw; go_simp; try with_reducible rfl)
        refine till_ready (rs := [7, 13]) (by kernel_rfl) (by simp) ?_
        refine TillAll.cons rfl (fun K hK => ?_) ?_
        · skip
          go_simp
          have SA := Lib.hid (Bu.src BU.out #[.int .i64 c.prev, .int .i64 c.event, .bool c.fresh, .int .i64 c.own, .int .i64 c.behind] 61)
          try simp only [World.size_alloc] at SA
          replace BX := Lib.hid (Blk.alloc BX.out (.cells #[.int .i64 c.prev, .int .i64 c.event, .bool c.fresh, .int .i64 c.own, .int .i64 c.behind] 61))
          replace BU := Lib.hid (BU.out.alloc (.cells #[.int .i64 c.prev, .int .i64 c.event, .bool c.fresh, .int .i64 c.own, .int .i64 c.behind] 61))
          (refine hK.out _ _ (fun _ => (Bu.snap BU.out.drew (Blk.drew BX.out))) ?_; clear hK K)
          refine till_ready (rs := [8, 13]) (by kernel_rfl) (by simp) ?_
          refine TillAll.cons rfl (fun K hK => ?_) ?_
          · skip
            replace BU := Lib.hid (BU.out.drew)
            refine step_append_any _ (by rfl) (.tmp 38) (.tmp 40) 53 (by rfl) 0 61 i5 _ 5 40 Try.underlying53 hi5 hz5 hs5 hb5 rfl (by omega) _ _ _ (by rfl) BU.out.o1 _ _ 1 1 c.cells (by rfl) (src5 SA.out) (one5 c) (by unfold maxLen; omega) (by omega) (Nat.zero_le _) ?_
            intro v' w' ho hg hat
            obtain ⟨A1', c1', rfl⟩ := own_slice ho
            replace BX := Lib.hid (Blk.grown (Blk.drew BX.out) hg (fun e => Nat.lt_irrefl _ (HA1.out _ e.symm)))
            replace BU := Lib.hid (BU.out.app1 hT.out ho hg hat)
            clear ho hg hat SA
            (refine hK.out _ _ (fun _ => (Bu.snap BU.out BX.out)) ?_; clear hK K)
            refine till_ready (rs := [13]) (by kernel_rfl) (by simp) ?_
            refine TillAll.cons rfl (fun K hK => ?_) TillAll.nil
            go_simp
            have SB := Lib.hid (Bu.src BU.out #[.bool false] 4)
            try simp only [World.size_alloc] at SB
            replace BX := Lib.hid (Blk.alloc BX.out (.cells #[.bool false] 4))
            replace BU := Lib.hid (BU.out.alloc (.cells #[.bool false] 4))
            (refine hK.out _ _ (fun _ => (Bu.snap BU.out BX.out)) ?_; clear hK K)
            refine till_ready (rs := [14]) (by kernel_rfl) (by simp) ?_
            refine TillAll.cons rfl (fun K hK => ?_) TillAll.nil
            refine step_append_any _ (by rfl) (.tmp 45) (.tmp 46) 37 (by rfl) 0 4 i1 _ 1 1 Try.underlying37 hi1 hz1 hs1 hb1 rfl (by omega) _ _ _ (by rfl) BU.out.o2 _ _ 1 1 [.bool false] (by rfl) (src1 SB.out) one1 (by unfold maxLen; omega) (by omega) (Nat.zero_le _) ?_
            intro v' w' ho hg hat
            obtain ⟨A2', c2', rfl⟩ := own_slice ho
            replace BX := Lib.hid (Blk.grown BX.out hg (fun e => own_blk_ne BU.out.o2 BX.out (by decide) e.symm))
            replace BU := Lib.hid (BU.out.app2 hT.out ho hg hat)
            clear ho hg hat SB
            (refine hK.out _ _ (fun _ => (Bu.snap BU.out BX.out)) ?_; clear hK K)
            refine till_pure (i := 15) (v := ?_) rfl (by kernel_rfl) (by kernel_rfl) (by kernel_rfl) (by kernel_rfl) (fun _ _ _ h => h) (Or.inl ⟨by kernel_rfl, ?_⟩) ?_
            rotate_left
            · (intro w' _; go_simp; try with_reducible rfl)
            refine till_pure (i := 16) (v := ?_) rfl (by kernel_rfl) (by kernel_rfl) (by kernel_rfl) (by kernel_rfl) (fun _ _ _ h => h) (Or.inl ⟨by kernel_rfl, ?_⟩) ?_
            rotate_left
            · (intro w' _; go_simp; try with_reducible rfl)
            refine till_ready (rs := [17]) (by kernel_rfl) (by simp) ?_
            refine TillAll.cons rfl (fun K hK => ?_) TillAll.nil
            have p0 := BU.out.blk.cell 0
            have q0 := BU.out.blk.frozen 0
            go_simp
            (refine hK.out _ _ (fun h => absurd h (by decide)) ?_; clear hK K)
            clear p0 q0
            replace BU := Lib.hid (BU.out.st0 (.slice A1' (S.length + 1) c1'))
            refine till_pure (i := 18) (v := ?_) rfl (by kernel_rfl) (by kernel_rfl) (by kernel_rfl) (by kernel_rfl) (fun _ _ _ h => h) (Or.inl ⟨by kernel_rfl, ?_⟩) ?_
            rotate_left
            · (intro w' _; go_simp; try with_reducible rfl)
            refine till_pure (i := 19) (v := ?_) rfl (by kernel_rfl) (by kernel_rfl) (by kernel_rfl) (by kernel_rfl) (fun _ _ _ h => h) (Or.inl ⟨by kernel_rfl, ?_⟩) ?_
            rotate_left
            · (intro w' _; go_simp; try with_reducible rfl)
            refine till_ready (rs := [20]) (by kernel_rfl) (by simp) ?_
            refine TillAll.cons rfl (fun K hK => ?_) TillAll.nil
            have p0 := BU.out.blk.cell 1
            have q0 := BU.out.blk.frozen 1
            go_simp
            (refine hK.out _ _ (fun h => absurd h (by decide)) ?_; clear hK K)
            clear p0 q0
            replace BU := Lib.hid (BU.out.st1 (.slice A2' (S.length + 1) c2'))
            refine till_done (by kernel_rfl) ?_ _
            go_simp
            go_wp2_with fail
            go_meet
            exact ⟨_, _, _, _, BU.out⟩
          refine TillAll.cons rfl (fun K hK => ?_) TillAll.nil
          go_simp
          have SB := Lib.hid (Bu.src BU.out #[.bool false] 4)
          try simp only [World.size_alloc] at SB
          replace SA := Lib.hid (Blk.alloc SA.out (.cells #[.bool false] 4))
          replace BX := Lib.hid (Blk.alloc BX.out (.cells #[.bool false] 4))
          replace BU := Lib.hid (BU.out.alloc (.cells #[.bool false] 4))
          (refine hK.out _ _ (fun _ => (Bu.snap BU.out.drew (Blk.drew BX.out))) ?_; clear hK K)
          refine till_ready (rs := [8]) (by kernel_rfl) (by simp) ?_
          refine TillAll.cons rfl (fun K hK => ?_) TillAll.nil
          replace BU := Lib.hid (BU.out.drew)
          refine step_append_any _ (by rfl) (.tmp 38) (.tmp 40) 53 (by rfl) 0 61 i5 _ 5 40 Try.underlying53 hi5 hz5 hs5 hb5 rfl (by omega) _ _ _ (by rfl) BU.out.o1 _ _ 1 1 c.cells (by rfl) (src5 SA.out) (one5 c) (by unfold maxLen; omega) (by omega) (Nat.zero_le _) ?_
          intro v' w' ho hg hat
          obtain ⟨A1', c1', rfl⟩ := own_slice ho
          replace SB := Lib.hid (Blk.grown (Blk.drew SB.out) hg (BU.out.src_ne1 (Blk.drew SB.out) (by decide)))
          replace BX := Lib.hid (Blk.grown (Blk.drew BX.out) hg (fun e => Nat.lt_irrefl _ (HA1.out _ e.symm)))
          replace BU := Lib.hid (BU.out.app1 hT.out ho hg hat)
          clear ho hg hat SA
          (refine hK.out _ _ (fun _ => (Bu.snap BU.out BX.out)) ?_; clear hK K)
          refine till_ready (rs := [14]) (by kernel_rfl) (by simp) ?_
          refine TillAll.cons rfl (fun K hK => ?_) TillAll.nil
          refine step_append_any _ (by rfl) (.tmp 45) (.tmp 46) 37 (by rfl) 0 4 i1 _ 1 1 Try.underlying37 hi1 hz1 hs1 hb1 rfl (by omega) _ _ _ (by rfl) BU.out.o2 _ _ 1 1 [.bool false] (by rfl) (src1 SB.out) one1 (by unfold maxLen; omega) (by omega) (Nat.zero_le _) ?_
          intro v' w' ho hg hat
          obtain ⟨A2', c2', rfl⟩ := own_slice ho
          replace BX := Lib.hid (Blk.grown BX.out hg (fun e => own_blk_ne BU.out.o2 BX.out (by decide) e.symm))
          replace BU := Lib.hid (BU.out.app2 hT.out ho hg hat)
          clear ho hg hat SB
          (refine hK.out _ _ (fun _ => (Bu.snap BU.out BX.out)) ?_; clear hK K)
          refine till_pure (i := 15) (v := ?_) rfl (by kernel_rfl) (by kernel_rfl) (by kernel_rfl) (by kernel_rfl) (fun _ _ _ h => h) (Or.inl ⟨by kernel_rfl, ?_⟩) ?_
          rotate_left
          · (intro w' _; go_simp; try with_reducible rfl)
          refine till_pure (i := 16) (v := ?_) rfl (by kernel_rfl) (by kernel_rfl) (by kernel_rfl) (by kernel_rfl) (fun _ _ _ h => h) (Or.inl ⟨by kernel_rfl, ?_⟩) ?_
          rotate_left
          · (intro w' _; go_simp; try with_reducible rfl)
          refine till_ready (rs := [17]) (by kernel_rfl) (by simp) ?_
          refine TillAll.cons rfl (fun K hK => ?_) TillAll.nil
          have p0 := BU.out.blk.cell 0
          have q0 := BU.out.blk.frozen 0
          go_simp
          (refine hK.out _ _ (fun h => absurd h (by decide)) ?_; clear hK K)
          clear p0 q0
          replace BU := Lib.hid (BU.out.st0 (.slice A1' (S.length + 1) c1'))
          refine till_pure (i := 18) (v := ?_) rfl (by kernel_rfl) (by kernel_rfl) (by kernel_rfl) (by kernel_rfl) (fun _ _ _ h => h) (Or.inl ⟨by kernel_rfl, ?_⟩) ?_
          rotate_left
          · (intro w' _; go_simp; try with_reducible rfl)
          refine till_pure (i := 19) (v := ?_) rfl (by kernel_rfl) (by kernel_rfl) (by kernel_rfl) (by kernel_rfl) (fun _ _ _ h => h) (Or.inl ⟨by kernel_rfl, ?_⟩) ?_
          rotate_left
          · (intro w' _; go_simp; try with_reducible rfl)
          refine till_ready (rs := [20]) (by kernel_rfl) (by simp) ?_
          refine TillAll.cons rfl (fun K hK => ?_) TillAll.nil
          have p0 := BU.out.blk.cell 1
          have q0 := BU.out.blk.frozen 1
          go_simp
          (refine hK.out _ _ (fun h => absurd h (by decide)) ?_; clear hK K)
          clear p0 q0
          replace BU := Lib.hid (BU.out.st1 (.slice A2' (S.length + 1) c2'))
          refine till_done (by kernel_rfl) ?_ _
          go_simp
          go_wp2_with fail
          go_meet
          exact ⟨_, _, _, _, BU.out⟩
        refine TillAll.cons rfl (fun K hK => ?_) TillAll.nil
        go_simp
        have SB := Lib.hid (Bu.src BU.out #[.bool false] 4)
        try simp only [World.size_alloc] at SB
        replace BX := Lib.hid (Blk.alloc BX.out (.cells #[.bool false] 4))
        replace BU := Lib.hid (BU.out.alloc (.cells #[.bool false] 4))
        (refine hK.out _ _ (fun _ => (Bu.snap BU.out.drew (Blk.drew BX.out))) ?_; clear hK K)
        refine till_ready (rs := [7]) (by kernel_rfl) (by simp) ?_
        refine TillAll.cons rfl (fun K hK => ?_) TillAll.nil
        go_simp
        have SA := Lib.hid (Bu.src BU.out #[.int .i64 c.prev, .int .i64 c.event, .bool c.fresh, .int .i64 c.own, .int .i64 c.behind] 61)
        try simp only [World.size_alloc] at SA
        replace SB := Lib.hid (Blk.alloc SB.out (.cells #[.int .i64 c.prev, .int .i64 c.event, .bool c.fresh, .int .i64 c.own, .int .i64 c.behind] 61))
        replace BX := Lib.hid (Blk.alloc BX.out (.cells #[.int .i64 c.prev, .int .i64 c.event, .bool c.fresh, .int .i64 c.own, .int .i64 c.behind] 61))
        replace BU := Lib.hid (BU.out.alloc (.cells #[.int .i64 c.prev, .int .i64 c.event, .bool c.fresh, .int .i64 c.own, .int .i64 c.behind] 61))
        (refine hK.out _ _ (fun _ => (Bu.snap BU.out.drew (Blk.drew BX.out))) ?_; clear hK K)
        refine till_ready (rs := [8]) (by kernel_rfl) (by simp) ?_
        refine TillAll.cons rfl (fun K hK => ?_) TillAll.nil
        replace BU := Lib.hid (BU.out.drew)
        refine step_append_any _ (by rfl) (.tmp 38) (.tmp 40) 53 (by rfl) 0 61 i5 _ 5 40 Try.underlying53 hi5 hz5 hs5 hb5 rfl (by omega) _ _ _ (by rfl) BU.out.o1 _ _ 1 1 c.cells (by rfl) (src5 SA.out) (one5 c) (by unfold maxLen; omega) (by omega) (Nat.zero_le _) ?_
        intro v' w' ho hg hat
        obtain ⟨A1', c1', rfl⟩ := own_slice ho
        replace SB := Lib.hid (Blk.grown (Blk.drew SB.out) hg (BU.out.src_ne1 (Blk.drew SB.out) (by decide)))
        replace BX := Lib.hid (Blk.grown (Blk.drew BX.out) hg (fun e => Nat.lt_irrefl _ (HA1.out _ e.symm)))
        replace BU := Lib.hid (BU.out.app1 hT.out ho hg hat)
        clear ho hg hat SA
        (refine hK.out _ _ (fun _ => (Bu.snap BU.out BX.out)) ?_; clear hK K)
        refine till_ready (rs := [14]) (by kernel_rfl) (by simp) ?_
        refine TillAll.cons rfl (fun K hK => ?_) TillAll.nil
        refine step_append_any _ (by rfl) (.tmp 45) (.tmp 46) 37 (by rfl) 0 4 i1 _ 1 1 Try.underlying37 hi1 hz1 hs1 hb1 rfl (by omega) _ _ _ (by rfl) BU.out.o2 _ _ 1 1 [.bool false] (by rfl) (src1 SB.out) one1 (by unfold maxLen; omega) (by omega) (Nat.zero_le _) ?_
        intro v' w' ho hg hat
        obtain ⟨A2', c2', rfl⟩ := own_slice ho
        replace BX := Lib.hid (Blk.grown BX.out hg (fun e => own_blk_ne BU.out.o2 BX.out (by decide) e.symm))
        replace BU := Lib.hid (BU.out.app2 hT.out ho hg hat)
        clear ho hg hat SB
        (refine hK.out _ _ (fun _ => (Bu.snap BU.out BX.out)) ?_; clear hK K)
        refine till_pure (i := 15) (v := ?_) rfl (by kernel_rfl) (by kernel_rfl) (by kernel_rfl) (by kernel_rfl) (fun _ _ _ h => h) (Or.inl ⟨by kernel_rfl, ?_⟩) ?_
        rotate_left
        · (intro w' _; go_simp; try with_reducible rfl)
        refine till_pure (i := 16) (v := ?_) rfl (by kernel_rfl) (by kernel_rfl) (by kernel_rfl) (by kernel_rfl) (fun _ _ _ h => h) (Or.inl ⟨by kernel_rfl, ?_⟩) ?_
        rotate_left
        · (intro w' _; go_simp; try with_reducible rfl)
        refine till_ready (rs := [17]) (by kernel_rfl) (by simp) ?_
        refine TillAll.cons rfl (fun K hK => ?_) TillAll.nil
        have p0 := BU.out.blk.cell 0
        have q0 := BU.out.blk.frozen 0
        go_simp
        (refine hK.out _ _ (fun h => absurd h (by decide)) ?_; clear hK K)
        clear p0 q0
        replace BU := Lib.hid (BU.out.st0 (.slice A1' (S.length + 1) c1'))
        refine till_pure (i := 18) (v := ?_) rfl (by kernel_rfl) (by kernel_rfl) (by kernel_rfl) (by kernel_rfl) (fun _ _ _ h => h) (Or.inl ⟨by kernel_rfl, ?_⟩) ?_
        rotate_left
        · (intro w' _; go_simp; try with_reducible rfl)
        refine till_pure (i := 19) (v := ?_) rfl (by kernel_rfl) (by kernel_rfl) (by kernel_rfl) (by kernel_rfl) (fun _ _ _ h => h) (Or.inl ⟨by kernel_rfl, ?_⟩) ?_
        rotate_left
        · (intro w' _; go_simp; try with_reducible rfl)
        refine till_ready (rs := [20]) (by kernel_rfl) (by simp) ?_
        refine TillAll.cons rfl (fun K hK => ?_) TillAll.nil
        have p0 := BU.out.blk.cell 1
        have q0 := BU.out.blk.frozen 1
        go_simp
        (refine hK.out _ _ (fun h => absurd h (by decide)) ?_; clear hK K)
        clear p0 q0
        replace BU := Lib.hid (BU.out.st1 (.slice A2' (S.length + 1) c2'))
        refine till_done (by kernel_rfl) ?_ _
        go_simp
        go_wp2_with fail
        go_meet
        exact ⟨_, _, _, _, BU.out⟩
      case rest =>
        obtain ⟨A1', c1', A2', c2', HB⟩ := hcut
        have p0 := HB.blk.cell 0
        have HX := Lib.hid (Bu.to HB HL.out HV.out)
        have HK := Lib.hid HB.kp
        clear HB hz5 hs5 hb5 hi5 hi1 hz1 hs1 hb1
        go_wp2_with fail
        go_ret
        exact ⟨rfl, _, _, _, _, _, HX.out, HK.out⟩
end
end Go.Proofs.Ytcgapjicbgfpjaa

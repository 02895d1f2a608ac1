/- Ima, Rsum: texts merged for a claim by a program of mine. -/
import Derived.Test.YtioocaicmiggoaaA08
import Derived.Test.YtioocaicmiggoaaA15
import Derived.Lib.SlBytesConst
namespace Go.Proofs.Ytioocaicmiggoaa
set_option linter.unusedVariables false
open Go.RowKit Go.Deep
theorem fine_tab : Fine tabF 22500000000 := fun st x st' y h => by
 have h := fine_bind (C := 10) (D := 22499999990) h (fun s z h => fine_runs rfl h) fun s z h => fine_bind (C := 10250) (D := 22499989740) h (fun s z h => fine_list fine_int _ _ _ _ h) fun s z h => fine_bind (C := 10496010) (D := 22489493730) h (fun s z h => by have := fine_list (zero := ([] : List Int)) (fine_list fine_int) _ _ _ _ h; exact ⟨Nat.le_trans this.1 (Nat.add_le_add_left (by decide) _), this.2⟩)
  fun s z h => fine_bind (C := 30) (D := 22489493700) h (fun s z h => fine_runs rfl h) fun s z h => fine_bind (C := 22118400010) (D := 371093690) h (fun s z h => by have := fine_list (zero := zRow) fine_row _ _ _ _ h; exact ⟨Nat.le_trans this.1 (Nat.add_le_add_left (by decide) _), this.2⟩) fun s z h => fine_bind (C := 371093690) (D := 0) h (fun s z h => by have := fine_list (zero := zCode) fine_code _ _ _ _ h; exact ⟨Nat.le_trans this.1 (Nat.add_le_add_left (by decide) _), this.2⟩) fun s z h => fine_end h
 exact h
theorem tabQ_next {B tb base base0 : Nat} {w4 w5 : World} {vs : List Value} {x : TTab} (h : TabQ (FreshQ base w4) w4 vs x) (fr : Fr B tb w4 w5) (htb : tb < base) (hb : base0 ≤ base) : TabQ (FreshQ base0 w5) w5 vs x := by
 obtain ⟨vk, vkk, vs', vc, h1, h2, h3, h4, h5, h6⟩ := h
 exact ⟨vk, vkk, vs', vc, h1, slq_next (R := fun _ => IntC) h2 keeps_int fr htb hb, slq_next h3 keeps_ints fr htb hb, slq_next h4 keeps_row fr htb hb, slq_next h5 keeps_code fr htb hb, h6⟩
theorem tabQ_old {B tb : Nat} {w w5 : World} {vs : List Value} {x : TTab} (h : TabQ (· < B) w vs x) (fr : Fr B tb w w5) : TabQ (· < B) w5 vs x := by
 obtain ⟨vk, vkk, vs', vc, h1, h2, h3, h4, h5, h6⟩ := h
 exact ⟨vk, vkk, vs', vc, h1, slq_old (R := fun _ => IntC) h2 keeps_int fr, slq_old h3 keeps_ints fr, slq_old h4 keeps_row fr, slq_old h5 keeps_code fr, h6⟩
theorem TabQ.tab {Q : Nat → Prop} {w : World} {vs : List Value} {x : TTab} (h : TabQ Q w vs x) : ∃ vk vkk vr vc, vs = [.int .i64 x.strategy, vk, vkk, .int .i64 x.syms, .int .i64 x.runs, .int .i64 x.cells, vr, vc] ∧ TabX w x vk vkk vr vc := by
 obtain ⟨vk, vkk, vs', vc, h1, h2, h3, h4, h5, h6⟩ := h
 exact ⟨vk, vkk, vs', vc, h1, h2.out fun _ _ h => h, h3.out fun _ _ h => h.out, h4.out fun _ _ h => h.out, h5.out fun _ _ h => h.out, h6⟩
end Go.Proofs.Ytioocaicmiggoaa
namespace Go.Proofs.Ytioocaicmiggoaa
set_option linter.unusedVariables false
open Go.RowKit Go.Deep
structure Codec {α : Type} (D : α → Prop) (one : FSt → α → Option (FSt × α)) (zero : α) : Prop where
 enc : ∀ bs x st' y, D x → one (.wr bs) x = some (st', y) → y = x ∧ ∃ m : List UInt8, 1 ≤ m.length ∧ st' = .wr (bs ++ m) ∧ (∀ bs2, one (.wr bs2) x = some (.wr (bs2 ++ m), x)) ∧
  ∀ R A n c l p rest, l.length = n → p ≤ n → l.drop p = m ++ rest → one (.rd R A n c l p) zero = some (.rd R A n c l (p + m.length), x)
 got : ∀ R A n c l p st' y, l.length = n → p ≤ n → one (.rd R A n c l p) zero = some (st', y) → D y ∧ ∃ m rest : List UInt8, l.drop p = m ++ rest ∧ 1 ≤ m.length ∧ st' = .rd R A n c l (p + m.length) ∧ ∀ bs, one (.wr bs) y = some (.wr (bs ++ m), y)
theorem Codec.congr {α : Type} {D : α → Prop} {F G : FSt → α → Option (FSt × α)} {z : α} (h : ∀ st x, F st x = G st x) (hG : Codec D G z) : Codec D F z := by
 have e : F = G := funext fun st => funext fun x => h st x
 rw [e]; exact hG
theorem drop_more {l m rest : List UInt8} {p : Nat} (h : l.drop p = m ++ rest) : l.drop (p + m.length) = rest := by
 rw [← List.drop_drop, h, List.drop_left]
theorem drop_le {l m rest : List UInt8} {p n : Nat} (hn : l.length = n) (hp : p ≤ n) (h : l.drop p = m ++ rest) : p + m.length ≤ n := by
 have h1 : (l.drop p).length = (m ++ rest).length := by rw [h]
 rw [List.length_drop, List.length_append] at h1
 omega
def Any {α : Type} (_ : α) : Prop := True
theorem codec_num (z : Int) : Codec Any num z := by
 refine ⟨fun bs x st' y _ h => ?_, fun R A n c l p st' y hn hp h => ⟨trivial, ?_⟩⟩
 ·by_cases ho : numOk x = true
  ·simp only [num, if_pos ho] at h
   cases h
   have ho2 := ho
   simp only [numOk, Bool.and_eq_true, decide_eq_true_eq] at ho2
   refine ⟨rfl, vb (zig x), (vb_len _).1, rfl, fun bs2 => by simp only [num, if_pos ho], fun R A n c l p rest hn hp hd => ?_⟩
   simp only [num, hd, dec_vb (zig x) (zig_lt x (by omega) (by omega)) rest, zag_zig, if_pos ho]
  ·simp only [num, if_neg ho] at h
   cases h
 ·rcases hd : dec (l.drop p) with _ | ⟨v, k⟩
  ·simp only [num, hd] at h
   cases h
  ·simp only [num, hd] at h
   split at h
   ·rename_i ho
    cases h
    obtain ⟨h1, h2, h3, h4⟩ := dec_take hd
    refine ⟨vb v, (l.drop p).drop k, by rw [← h2, List.take_append_drop], (vb_len _).1, by rw [← h3], fun bs => ?_⟩
    simp only [num, if_pos ho, zig_zag]
   ·cases h
def U64 (x : Int) : Prop := 0 ≤ x ∧ x < 18446744073709551616
theorem codec_bits (z : Int) : Codec U64 bitsF z := by
 refine ⟨fun bs x st' y hx h => ?_, fun R A n c l p st' y hn hp h => ?_⟩
 ·simp only [bitsF] at h
  cases h
  obtain ⟨k, rfl⟩ : ∃ k : Nat, x = k := ⟨x.toNat, by have := hx.1; omega⟩
  have hk : k < 18446744073709551616 := by have := hx.2; omega
  refine ⟨rfl, vb k, (vb_len _).1, by simp, fun bs2 => by simp [bitsF], fun R A n c l p rest hn hp hd => ?_⟩
  simp only [bitsF, hd, dec_vb k hk rest]
 ·rcases hd : dec (l.drop p) with _ | ⟨v, k⟩
  ·simp only [bitsF, hd] at h
   cases h
  ·simp only [bitsF, hd] at h
   cases h
   obtain ⟨h1, h2, h3, h4⟩ := dec_take hd
   refine ⟨⟨by omega, by omega⟩, vb v, (l.drop p).drop k, by rw [← h2, List.take_append_drop], (vb_len _).1, by rw [← h3], fun bs => ?_⟩
   simp [bitsF]
theorem codec_flag : Codec Any flagF false := by
 have hb : ∀ b : Bool, numOk (bInt b) = true := fun b => by cases b <;> decide
 refine ⟨fun bs x st' y _ h => ?_, fun R A n c l p st' y hn hp h => ⟨trivial, ?_⟩⟩
 ·have e : ∀ bs2, flagF (.wr bs2) x = some (.wr (bs2 ++ vb (zig (bInt x))), x) := fun bs2 => by
   unfold flagF
   simp only [num, if_pos (hb x)]
   cases x <;> rfl
  rw [e] at h
  cases h
  refine ⟨rfl, vb (zig (bInt x)), (vb_len _).1, rfl, e, fun R A n c l p rest hn hp hd => ?_⟩
  have h1 : num (.rd R A n c l p) (bInt false) = some (.rd R A n c l (p + (vb (zig (bInt x))).length), bInt x) := by
   simp only [num, hd, dec_vb (zig (bInt x)) (zig_lt _ (by cases x <;> decide) (by cases x <;> decide)) rest, zag_zig, if_pos (hb x)]
  unfold flagF
  rw [h1]
  cases x <;> rfl
 ·unfold flagF at h
  split at h
  ·cases h
  ·rename_i s v hs
   obtain ⟨_, m, rest, h1, h2, rfl, h4⟩ := (codec_num (bInt false)).got R A n c l p s v hn hp hs
   split at h
   ·rename_i h0
    cases h
    refine ⟨m, rest, h1, h2, rfl, fun bs => ?_⟩
    have := h4 bs
    rw [h0] at this
    unfold flagF
    rw [show bInt false = 0 from rfl, this]; rfl
   ·split at h
    ·rename_i h0
     cases h
     refine ⟨m, rest, h1, h2, rfl, fun bs => ?_⟩
     have := h4 bs
     rw [h0] at this
     unfold flagF
     rw [show bInt true = 1 from rfl, this]; rfl
    ·cases h
def pairF {α β : Type} (f : FSt → α → Option (FSt × α)) (g : FSt → β → Option (FSt × β)) (st : FSt) (x : α × β) : Option (FSt × (α × β)) := (f st x.1).bind fun p => (g p.1 x.2).bind fun q => some (q.1, (p.2, q.2))
theorem codec_pair {α β : Type} {D : α → Prop} {E : β → Prop} {f : FSt → α → Option (FSt × α)} {g : FSt → β → Option (FSt × β)} {z : α} {z' : β} (hf : Codec D f z) (hg : Codec E g z') : Codec (fun x => D x.1 ∧ E x.2) (pairF f g) (z, z') := by
 refine ⟨fun bs x st' y hx h => ?_, fun R A n c l p st' y hn hp h => ?_⟩
 ·unfold pairF at h
  rcases h1 : f (.wr bs) x.1 with _ | ⟨s1, y1⟩
  ·rw [h1] at h; cases h
  ·rw [h1] at h
   simp only [Option.bind_some] at h
   obtain ⟨rfl, m, a1, rfl, a3, a4⟩ := hf.enc _ _ _ _ hx.1 h1
   rcases h2 : g (.wr (bs ++ m)) x.2 with _ | ⟨s2, y2⟩
   ·rw [h2] at h; cases h
   ·rw [h2] at h
    simp only [Option.bind_some] at h
    cases h
    obtain ⟨rfl, m2, b1, rfl, b3, b4⟩ := hg.enc _ _ _ _ hx.2 h2
    refine ⟨rfl, m ++ m2, by rw [List.length_append]; omega, by rw [List.append_assoc], fun bs2 => ?_, fun R A n c l p rest hn hp hd => ?_⟩
    ·unfold pairF
     rw [a3]
     simp only [Option.bind_some, b3, List.append_assoc]
    ·rw [List.append_assoc] at hd
     have c1 := a4 R A n c l p (m2 ++ rest) hn hp hd
     have c2 := b4 R A n c l (p + m.length) rest hn (drop_le hn hp hd) (drop_more hd)
     unfold pairF
     simp only [c1, Option.bind_some, c2, List.length_append, Nat.add_assoc]
 ·unfold pairF at h
  rcases h1 : f (.rd R A n c l p) z with _ | ⟨s1, y1⟩
  ·simp only [h1] at h; cases h
  ·simp only [h1, Option.bind_some] at h
   obtain ⟨d1, m, rest, a1, a2, rfl, a4⟩ := hf.got _ _ _ _ _ _ _ _ hn hp h1
   rcases h2 : g (.rd R A n c l (p + m.length)) z' with _ | ⟨s2, y2⟩
   ·simp only [h2] at h; cases h
   ·simp only [h2, Option.bind_some] at h
    cases h
    obtain ⟨d2, m2, rest2, b1, b2, rfl, b4⟩ := hg.got _ _ _ _ _ _ _ _ hn (drop_le hn hp a1) h2
    rw [drop_more a1] at b1
    refine ⟨⟨d1, d2⟩, m ++ m2, rest2, by rw [a1, b1, List.append_assoc], by rw [List.length_append]; omega, by rw [List.length_append, Nat.add_assoc], fun bs => ?_⟩
    unfold pairF
    simp only [a4, Option.bind_some, b4, List.append_assoc]
def mapF {α β : Type} (e : β → α) (d : α → β) (f : FSt → α → Option (FSt × α)) (st : FSt) (x : β) : Option (FSt × β) := (f st (e x)).bind fun p => some (p.1, d p.2)
theorem codec_map {α β : Type} {D : α → Prop} {f : FSt → α → Option (FSt × α)} {z : α} (hf : Codec D f z) (e : β → α) (d : α → β) (zb : β) (h1 : ∀ x, d (e x) = x) (h2 : ∀ y, e (d y) = y) (hz : e zb = z) : Codec (fun x => D (e x)) (mapF e d f) zb := by
 subst hz
 refine ⟨fun bs x st' y hx h => ?_, fun R A n c l p st' y hn hp h => ?_⟩
 ·unfold mapF at h
  rcases k1 : f (.wr bs) (e x) with _ | ⟨s1, y1⟩
  ·rw [k1] at h; cases h
  ·rw [k1] at h
   simp only [Option.bind_some] at h
   cases h
   obtain ⟨rfl, m, a1, rfl, a3, a4⟩ := hf.enc _ _ _ _ hx k1
   refine ⟨h1 x, m, a1, rfl, fun bs2 => ?_, fun R A n c l p rest hn hp hd => ?_⟩
   ·unfold mapF; simp only [a3, Option.bind_some, h1]
   ·unfold mapF; simp only [a4 R A n c l p rest hn hp hd, Option.bind_some, h1]
 ·unfold mapF at h
  rcases k1 : f (.rd R A n c l p) (e zb) with _ | ⟨s1, y1⟩
  ·rw [k1] at h; cases h
  ·rw [k1] at h
   simp only [Option.bind_some] at h
   cases h
   obtain ⟨d1, m, rest, a1, a2, rfl, a4⟩ := hf.got _ _ _ _ _ _ _ _ hn hp k1
   refine ⟨by rw [h2]; exact d1, m, rest, a1, a2, rfl, fun bs => ?_⟩
   unfold mapF
   simp only [h2, a4, Option.bind_some]
section
variable {α : Type} {D : α → Prop} {one : FSt → α → Option (FSt × α)} {zero : α}
theorem run_enc (h : Codec D one zero) : ∀ (xs : List α) (bs : List UInt8) (st' : FSt) (ys : List α), (∀ x ∈ xs, D x) → runL one (.wr bs) xs = some (st', ys) → ys = xs ∧ ∃ m : List UInt8, xs.length ≤ m.length ∧ st' = .wr (bs ++ m) ∧ (∀ bs2, runL one (.wr bs2) xs = some (.wr (bs2 ++ m), xs)) ∧
  ∀ R A n c l p rest, l.length = n → p ≤ n → l.drop p = m ++ rest → runL one (.rd R A n c l p) (List.replicate xs.length zero) = some (.rd R A n c l (p + m.length), xs) := by
 intro xs
 induction xs with
 | nil =>
  intro bs st' ys _ h1
  simp only [runL] at h1
  cases h1
  exact ⟨rfl, [], by simp, by simp, fun bs2 => by simp [runL], fun R A n c l p rest hn hp hd => by simp [runL]⟩
 | cons x xs ih =>
  intro bs st' ys hD h1
  simp only [runL] at h1
  rcases k1 : one (.wr bs) x with _ | ⟨s1, y1⟩
  ·rw [k1] at h1; cases h1
  ·obtain ⟨rfl, m, a1, rfl, a3, a4⟩ := h.enc _ _ _ _ (hD x (by simp)) k1
   simp only [k1] at h1
   rcases k2 : runL one (.wr (bs ++ m)) xs with _ | ⟨s2, y2⟩
   ·rw [k2] at h1; cases h1
   ·obtain ⟨rfl, m2, b1, rfl, b3, b4⟩ := ih _ _ _ (fun z hz => hD z (List.mem_cons_of_mem _ hz)) k2
    simp only [k2] at h1
    cases h1
    refine ⟨rfl, m ++ m2, by rw [List.length_append, List.length_cons]; omega, by rw [List.append_assoc], fun bs2 => ?_, fun R A n c l p rest hn hp hd => ?_⟩
    ·simp only [runL, a3, b3, List.append_assoc]
    ·rw [List.append_assoc] at hd
     rw [List.length_cons, List.replicate_succ]
     simp only [runL, a4 R A n c l p (m2 ++ rest) hn hp hd, b4 R A n c l (p + m.length) rest hn (drop_le hn hp hd) (drop_more hd), List.length_append, Nat.add_assoc]
theorem run_got (h : Codec D one zero) : ∀ (k : Nat) R A n c l p st' ys, l.length = n → p ≤ n → runL one (.rd R A n c l p) (List.replicate k zero) = some (st', ys) → ys.length = k ∧ (∀ x ∈ ys, D x) ∧ ∃ m rest : List UInt8, l.drop p = m ++ rest ∧ st' = .rd R A n c l (p + m.length) ∧ ∀ bs, runL one (.wr bs) ys = some (.wr (bs ++ m), ys) := by
 intro k
 induction k with
 | zero =>
  intro R A n c l p st' ys hn hp h1
  simp only [List.replicate_zero, runL] at h1
  cases h1
  exact ⟨rfl, fun x hx => by simp at hx, [], l.drop p, rfl, by simp, fun bs => by simp [runL]⟩
 | succ k ih =>
  intro R A n c l p st' ys hn hp h1
  rw [List.replicate_succ] at h1
  simp only [runL] at h1
  rcases k1 : one (.rd R A n c l p) zero with _ | ⟨s1, y1⟩
  ·rw [k1] at h1; cases h1
  ·obtain ⟨d1, m, rest, a1, a2, rfl, a4⟩ := h.got _ _ _ _ _ _ _ _ hn hp k1
   simp only [k1] at h1
   rcases k2 : runL one (.rd R A n c l (p + m.length)) (List.replicate k zero) with _ | ⟨s2, y2⟩
   ·rw [k2] at h1; cases h1
   ·obtain ⟨b0, d2, m2, rest2, b1, rfl, b4⟩ := ih _ _ _ _ _ _ _ _ hn (drop_le hn hp a1) k2
    simp only [k2] at h1
    cases h1
    rw [drop_more a1] at b1
    refine ⟨by simp [b0], ?_, m ++ m2, rest2, by rw [a1, b1, List.append_assoc], by rw [List.length_append, Nat.add_assoc], fun bs => ?_⟩
    ·intro z hz
     rcases List.mem_cons.1 hz with rfl | hz
     ·exact d1
     ·exact d2 z hz
    ·simp only [runL, a4, b4, List.append_assoc]
theorem codec_list (h : Codec D one zero) : Codec (fun xs => ∀ x ∈ xs, D x) (listF one zero) [] := by
 refine ⟨fun bs xs st' ys hD h1 => ?_, fun R A n c l p st' ys hn hp h1 => ?_⟩
 ·unfold listF at h1
  split at h1
  ·cases h1
  ·rename_i hlen
   rcases k1 : num (.wr bs) (xs.length : Int) with _ | ⟨s1, y1⟩
   ·rw [k1] at h1; cases h1
   ·obtain ⟨rfl, m, a1, rfl, a3, a4⟩ := (codec_num 0).enc _ _ _ _ trivial k1
    simp only [k1] at h1
    obtain ⟨rfl, m2, b1, rfl, b3, b4⟩ := run_enc h _ _ _ _ hD h1
    refine ⟨rfl, m ++ m2, by rw [List.length_append]; omega, by rw [List.append_assoc], fun bs2 => ?_, fun R A n c l p rest hn hp hd => ?_⟩
    ·unfold listF
     rw [if_neg hlen]
     simp only [a3, b3, List.append_assoc]
    ·rw [List.append_assoc] at hd
     have c1 := a4 R A n c l p (m2 ++ rest) hn hp hd
     have c0 : num (.rd R A n c l p) (([] : List α).length : Int) = some (.rd R A n c l (p + m.length), (ys.length : Int)) := c1
     have hle := drop_le hn hp hd
     have hle2 := drop_le hn hle (drop_more hd)
     unfold listF
     rw [if_neg (by simp)]
     simp only [c0]
     rw [if_pos ⟨by omega, by omega, by omega⟩, Int.toNat_natCast, b4 R A n c l (p + m.length) rest hn hle (drop_more hd), List.length_append, Nat.add_assoc]
 ·unfold listF at h1
  rw [if_neg (by simp)] at h1
  rcases k1 : num (.rd R A n c l p) (([] : List α).length : Int) with _ | ⟨s1, y1⟩
  ·rw [k1] at h1; cases h1
  ·obtain ⟨_, m, rest, a1, a2, rfl, a4⟩ := (codec_num _).got _ _ _ _ _ _ _ _ hn hp k1
   simp only [k1] at h1
   split at h1
   ·rename_i hk
    obtain ⟨b0, d2, m2, rest2, b1, rfl, b4⟩ := run_got h _ _ _ _ _ _ _ _ _ hn (drop_le hn hp a1) h1
    rw [drop_more a1] at b1
    refine ⟨d2, m ++ m2, rest2, by rw [a1, b1, List.append_assoc], by rw [List.length_append]; omega, by rw [List.length_append, Nat.add_assoc], fun bs => ?_⟩
    have e : (ys.length : Int) = y1 := by rw [b0]; omega
    unfold listF
    rw [if_neg (by rw [b0]; omega)]
    simp only [e, a4, b4, List.append_assoc]
   ·cases h1
end
end Go.Proofs.Ytioocaicmiggoaa
namespace Go.Proofs.Ytioocaicmiggoaa
set_option linter.unusedVariables false
set_option linter.unusedSimpArgs false
open Go.RowKit Go.Deep
theorem Codec.iff {α : Type} {D D' : α → Prop} {one : FSt → α → Option (FSt × α)} {z : α} (h : Codec D one z) (hD : ∀ x, D x ↔ D' x) : Codec D' one z := by
 have e : D = D' := funext fun x => propext (hD x)
 rw [← e]; exact h
section
variable {β : Type} {st : FSt} {f : FSt × List Int → Option β} {a b c d : Int}
theorem run1_bind : (runL num st [a]).bind f = (num st a).bind fun p => f (p.1, [p.2]) := by
 simp only [runL]
 rcases num st a with _ | ⟨s, x⟩ <;> rfl
theorem run2_bind : (runL num st [a, b]).bind f = (num st a).bind fun p => (num p.1 b).bind fun q => f (q.1, [p.2, q.2]) := by
 simp only [runL]
 rcases num st a with _ | ⟨s, x⟩
 ·rfl
 ·simp only [Option.bind_some]
  rcases num s b with _ | ⟨s2, y⟩ <;> rfl
theorem run3_bind : (runL num st [a, b, c]).bind f = (num st a).bind fun p => (num p.1 b).bind fun q => (num q.1 c).bind fun r => f (r.1, [p.2, q.2, r.2]) := by
 simp only [runL]
 rcases num st a with _ | ⟨s, x⟩
 ·rfl
 ·simp only [Option.bind_some]
  rcases num s b with _ | ⟨s2, y⟩
  ·rfl
  ·simp only [Option.bind_some]
   rcases num s2 c with _ | ⟨s3, z⟩ <;> rfl
theorem run4_bind : (runL num st [a, b, c, d]).bind f = (num st a).bind fun p => (num p.1 b).bind fun q => (num q.1 c).bind fun r => (num r.1 d).bind fun u => f (u.1, [p.2, q.2, r.2, u.2]) := by
 simp only [runL]
 rcases num st a with _ | ⟨s, x⟩
 ·rfl
 ·simp only [Option.bind_some]
  rcases num s b with _ | ⟨s2, y⟩
  ·rfl
  ·simp only [Option.bind_some]
   rcases num s2 c with _ | ⟨s3, z⟩
   ·rfl
   ·simp only [Option.bind_some]
    rcases num s3 d with _ | ⟨s4, u⟩ <;> rfl
end
theorem codec_int : Codec Any intF 0 := by
 refine Codec.congr (G := num) (fun st x => ?_) (codec_num 0)
 unfold intF
 rw [run1_bind]
 rcases num st x with _ | ⟨s, y⟩ <;> rfl
theorem codec_stop : Codec Any stopF zStop := by
 have h := codec_map (codec_pair (codec_num 0) (codec_num 0)) (fun x : TStop => (x.ty, x.gd)) (fun p => ⟨p.1, p.2⟩) zStop (fun _ => rfl) (fun _ => rfl) rfl
 refine (Codec.congr (fun st x => ?_) h).iff fun x => ⟨fun _ => trivial, fun _ => ⟨trivial, trivial⟩⟩
 simp only [stopF, run2_bind, mapF, pairF, Option.bind_assoc, Option.bind_some, List.getD_cons_zero, List.getD_cons_succ]
theorem codec_inp : Codec Any inpF zInp := by
 have h := codec_map (codec_pair (codec_num 0) (codec_pair (codec_num 0) (codec_pair (codec_num 0) (codec_num 0)))) (fun x : TInp => (x.op, x.kind, x.pos, x.attr)) (fun p => ⟨p.1, p.2.1, p.2.2.1, p.2.2.2⟩) zInp (fun _ => rfl) (fun _ => rfl) rfl
 refine (Codec.congr (fun st x => ?_) h).iff fun x => ⟨fun _ => trivial, fun _ => ⟨trivial, trivial, trivial, trivial⟩⟩
 simp only [inpF, run4_bind, mapF, pairF, Option.bind_assoc, Option.bind_some, List.getD_cons_zero, List.getD_cons_succ]
theorem codec_ins : Codec Any insF zIns := by
 have h := codec_map (codec_pair (codec_num 0) (codec_pair (codec_num 0) (codec_pair (codec_num 0) (codec_num 0)))) (fun x : TIns => (x.op, x.dst, x.a, x.b)) (fun p => ⟨p.1, p.2.1, p.2.2.1, p.2.2.2⟩) zIns (fun _ => rfl) (fun _ => rfl) rfl
 refine (Codec.congr (fun st x => ?_) h).iff fun x => ⟨fun _ => trivial, fun _ => ⟨trivial, trivial, trivial, trivial⟩⟩
 simp only [insF, run4_bind, mapF, pairF, Option.bind_assoc, Option.bind_some, List.getD_cons_zero, List.getD_cons_succ]
def ValD (x : TVal) : Prop := U64 x.bits
theorem codec_val : Codec ValD valF zVal := by
 have h := codec_map (codec_pair (codec_num 0) (codec_bits 0)) (fun x : TVal => (x.kind, x.bits)) (fun p => ⟨p.1, p.2⟩) zVal (fun _ => rfl) (fun _ => rfl) rfl
 refine (Codec.congr (fun st x => ?_) h).iff fun x => ⟨fun h => h.2, fun h => ⟨trivial, h⟩⟩
 simp only [valF, run1_bind, mapF, pairF, Option.bind_assoc, Option.bind_some, List.getD_cons_zero, List.getD_cons_succ]
theorem codec_tail : Codec Any tailF zTail := by
 have h := codec_map (codec_pair (codec_num 0) (codec_pair (codec_num 0) (codec_list codec_stop))) (fun x : TTail => (x.br, x.cl, x.bars)) (fun p => ⟨p.1, p.2.1, p.2.2⟩) zTail (fun _ => rfl) (fun _ => rfl) rfl
 refine (Codec.congr (fun st x => ?_) h).iff fun x => ⟨fun _ => trivial, fun _ => ⟨trivial, trivial, fun _ _ => trivial⟩⟩
 simp only [tailF, run2_bind, mapF, pairF, Option.bind_assoc, Option.bind_some, List.getD_cons_zero, List.getD_cons_succ]
theorem codec_row : Codec Any rowF zRow := by
 have h := codec_map (codec_pair (codec_num 0) (codec_pair (codec_num 0) (codec_pair codec_flag (codec_pair (codec_num 0) (codec_pair (codec_list codec_stop) (codec_pair (codec_num 0) (codec_pair (codec_num 0) (codec_list codec_tail)))))))) (fun x : TRow => (x.par, x.ty, x.many, x.win, x.bars, x.leave, x.guard, x.ends)) (fun p => ⟨p.1, p.2.1, p.2.2.1, p.2.2.2.1, p.2.2.2.2.1, p.2.2.2.2.2.1, p.2.2.2.2.2.2.1, p.2.2.2.2.2.2.2⟩) zRow (fun _ => rfl) (fun _ => rfl) rfl
 refine (Codec.congr (fun st x => ?_) h).iff fun x => ⟨fun _ => trivial, fun _ => ⟨trivial, trivial, trivial, trivial, fun _ _ => trivial, trivial, trivial, fun _ _ => trivial⟩⟩
 simp only [rowF, run2_bind, mapF, pairF, Option.bind_assoc, Option.bind_some, List.getD_cons_zero, List.getD_cons_succ]
def CodeD (x : TCode) : Prop := ∀ v ∈ x.consts, ValD v
theorem codec_code : Codec CodeD codeF zCode := by
 have h := codec_map (codec_pair (codec_num 0) (codec_pair (codec_num 0) (codec_pair (codec_list codec_inp) (codec_pair (codec_list codec_val) (codec_list codec_ins))))) (fun x : TCode => (x.regs, x.slots, x.inputs, x.consts, x.list)) (fun p => ⟨p.1, p.2.1, p.2.2.1, p.2.2.2.1, p.2.2.2.2⟩) zCode (fun _ => rfl) (fun _ => rfl) rfl
 refine (Codec.congr (fun st x => ?_) h).iff fun x => ⟨fun h => h.2.2.2.1, fun h => ⟨trivial, trivial, fun _ _ => trivial, h, fun _ _ => trivial⟩⟩
 simp only [codeF, run2_bind, mapF, pairF, Option.bind_assoc, Option.bind_some, List.getD_cons_zero, List.getD_cons_succ]
def TabD (x : TTab) : Prop := ∀ c ∈ x.codes, CodeD c
theorem codec_tab : Codec TabD tabF zTab := by
 have h := codec_map (codec_pair (codec_num 0) (codec_pair (codec_list codec_int) (codec_pair (codec_list (codec_list codec_int)) (codec_pair (codec_num 0) (codec_pair (codec_num 0) (codec_pair (codec_num 0) (codec_pair (codec_list codec_row) (codec_list codec_code)))))))) (fun x : TTab => (x.strategy, x.keys, x.kinds, x.syms, x.runs, x.cells, x.states, x.codes)) (fun p => ⟨p.1, p.2.1, p.2.2.1, p.2.2.2.1, p.2.2.2.2.1, p.2.2.2.2.2.1, p.2.2.2.2.2.2.1, p.2.2.2.2.2.2.2⟩) zTab (fun _ => rfl) (fun _ => rfl) rfl
 refine (Codec.congr (fun st x => ?_) h).iff fun x => ⟨fun h => h.2.2.2.2.2.2.2, fun h => ⟨trivial, fun _ _ => trivial, fun _ _ _ _ => trivial, trivial, trivial, trivial, fun _ _ => trivial, h⟩⟩
 simp only [tabF, run1_bind, run3_bind, mapF, pairF, Option.bind_assoc, Option.bind_some, List.getD_cons_zero, List.getD_cons_succ]
end Go.Proofs.Ytioocaicmiggoaa
namespace Go.Proofs.Ytioocaicmiggoaa
set_option linter.unusedVariables false
open Go.RowKit Go.Deep
def magicB : List UInt8 := [65, 85, 83, 80]
def sumBy (l : List UInt8) : List UInt8 := [(crc (nums l) % 256).toUInt8, (crc (nums l) / 256 % 256).toUInt8, (crc (nums l) / 65536 % 256).toUInt8, (crc (nums l) / 16777216 % 256).toUInt8]
theorem crc_lt (l : List UInt8) : crc (nums l) < 4294967296 := by
 unfold crc
 exact Nat.xor_lt_two_pow (n := 32) (crcF_lt _ _ (by decide) (nums_lt l)) (by decide)
theorem sumBy_bv (l : List UInt8) : bv (sumBy l) = [.int .u8 ((crc (nums l) % 256 : Nat) : Int), .int .u8 ((crc (nums l) / 256 % 256 : Nat) : Int), .int .u8 ((crc (nums l) / 65536 % 256 : Nat) : Int), .int .u8 ((crc (nums l) / 16777216 % 256 : Nat) : Int)] := by
 unfold bv sumBy
 simp only [List.map]
 rw [toU8 _ (by omega), toU8 _ (by omega), toU8 _ (by omega), toU8 _ (by omega)]
theorem OwnB.reads {B : Nat} {w : World} {A : Option Addr} {n c : Nat} {l : List UInt8} (h : OwnB B w (.slice A n c) l) (hn : n = l.length) : Reads w w.heap.size 1 A n (bv l) := by
 subst hn
 rcases h with h | ⟨g, fz, hv, h1, h2, h3, h4⟩
 ·exact Reads.of_own h
 ·injection hv with hv _ _
  subst hv
  refine ⟨by rw [bv_len]; omega, fun _ => ⟨_, rfl, (Array.getElem?_eq_some_iff.1 h3).1, fun j u hu => ?_⟩⟩
  rw [Go.WideShapes.add_plain, Nat.zero_add, cell_of_row w g j _ _ _ h3]
  simpa using hu
theorem wpList_append_b {w : World} {ops : Array Oper} {rest : List Oper} {o : Oper} {a : Act} {Q : Exit → Act → World → Prop} (hgd : o.guard = none) (s x : Operand) (t : TypeId)
  (ho : o.op = .call { callee := .builtin .append, args := #[s, x], argTypes := #[t, t] }) {B : Nat} {v : Value} {l : List UInt8} (i : TypeInfo) (ht : Try.prog.underlying t = some (.slice 5)) (hi : Try.prog.info? 5 = some i) (hz : i.zero = some (.int .u8 0)) (hsize : i.size = 1) (hby : i.bytes = 1)
  (hs : a.eval s = v) (hown : OwnB B w v l) (Br : Nat) (A : Option Addr) (m c : Nat) (news : List UInt8) (hx : a.eval x = .slice A m c) (hr : Reads w Br 1 A m (bv news)) (hm : 1 ≤ m) (hlen : l.length + m ≤ 70368744177664) (hbase : B ≤ w.heap.size) (N : Nat) (hN : l.length + m = N)
  (h : ∀ v' w', w'.ownsRow B 5 1 v' N (bv l ++ bv news) → w.grownBy w' v.ownBlock → wpList Try.prog ops Q rest (a.put o.dst v') w') : wpList Try.prog ops Q (o :: rest) a w :=
 wpList_plain hgd fun K hK => by
  subst hN
  obtain ⟨v', w', hrun, h2, h3⟩ := run_append_b t o.type i ht hi hz hsize hby hown Br A m c news hr hm hlen hbase
  unfold Oper.wp execOp
  simp only [ho, resolve, invoke, builtin, Sem.run_bind, Sem.run_pure, Result.andThen_ok, List.map_toArray, List.map_cons, List.map_nil, hs, hx, hrun]
  exact hK _ _ (h v' w' h2 h3)
def Img (y : TTab) (m : List UInt8) : Prop := TabD y ∧ tabF (.wr []) y = some (.wr m, y)
theorem Img.enc {y : TTab} {m : List UInt8} (h : Img y m) (bs : List UInt8) : tabF (.wr bs) y = some (.wr (bs ++ m), y) := by
 obtain ⟨_, m', _, h2, h3, _⟩ := codec_tab.enc _ _ _ _ h.1 h.2
 simp only [List.nil_append] at h2
 cases h2
 exact h3 bs
theorem Img.par {y : TTab} {m : List UInt8} (h : Img y m) (R : Nat) (A : Option Addr) (n c : Nat) (l : List UInt8) (p : Nat) (rest : List UInt8) (hn : l.length = n) (hp : p ≤ n) (hd : l.drop p = m ++ rest) : tabF (.rd R A n c l p) zTab = some (.rd R A n c l (p + m.length), y) := by
 obtain ⟨_, m', _, h2, _, h4⟩ := codec_tab.enc _ _ _ _ h.1 h.2
 simp only [List.nil_append] at h2
 cases h2
 exact h4 R A n c l p rest hn hp hd
theorem img_got {R : Nat} {A : Option Addr} {n c : Nat} {l : List UInt8} {p : Nat} {st' : FSt} {y : TTab} (hn : l.length = n) (hp : p ≤ n) (h : tabF (.rd R A n c l p) zTab = some (st', y)) : ∃ m rest, l.drop p = m ++ rest ∧ Img y m ∧ st' = .rd R A n c l (p + m.length) := by
 obtain ⟨hD, m, rest, h1, _, h3, h4⟩ := codec_tab.got _ _ _ _ _ _ _ _ hn hp h
 exact ⟨m, rest, h1, ⟨hD, by simpa using h4 []⟩, h3⟩
theorem Img.pos {y : TTab} {m : List UInt8} (h : Img y m) : 1 ≤ m.length := by
 obtain ⟨_, m', h1, h2, _⟩ := codec_tab.enc _ _ _ _ h.1 h.2
 simp only [List.nil_append] at h2
 cases h2
 exact h1
theorem Img.begin {y z : TTab} {m rest : List UInt8} (h : Img y m) (k : Img z (m ++ rest)) : rest = [] ∧ y = z := by
 have h1 := h.par 0 none (m ++ rest).length 0 (m ++ rest) 0 rest rfl (Nat.zero_le _) rfl
 have h2 := k.par 0 none (m ++ rest).length 0 (m ++ rest) 0 [] rfl (Nat.zero_le _) (by simp)
 rw [h1] at h2
 simp only [Option.some.injEq, Prod.mk.injEq, FSt.rd.injEq, true_and, Nat.zero_add, List.length_append] at h2
 obtain ⟨h3, h4⟩ := h2
 exact ⟨List.eq_nil_of_length_eq_zero (by omega), h4⟩
def IsImg (y : TTab) (b : List UInt8) : Prop := ∃ m, Img y m ∧ b = magicB ++ m ++ sumBy (magicB ++ m) ∧ b.length ≤ 65536
def decErr (b : List UInt8) : Int := if 65536 < b.length then 2 else if b.length < 8 then 30 else if b.take 4 ≠ magicB then 32 else if b.drop (b.length - 4) ≠ sumBy (b.take (b.length - 4)) then 31 else 32
end Go.Proofs.Ytioocaicmiggoaa
namespace Go.Proofs.Ytioocaicmiggoaa
set_option linter.unusedVariables false
set_option linter.unusedSimpArgs false
open Go.RowKit Go.Deep
set_option maxRecDepth 100000 in
set_option maxHeartbeats 2000000 in
theorem thrown_stop (E : Nat) (ec : Int) (x0 : Value) (older : List PanicEntry) (w : World) (h0 : w.cell? ⟨E, 0, none⟩ = some x0) (f0 : w.frozen? ⟨E, 0, none⟩ = false) :
  CallsD Try.prog 67 #[.pointer (some ⟨E, 0, none⟩)] (.panicking ({ v := .iface 136 (.agg #[.int .i64 ec]), recovered := false } :: older)) w fun e u' w' =>
   e = .returned (.tuple #[]) ∧ u' = .panicking ({ v := .iface 136 (.agg #[.int .i64 ec]), recovered := true } :: older) ∧ w' = (w.alloc (.cells #[.int .i64 ec] 136)).setCell ⟨E, 0, none⟩ (.int .i64 ec) := by
 have hta : ∀ W, (Instr.typeAssert (.iface 136 (.agg #[.int .i64 ec])) 20 136 true).run Try.prog W = .ok (.tuple #[.agg #[.int .i64 ec], .bool true]) W := fun _ => by kernel_rfl
 have h0' : ∀ o, (w.alloc o).cell? ⟨E, 0, none⟩ = some x0 := fun o => (World.cell?_alloc_lt w o _ (World.block_lt_of_cell? w _ h0)).trans h0
 have f0' : ∀ o, (w.alloc o).frozen? ⟨E, 0, none⟩ = false := fun o => by
  have hb := World.block_lt_of_cell? w _ h0
  rw [World.frozen?_of_block (Below.heap_alloc w o E hb)]; exact f0
 refine callsD_of_wpS Try.func67 rfl fun c₀ cs hu => ?_
 apply wpS_seq
 apply wpS_region
 simp [wpOpsS, go_sem, recoverD, hu, Try.ntmps67, Exit.thenS]
 refine wpS_of_wp ?_
 rw [show (#[Value.pointer (some ⟨E, 0, none⟩)] ++ ((Array.replicate 19 undef).setIfInBounds 4 (Value.iface 136 (.agg #[.int .i64 ec]))).setIfInBounds 1 (Value.iface 136 (.agg #[.int .i64 ec]))) = #[.pointer (some ⟨E, 0, none⟩), undef, .iface 136 (.agg #[.int .i64 ec]), undef, undef, .iface 136 (.agg #[.int .i64 ec]), undef, undef, undef, undef, undef, undef, undef, undef, undef, undef, undef, undef, undef, undef] from rfl]
 go_wp2_with fail
 exact ⟨rfl, _, rfl, _, results_none rfl _ _ _, rfl, rfl, rfl⟩
set_option maxRecDepth 100000 in
set_option maxHeartbeats 2000000 in
theorem thrown_idle (p : Addr) (w : World) : CallsD Try.prog 67 #[.pointer (some p)] .returning w fun e u' w' => e = .returned (.tuple #[]) ∧ u' = .returning ∧ w' = w := by
 refine callsD_of_wpS Try.func67 rfl fun c₀ cs hu => ?_
 apply wpS_seq
 apply wpS_region
 simp [wpOpsS, go_sem, recoverD, hu, Try.ntmps67, Exit.thenS]
 refine wpS_of_wp ?_
 rw [show (#[Value.pointer (some p)] ++ ((Array.replicate 19 undef).setIfInBounds 4 Value.nilIface).setIfInBounds 1 Value.nilIface) = #[.pointer (some p), undef, .nilIface, undef, undef, .nilIface, undef, undef, undef, undef, undef, undef, undef, undef, undef, undef, undef, undef, undef, undef] from rfl]
 go_wp2_with fail
 cases c₀
 simp_all [bodyPostS, results, Try.results67]
end Go.Proofs.Ytioocaicmiggoaa
namespace Go.Proofs.Ytioocaicmiggoaa
set_option linter.unusedVariables false
set_option linter.unusedSimpArgs false
open Go.RowKit
theorem stpN_eight (x : Nat) : stpN 8 x = stp8 x := rfl
theorem step_odd (x : Nat) (h : x < 4294967296) (hp : x % 2 = 1) : bits BinOp.xor IntKind.u32 ((x : Int) / 2) 3988292384 = (stp x : Int) := xor_step x h hp
theorem step_even (x : Nat) (hp : x % 2 = 0) : ((x : Int) / 2) = (stp x : Int) := by unfold stp; rw [if_neg (by omega)]; omega
set_option maxHeartbeats 1000000 in
theorem rsum_any (A : Option Addr) (n c B : Nat) (l : List UInt8) (w : World) (hn : l.length = n) (hc : n ≤ c) (hm : c ≤ 9223372036854775807) (hR : Reads w B 1 A n (bv l)) :
  Calls Try.prog 61 #[.slice A n c] w fun e w' => e = .returned (.int .u32 (crc (nums l))) ∧ w = w' := by
 rcases Nat.eq_zero_or_pos n with h0 | h0
 ·subst h0
  obtain rfl : l = [] := List.eq_nil_of_length_eq_zero hn
  clear hR hn
  go_enter Try.func61, Try.ntmps61
  go_wp2_with fail
  refine wp_loop_rounds 1 ?_
  rw [rounds_succ]
  go_wp2
  go_ret
  exact ⟨ret_u32 (by decide), rfl⟩
 ·obtain ⟨b, off, rfl, hb, hcell⟩ := hR.shape h0
  have HC := Lib.hid hcell
  have HN := Lib.hid hn
  clear hcell hR
  have hl : n ≤ l.length := by omega
  have hl2 : l.length ≤ n := by omega
  clear hn
  go_enter Try.func61, Try.ntmps61
  go_wp2_with fail
  go_loop [3, 9] (fun x i => ∃ j X : Nat, j ≤ n ∧ Hid (X = crcTo l j) ∧ X < 4294967296 ∧ x = .int .u32 X ∧ i = .int .i64 j) (fun _ i => n - (intOf i).toNat)
  case atStart => exact ⟨0, ones, by omega, rfl, by decide, rfl, rfl⟩
  case round =>
   obtain ⟨j, X, hj, hX, hX2, rfl, rfl⟩ := hrel
   by_cases hlt : j < n
   ·obtain ⟨C, hC⟩ : ∃ C, C = (l[j]'(by omega)).toNat := ⟨_, rfl⟩
    have hC2 : C < 256 := by rw [hC]; exact UInt8.toNat_lt _
    have hcj : w.cell? ⟨b, off + j, none⟩ = some (.int .u8 C) := by rw [HC.out j _ (bv_get l j (by omega)), hC]
    have S := Lib.hid (crcTo_succ l j (by omega))
    rw [← hC] at S
    have x1 := xor_byte X C hX2 hC2
    obtain ⟨Y, hY⟩ : ∃ Y, X ^^^ C = Y := ⟨_, rfl⟩
    have hY2 : Y < 4294967296 := by rw [← hY]; exact Nat.xor_lt_two_pow (n := 32) hX2 (by omega)
    rw [hY] at x1
    have HY := Lib.hid hY
    clear hY hC
    go_wp2_with fail
    go_loop [3, 6] (fun x i => ∃ k Z : Nat, k ≤ 8 ∧ Hid (Z = stpN k Y) ∧ Z < 4294967296 ∧ x = .int .u32 Z ∧ i = .int .i64 k) (fun _ i => 8 - (intOf i).toNat)
    case atStart => exact ⟨0, Y, by omega, rfl, hY2, rfl, rfl⟩
    case round =>
     obtain ⟨k, Z, hk, hZ, hZ2, rfl, rfl⟩ := hrel
     have hb2 := stp_lt Z hZ2
     by_cases hl8 : k < 8
     ·rcases Nat.mod_two_eq_zero_or_one Z with hp | hp
      ·have e1 := step_even Z hp
       have ht : ((Z : Int) % 2 == 1) = false := by rw [beq_eq_false_iff_ne]; omega
       clear hp
       go_wp2_with fail
       go_round
       case rel => exact ⟨k + 1, stp Z, by omega, (congrArg stp hZ.out : stp Z = stpN (k + 1) Y), hb2, rfl, by go_num⟩
       case measure => simp [intOf]; omega
      ·have e1 := step_odd Z hZ2 hp
       have ht : ((Z : Int) % 2 == 1) = true := by rw [beq_iff_eq]; omega
       clear hp
       go_wp2_with fail
       go_round
       case rel => exact ⟨k + 1, stp Z, by omega, (congrArg stp hZ.out : stp Z = stpN (k + 1) Y), hb2, rfl, by go_num⟩
       case measure => simp [intOf]; omega
     ·obtain rfl : k = 8 := by omega
      have fin : Z = crcTo l (j + 1) := by rw [S.out, ← hX.out, hZ.out, stpN_eight]; unfold crcS; rw [HY.out]
      have Fin := Lib.hid fin
      clear fin
      go_wp2_with fail
      go_round
      case rel => exact ⟨j + 1, Z, by omega, Fin.out, hZ2, rfl, by go_num⟩
      case measure => simp [intOf]; omega
   ·obtain rfl : j = n := by omega
    have x1 := xor_ones X hX2
    go_wp2
    go_ret
    exact ⟨ret_u32 (by rw [← crcTo_all, HN.out, ← hX.out]), rfl⟩
end Go.Proofs.Ytioocaicmiggoaa

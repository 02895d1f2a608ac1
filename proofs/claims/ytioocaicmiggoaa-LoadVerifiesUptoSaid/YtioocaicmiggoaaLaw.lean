/-
  The walk of awake.
-/
import Derived.Test.YtioocaicmiggoaaLve
import Derived.Test.YtioocaicmiggoaaLsm
namespace Go.Proofs.Ytioocaicmiggoaa
set_option linter.unusedVariables false
set_option linter.unusedSimpArgs false
open Go.RowKit Go.Deep Go.Maps

theorem awake_any (w : World) : Calls Try.prog 8 #[] w (BoolP w true) := by
  have C1 := Lib.hid (fun W => small_any true W)
  have C2 := Lib.hid (fun W => small_any false W)
  have V1 : Hid (∀ vk vkk vs vc W, TabX W (smallT true) vk vkk vs vc → Calls Try.prog 10 #[.agg #[.int .i64 3, vk, vkk, .int .i64 0, .int .i64 1, .int .i64 1, vs, vc]] W (VerP W true)) := Lib.hid (fun vk vkk vs vc W h => by have := verify_any (smallT true) vk vkk vs vc W h; rw [small_yes] at this; exact this)
  have V2 : Hid (∀ vk vkk vs vc W, TabX W (smallT false) vk vkk vs vc → Calls Try.prog 10 #[.agg #[.int .i64 3, vk, vkk, .int .i64 0, .int .i64 1, .int .i64 1, vs, vc]] W (VerP W false)) := Lib.hid (fun vk vkk vs vc W h => by have := verify_any (smallT false) vk vkk vs vc W h; rw [small_no] at this; exact this)
  have P1 : Hid (∀ vk vkk vs vc W, TabX W (smallT true) vk vkk vs vc → Calls Try.prog 13 #[.agg #[.int .i64 3, vk, vkk, .int .i64 0, .int .i64 1, .int .i64 1, vs, vc], .int .i64 0] W (PathP W (pathT (smallT true).states 0))) := Lib.hid (fun vk vkk vs vc W h => path_any (smallT true) vk vkk vs vc (by decide) 0 W h)
  go_enter Try.func8, Try.ntmps8
  go_wp2_with fail
  refine (C1.out _).mono ?_
  rintro e w1 ⟨vk, vkk, vs, vc, rfl, hx, hb1, _⟩
  have HX := Lib.hid hx
  have HB1 := Lib.hid hb1
  clear hx hb1
  go_wp2_with fail
  refine (V1.out _ _ _ _ _ HX.out).mono ?_
  rintro e w2 ⟨rfl, hb2⟩
  have HB2 := Lib.hid (HB1.out.trans (hb2.mono HB1.out.size))
  clear hb2 HX HB1
  go_wp2_with fail
  refine (C2.out _).mono ?_
  rintro e w3 ⟨vk, vkk, vs, vc, rfl, hx, hb3, _⟩
  have HX := Lib.hid hx
  have HB3 := Lib.hid (HB2.out.trans (hb3.mono HB2.out.size))
  clear hx hb3 HB2
  go_wp2_with fail
  refine (V2.out _ _ _ _ _ HX.out).mono ?_
  rintro e w4 ⟨rfl, hb4⟩
  have HB4 := Lib.hid (HB3.out.trans (hb4.mono HB3.out.size))
  clear hb4 HX HB3
  go_wp2_with fail
  refine (C1.out _).mono ?_
  rintro e w5 ⟨vk, vkk, vs, vc, rfl, hx, hb5, _⟩
  have HX := Lib.hid hx
  have HB5 := Lib.hid (HB4.out.trans (hb5.mono HB4.out.size))
  clear hx hb5 HB4
  go_wp2_with fail
  refine (P1.out _ _ _ _ _ HX.out).mono ?_
  rintro e w6 ⟨v, rfl, ho, hb6⟩
  obtain ⟨A9, c9, rfl⟩ := own_slice ho
  have HB6 := Lib.hid (HB5.out.trans (hb6.mono HB5.out.size))
  rw [small_path]
  clear ho hb6 HX HB5
  go_wp2_with fail
  go_ret
  exact ⟨rfl, HB6.out⟩
end Go.Proofs.Ytioocaicmiggoaa

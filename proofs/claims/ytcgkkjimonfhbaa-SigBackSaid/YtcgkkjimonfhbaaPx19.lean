/- Go functions that the laws of this seat reach, each as a Lean function, and a proof that a call of the Go code comes to its answers; written by a program (the kit's print, turned in a few places). Conditions: each theorem's own premises. -/
import Derived.Test.YtcgkkjimonfhbaaPx0
import Derived.Test.YtcgkkjimonfhbaaPx4
import Derived.Test.YtcgkkjimonfhbaaPx6
import Derived.Test.YtcgkkjimonfhbaaPx9
import Derived.Test.YtcgkkjimonfhbaaPx13
import Derived.Test.YtcgkkjimonfhbaaPx18
import Derived.Test.YtcgkkjimonfhbaaGGet
import Derived.Test.YtcgkkjimonfhbaaGRight
namespace Go.Proofs.Ytcgkkjimonfhbaa.P
open Go.RowKit Go.Proofs.YtcgkkjimonfhbaaW.PrintWords Go.Proofs.YtcgkkjimonfhbaaW.PrintLast Go.Proofs.YtcgkkjimonfhbaaW.PrintMore
attribute [local go_sem] max2_int min2_int max_two min_two max_three min_three max_four min_four   -- for this text's walks alone
set_option linter.unusedVariables false
set_option linter.unusedSimpArgs false

/-! ### phaetonlaw15_SigBack: function 4 -/
def phaetonlaw15_SigBack.j0 : Nat → List Int → Int → Bool → List Int → Bool → Bool → Int → Int → Bool → Bool → Int → Int → Option (Bool)
  | 0, _, _, _, _, _, _, _, _, _, _, _, _ => none
  | k + 1, x1, x2, x7, x8, x9, x84, x339000, x339001, x339002, x339003, x339004, x339005 => if x84 = true then (none) else (if x9 = true then ((sig_Get.f x8 x339000 x339001 x339002 x339003 x339004 x339005).bind fun bt358 => (if bt358.1 = x2 then (if bt358.2 = true then (if (x8.length : Int) = (x1.length : Int) then (some x7) else (none)) else (none)) else (none))) else (if (x8.length : Int) = 0 then (some x7) else (none)))
def phaetonlaw15_SigBack.f (k : Nat) (a0_0 : Int) (a0_1 : Int) (a0_2 : Bool) (a0_3 : Bool) (a0_4 : Int) (a0_5 : Int) (l1 : List Int) (a2 : Int) : Option (Bool) := (phaetonlaw15_head.f k).bind fun t339 => ((phaetonlaw15_data.f l1).bind fun t340 => ((sig_Put.f k t340 a0_0 a0_1 a0_2 a0_3 a0_4 a0_5 a2).bind fun bt343 => ((sig_Right.f a0_0 a0_1 a0_2 a0_3 a0_4 a0_5 (t340.length : Int)).bind fun t347 => (if t347 = true then ((sig_Get.f t340 a0_0 a0_1 a0_2 a0_3 a0_4 a0_5).bind fun bt350 => ((sig_Put.f k t340 a0_0 a0_1 a0_2 a0_3 a0_4 a0_5 bt350.1).bind fun bt352 => (if bt350.2 = true then (if bt352.2 = true then ((phaetonref15_Bytes.f k bt352.1 t340).bind fun t356 => (if t356 = true then ((phaetonref15_Fits.f k a0_0 a0_1 a0_2 a0_3 a0_4 a0_5 a2).bind fun t357 => (phaetonlaw15_SigBack.j0 k t340 a2 t339 bt343.1 bt343.2 (bt343.2 != t357) a0_0 a0_1 a0_2 a0_3 a0_4 a0_5)) else (phaetonlaw15_SigBack.j0 k t340 a2 t339 bt343.1 bt343.2 true a0_0 a0_1 a0_2 a0_3 a0_4 a0_5))) else (phaetonlaw15_SigBack.j0 k t340 a2 t339 bt343.1 bt343.2 true a0_0 a0_1 a0_2 a0_3 a0_4 a0_5)) else (phaetonlaw15_SigBack.j0 k t340 a2 t339 bt343.1 bt343.2 true a0_0 a0_1 a0_2 a0_3 a0_4 a0_5)))) else ((sig_Get.f t340 a0_0 a0_1 a0_2 a0_3 a0_4 a0_5).bind fun bt348 => (if bt343.2 = true then (none) else (if bt348.2 = true then (none) else (if (bt343.1.length : Int) = 0 then (some t339) else (none)))))))))
theorem phaetonlaw15_SigBack.mono_l : ∀ k, (∀ y0 y1 y2 y3 y4 y5 y6 y7 y8 y9 y10 y11, LeO (phaetonlaw15_SigBack.j0 k y0 y1 y2 y3 y4 y5 y6 y7 y8 y9 y10 y11) (phaetonlaw15_SigBack.j0 (k + 1) y0 y1 y2 y3 y4 y5 y6 y7 y8 y9 y10 y11))
  | 0 => fun _ _ _ _ _ _ _ _ _ _ _ _ r h => by simp [phaetonlaw15_SigBack.j0] at h
  | k + 1 => by
    have ih0 := phaetonlaw15_SigBack.mono_l k
    · intro y0 y1 y2 y3 y4 y5 y6 y7 y8 y9 y10 y11
      unfold phaetonlaw15_SigBack.j0
      repeat' first
      | (with_reducible exact ih0 _ _ _ _ _ _ _ _ _ _ _ _)
      | (with_reducible exact phaetonlaw15_head.mono _)
      | (with_reducible exact phaetonref15_Bytes.mono _ _ _)
      | (with_reducible exact phaetonref15_Fits.mono _ _ _ _ _ _ _ _)
      | (with_reducible exact sig_Put.mono _ _ _ _ _ _ _ _ _)
      | (with_reducible exact LeO.refl _)
      | (with_reducible exact LeO.none _)
      | (with_reducible refine LeO.ite ?_ ?_)
      | (with_reducible refine LeO.bind ?_ (fun _ => ?_))
      | exact ih0 _ _ _ _ _ _ _ _ _ _ _ _
      | exact phaetonlaw15_head.mono _
      | exact phaetonref15_Bytes.mono _ _ _
      | exact phaetonref15_Fits.mono _ _ _ _ _ _ _ _
      | exact sig_Put.mono _ _ _ _ _ _ _ _ _
      | exact LeO.none _
      | refine LeO.ite ?_ ?_
      | refine LeO.bind ?_ (fun _ => ?_)
theorem phaetonlaw15_SigBack.mono : ∀ a0 a1 a2 a3 a4 a5 a6 a7 k, LeO (phaetonlaw15_SigBack.f k a0 a1 a2 a3 a4 a5 a6 a7) (phaetonlaw15_SigBack.f (k + 1) a0 a1 a2 a3 a4 a5 a6 a7) := by
  intro a0 a1 a2 a3 a4 a5 a6 a7 k
  have ih0 := phaetonlaw15_SigBack.mono_l k
  unfold phaetonlaw15_SigBack.f
  repeat' first
      | (with_reducible exact ih0 _ _ _ _ _ _ _ _ _ _ _ _)
      | (with_reducible exact phaetonlaw15_head.mono _)
      | (with_reducible exact phaetonref15_Bytes.mono _ _ _)
      | (with_reducible exact phaetonref15_Fits.mono _ _ _ _ _ _ _ _)
      | (with_reducible exact sig_Put.mono _ _ _ _ _ _ _ _ _)
      | (with_reducible exact LeO.refl _)
      | (with_reducible exact LeO.none _)
      | (with_reducible refine LeO.ite ?_ ?_)
      | (with_reducible refine LeO.bind ?_ (fun _ => ?_))
      | exact ih0 _ _ _ _ _ _ _ _ _ _ _ _
      | exact phaetonlaw15_head.mono _
      | exact phaetonref15_Bytes.mono _ _ _
      | exact phaetonref15_Fits.mono _ _ _ _ _ _ _ _
      | exact sig_Put.mono _ _ _ _ _ _ _ _ _
      | exact LeO.none _
      | refine LeO.ite ?_ ?_
      | refine LeO.bind ?_ (fun _ => ?_)
set_option maxHeartbeats 8000000 in
set_option maxRecDepth 100000 in
theorem phaetonlaw15_SigBack.calls (k : Nat) (a0_0 : Int) (a0_1 : Int) (a0_2 : Bool) (a0_3 : Bool) (a0_4 : Int) (a0_5 : Int) (A1 : Option Addr) (c1 : Nat) (l1 : List Int) (a2 : Int) (r : Bool) (w : World) (hr1 : Kd.C (Kd.int .u8) w A1 l1.length l1) (hc1 : l1.length ≤ c1) (h : phaetonlaw15_SigBack.f k a0_0 a0_1 a0_2 a0_3 a0_4 a0_5 l1 a2 = some r) :
    Calls Try.prog 4 #[.agg #[.int .i64 a0_0, .int .i64 a0_1, .bool a0_2, .bool a0_3, .int .i64 a0_4, .int .i64 a0_5], .slice A1 l1.length c1, .int .i64 a2] w fun e w' => e = .returned (.bool r) ∧ Below w.heap.size w w' := by
  have hu23 := Try.underlying23
  have HR1 := Aside0.mk hr1
  have HC1 := Aside0.mk hc1
  clear hr1 hc1
  have HB := Aside0.mk (Below.refl w.heap.size w)
  have H : ((phaetonlaw15_head.f k).bind fun t339 => ((phaetonlaw15_data.f l1).bind fun t340 => ((sig_Put.f k t340 a0_0 a0_1 a0_2 a0_3 a0_4 a0_5 a2).bind fun bt343 => ((sig_Right.f a0_0 a0_1 a0_2 a0_3 a0_4 a0_5 (t340.length : Int)).bind fun t347 => (if t347 = true then ((sig_Get.f t340 a0_0 a0_1 a0_2 a0_3 a0_4 a0_5).bind fun bt350 => ((sig_Put.f k t340 a0_0 a0_1 a0_2 a0_3 a0_4 a0_5 bt350.1).bind fun bt352 => (if bt350.2 = true then (if bt352.2 = true then ((phaetonref15_Bytes.f k bt352.1 t340).bind fun t356 => (if t356 = true then ((phaetonref15_Fits.f k a0_0 a0_1 a0_2 a0_3 a0_4 a0_5 a2).bind fun t357 => (phaetonlaw15_SigBack.j0 k t340 a2 t339 bt343.1 bt343.2 (bt343.2 != t357) a0_0 a0_1 a0_2 a0_3 a0_4 a0_5)) else (phaetonlaw15_SigBack.j0 k t340 a2 t339 bt343.1 bt343.2 true a0_0 a0_1 a0_2 a0_3 a0_4 a0_5))) else (phaetonlaw15_SigBack.j0 k t340 a2 t339 bt343.1 bt343.2 true a0_0 a0_1 a0_2 a0_3 a0_4 a0_5)) else (phaetonlaw15_SigBack.j0 k t340 a2 t339 bt343.1 bt343.2 true a0_0 a0_1 a0_2 a0_3 a0_4 a0_5)))) else ((sig_Get.f t340 a0_0 a0_1 a0_2 a0_3 a0_4 a0_5).bind fun bt348 => (if bt343.2 = true then (none) else (if bt348.2 = true then (none) else (if (bt343.1.length : Int) = 0 then (some t339) else (none)))))))))) = some r := h
  clear h
  replace H := Option.bind_eq_some_iff.mp H
  obtain ⟨t339, A40, H⟩ := H
  replace H : ((phaetonlaw15_data.f l1).bind fun t340 => ((sig_Put.f k t340 a0_0 a0_1 a0_2 a0_3 a0_4 a0_5 a2).bind fun bt343 => ((sig_Right.f a0_0 a0_1 a0_2 a0_3 a0_4 a0_5 (t340.length : Int)).bind fun t347 => (if t347 = true then ((sig_Get.f t340 a0_0 a0_1 a0_2 a0_3 a0_4 a0_5).bind fun bt350 => ((sig_Put.f k t340 a0_0 a0_1 a0_2 a0_3 a0_4 a0_5 bt350.1).bind fun bt352 => (if bt350.2 = true then (if bt352.2 = true then ((phaetonref15_Bytes.f k bt352.1 t340).bind fun t356 => (if t356 = true then ((phaetonref15_Fits.f k a0_0 a0_1 a0_2 a0_3 a0_4 a0_5 a2).bind fun t357 => (phaetonlaw15_SigBack.j0 k t340 a2 t339 bt343.1 bt343.2 (bt343.2 != t357) a0_0 a0_1 a0_2 a0_3 a0_4 a0_5)) else (phaetonlaw15_SigBack.j0 k t340 a2 t339 bt343.1 bt343.2 true a0_0 a0_1 a0_2 a0_3 a0_4 a0_5))) else (phaetonlaw15_SigBack.j0 k t340 a2 t339 bt343.1 bt343.2 true a0_0 a0_1 a0_2 a0_3 a0_4 a0_5)) else (phaetonlaw15_SigBack.j0 k t340 a2 t339 bt343.1 bt343.2 true a0_0 a0_1 a0_2 a0_3 a0_4 a0_5)))) else ((sig_Get.f t340 a0_0 a0_1 a0_2 a0_3 a0_4 a0_5).bind fun bt348 => (if bt343.2 = true then (none) else (if bt348.2 = true then (none) else (if (bt343.1.length : Int) = 0 then (some t339) else (none))))))))) = some r := H
  have A4 := Aside0.mk A40
  clear A40
  replace H := Option.bind_eq_some_iff.mp H
  obtain ⟨t340, A50, H⟩ := H
  replace H : ((sig_Put.f k t340 a0_0 a0_1 a0_2 a0_3 a0_4 a0_5 a2).bind fun bt343 => ((sig_Right.f a0_0 a0_1 a0_2 a0_3 a0_4 a0_5 (t340.length : Int)).bind fun t347 => (if t347 = true then ((sig_Get.f t340 a0_0 a0_1 a0_2 a0_3 a0_4 a0_5).bind fun bt350 => ((sig_Put.f k t340 a0_0 a0_1 a0_2 a0_3 a0_4 a0_5 bt350.1).bind fun bt352 => (if bt350.2 = true then (if bt352.2 = true then ((phaetonref15_Bytes.f k bt352.1 t340).bind fun t356 => (if t356 = true then ((phaetonref15_Fits.f k a0_0 a0_1 a0_2 a0_3 a0_4 a0_5 a2).bind fun t357 => (phaetonlaw15_SigBack.j0 k t340 a2 t339 bt343.1 bt343.2 (bt343.2 != t357) a0_0 a0_1 a0_2 a0_3 a0_4 a0_5)) else (phaetonlaw15_SigBack.j0 k t340 a2 t339 bt343.1 bt343.2 true a0_0 a0_1 a0_2 a0_3 a0_4 a0_5))) else (phaetonlaw15_SigBack.j0 k t340 a2 t339 bt343.1 bt343.2 true a0_0 a0_1 a0_2 a0_3 a0_4 a0_5)) else (phaetonlaw15_SigBack.j0 k t340 a2 t339 bt343.1 bt343.2 true a0_0 a0_1 a0_2 a0_3 a0_4 a0_5)))) else ((sig_Get.f t340 a0_0 a0_1 a0_2 a0_3 a0_4 a0_5).bind fun bt348 => (if bt343.2 = true then (none) else (if bt348.2 = true then (none) else (if (bt343.1.length : Int) = 0 then (some t339) else (none)))))))) = some r := H
  have A5 := Aside0.mk A50
  clear A50
  replace H := Option.bind_eq_some_iff.mp H
  obtain ⟨⟨t343, t346⟩, A60, H⟩ := H
  replace H : ((sig_Right.f a0_0 a0_1 a0_2 a0_3 a0_4 a0_5 (t340.length : Int)).bind fun t347 => (if t347 = true then ((sig_Get.f t340 a0_0 a0_1 a0_2 a0_3 a0_4 a0_5).bind fun bt350 => ((sig_Put.f k t340 a0_0 a0_1 a0_2 a0_3 a0_4 a0_5 bt350.1).bind fun bt352 => (if bt350.2 = true then (if bt352.2 = true then ((phaetonref15_Bytes.f k bt352.1 t340).bind fun t356 => (if t356 = true then ((phaetonref15_Fits.f k a0_0 a0_1 a0_2 a0_3 a0_4 a0_5 a2).bind fun t357 => (phaetonlaw15_SigBack.j0 k t340 a2 t339 t343 t346 (t346 != t357) a0_0 a0_1 a0_2 a0_3 a0_4 a0_5)) else (phaetonlaw15_SigBack.j0 k t340 a2 t339 t343 t346 true a0_0 a0_1 a0_2 a0_3 a0_4 a0_5))) else (phaetonlaw15_SigBack.j0 k t340 a2 t339 t343 t346 true a0_0 a0_1 a0_2 a0_3 a0_4 a0_5)) else (phaetonlaw15_SigBack.j0 k t340 a2 t339 t343 t346 true a0_0 a0_1 a0_2 a0_3 a0_4 a0_5)))) else ((sig_Get.f t340 a0_0 a0_1 a0_2 a0_3 a0_4 a0_5).bind fun bt348 => (if t346 = true then (none) else (if bt348.2 = true then (none) else (if (t343.length : Int) = 0 then (some t339) else (none))))))) = some r := H
  have A6 := Aside0.mk A60
  clear A60
  replace H := Option.bind_eq_some_iff.mp H
  obtain ⟨t347, A70, H⟩ := H
  replace H : (if t347 = true then ((sig_Get.f t340 a0_0 a0_1 a0_2 a0_3 a0_4 a0_5).bind fun bt350 => ((sig_Put.f k t340 a0_0 a0_1 a0_2 a0_3 a0_4 a0_5 bt350.1).bind fun bt352 => (if bt350.2 = true then (if bt352.2 = true then ((phaetonref15_Bytes.f k bt352.1 t340).bind fun t356 => (if t356 = true then ((phaetonref15_Fits.f k a0_0 a0_1 a0_2 a0_3 a0_4 a0_5 a2).bind fun t357 => (phaetonlaw15_SigBack.j0 k t340 a2 t339 t343 t346 (t346 != t357) a0_0 a0_1 a0_2 a0_3 a0_4 a0_5)) else (phaetonlaw15_SigBack.j0 k t340 a2 t339 t343 t346 true a0_0 a0_1 a0_2 a0_3 a0_4 a0_5))) else (phaetonlaw15_SigBack.j0 k t340 a2 t339 t343 t346 true a0_0 a0_1 a0_2 a0_3 a0_4 a0_5)) else (phaetonlaw15_SigBack.j0 k t340 a2 t339 t343 t346 true a0_0 a0_1 a0_2 a0_3 a0_4 a0_5)))) else ((sig_Get.f t340 a0_0 a0_1 a0_2 a0_3 a0_4 a0_5).bind fun bt348 => (if t346 = true then (none) else (if bt348.2 = true then (none) else (if (t343.length : Int) = 0 then (some t339) else (none)))))) = some r := H
  have A7 := Aside0.mk A70
  clear A70
  by_cases c8 : t347 = true
  · subst c8
    have H1 : ((sig_Get.f t340 a0_0 a0_1 a0_2 a0_3 a0_4 a0_5).bind fun bt350 => ((sig_Put.f k t340 a0_0 a0_1 a0_2 a0_3 a0_4 a0_5 bt350.1).bind fun bt352 => (if bt350.2 = true then (if bt352.2 = true then ((phaetonref15_Bytes.f k bt352.1 t340).bind fun t356 => (if t356 = true then ((phaetonref15_Fits.f k a0_0 a0_1 a0_2 a0_3 a0_4 a0_5 a2).bind fun t357 => (phaetonlaw15_SigBack.j0 k t340 a2 t339 t343 t346 (t346 != t357) a0_0 a0_1 a0_2 a0_3 a0_4 a0_5)) else (phaetonlaw15_SigBack.j0 k t340 a2 t339 t343 t346 true a0_0 a0_1 a0_2 a0_3 a0_4 a0_5))) else (phaetonlaw15_SigBack.j0 k t340 a2 t339 t343 t346 true a0_0 a0_1 a0_2 a0_3 a0_4 a0_5)) else (phaetonlaw15_SigBack.j0 k t340 a2 t339 t343 t346 true a0_0 a0_1 a0_2 a0_3 a0_4 a0_5)))) = some r := by rw [if_pos rfl] at H; exact H
    clear H
    have H := H1
    clear H1
    replace H := Option.bind_eq_some_iff.mp H
    obtain ⟨⟨t350, t351⟩, A90, H⟩ := H
    replace H : ((sig_Put.f k t340 a0_0 a0_1 a0_2 a0_3 a0_4 a0_5 t350).bind fun bt352 => (if t351 = true then (if bt352.2 = true then ((phaetonref15_Bytes.f k bt352.1 t340).bind fun t356 => (if t356 = true then ((phaetonref15_Fits.f k a0_0 a0_1 a0_2 a0_3 a0_4 a0_5 a2).bind fun t357 => (phaetonlaw15_SigBack.j0 k t340 a2 t339 t343 t346 (t346 != t357) a0_0 a0_1 a0_2 a0_3 a0_4 a0_5)) else (phaetonlaw15_SigBack.j0 k t340 a2 t339 t343 t346 true a0_0 a0_1 a0_2 a0_3 a0_4 a0_5))) else (phaetonlaw15_SigBack.j0 k t340 a2 t339 t343 t346 true a0_0 a0_1 a0_2 a0_3 a0_4 a0_5)) else (phaetonlaw15_SigBack.j0 k t340 a2 t339 t343 t346 true a0_0 a0_1 a0_2 a0_3 a0_4 a0_5))) = some r := H
    have A9 := Aside0.mk A90
    clear A90
    replace H := Option.bind_eq_some_iff.mp H
    obtain ⟨⟨t352, t355⟩, A100, H⟩ := H
    replace H : (if t351 = true then (if t355 = true then ((phaetonref15_Bytes.f k t352 t340).bind fun t356 => (if t356 = true then ((phaetonref15_Fits.f k a0_0 a0_1 a0_2 a0_3 a0_4 a0_5 a2).bind fun t357 => (phaetonlaw15_SigBack.j0 k t340 a2 t339 t343 t346 (t346 != t357) a0_0 a0_1 a0_2 a0_3 a0_4 a0_5)) else (phaetonlaw15_SigBack.j0 k t340 a2 t339 t343 t346 true a0_0 a0_1 a0_2 a0_3 a0_4 a0_5))) else (phaetonlaw15_SigBack.j0 k t340 a2 t339 t343 t346 true a0_0 a0_1 a0_2 a0_3 a0_4 a0_5)) else (phaetonlaw15_SigBack.j0 k t340 a2 t339 t343 t346 true a0_0 a0_1 a0_2 a0_3 a0_4 a0_5)) = some r := H
    have A10 := Aside0.mk A100
    clear A100
    have HC11 := Aside0.mk H
    clear H
    go_enter Try.func4, Try.ntmps4
    go_upto_region 9 with (first | ((with_reducible refine gate_dst (N := 3) rfl ?_); (try (refine gate_guard (by rfl) ?_; dsimp only)); refine box_event ?hg (N := 3) ?hd (cs := #[.int .i64 a0_0, .int .i64 a0_1, .bool a0_2, .bool a0_3, .int .i64 a0_4, .int .i64 a0_5]) (t := 23) ?hr ?_; (case hd => rfl); (case hg => rfl); (case hr => first | (go_simp; done) | (go_simp; rfl)); intro gb338 hg w12 hbox hb; have n0_ := Aside0.mk (below_step (by repeat (first | (with_reducible first | exact HB.out | apply below_alloc | apply pw_below_drewN | apply below_drew1) | exact HB.out)) hb); have n1_ := Aside0.mk (hbox); have n2_ := Aside0.mk ((by rw [hg]; exact (below_size (by repeat (first | (with_reducible first | exact HB.out | apply below_alloc | apply pw_below_drewN | apply below_drew1) | exact HB.out))) : w.heap.size ≤ gb338)); have n3_ := Aside0.mk ((by rw [hg]; exact (below_size (by repeat (first | (with_reducible first | exact HB.out | apply below_alloc | apply pw_below_drewN | apply below_drew1) | exact HB.out))) : w.heap.size ≤ gb338)); clear HB; have HB := n0_; have BK338 := n1_; have GW338 := n2_; have GE338 := n3_; clear n0_ n1_ n2_ n3_; clear hb hbox hg) | ((with_reducible refine gate_callee (f := 11) rfl ?_); refine goesL_ (some 18) rfl rfl Try.func11 (by kernel_rfl) rfl #[] rfl (by (try simp only [List.map_toArray, List.map_cons, List.map_nil]); first | done | rfl | (simp only [List.length_drop, List.length_take]; rfl)) ?_; (with_reducible refine (phaetonlaw15_head.calls k  t339 _ A4.out).mono ?_); rintro e w13 ⟨rfl, hb⟩; refine ⟨_, rfl, ?_⟩; have n0_ := Aside0.mk (blk_below (g := gb338) (o := .cells #[.int .i64 a0_0, .int .i64 a0_1, .bool a0_2, .bool a0_3, .int .i64 a0_4, .int .i64 a0_5] 23 (0, 0)) (by (with_reducible repeat (first | refine blk_drewN ?_ _ | refine blk_drew ?_ | refine blk_alloc ?_ _)); exact BK338.out) hb); have n1_ := Aside0.mk (below_step (by repeat (first | (with_reducible first | exact HB.out | apply below_alloc | apply pw_below_drewN | apply below_drew1 | refine below_set ?_ GE338.out) | exact HB.out)) hb); clear BK338; clear HB; have BK338 := n0_; have HB := n1_; clear n0_ n1_; (try clear hb); (try clear hb2); (try clear hk); (try clear hi)) | ((with_reducible refine gate_callee (f := 24) rfl ?_); refine goesL_ (some 20) rfl rfl Try.func24 (by kernel_rfl) rfl #[.slice A1 l1.length c1] rfl (by (try simp only [List.map_toArray, List.map_cons, List.map_nil]); first | done | rfl | (simp only [List.length_drop, List.length_take]; rfl)) ?_; (with_reducible refine (phaetonlaw15_data.calls _ _ l1 t340 _ ?side1 ?side2 A5.out).mono ?_); (case side1 => repeat (first | exact (Kd.C_below HR1.out HB.out) | (with_reducible refine Kd.C_alloc ?_ _) | (with_reducible refine Kd.C_drewN ?_ _) | (with_reducible refine Kd.C_drew ?_))); (case side2 => exact HC1.out); rintro e w14 ⟨v341, rfl, ho0, hb⟩; refine ⟨_, rfl, ?_⟩; have n0_ := Aside0.mk (Kd.R_lower ho0 (below_size (by repeat (first | (with_reducible first | exact HB.out | apply below_alloc | apply pw_below_drewN | apply below_drew1 | refine below_set ?_ GE338.out) | exact HB.out)))); have n1_ := Aside0.mk (blk_below (g := gb338) (o := .cells #[.int .i64 a0_0, .int .i64 a0_1, .bool a0_2, .bool a0_3, .int .i64 a0_4, .int .i64 a0_5] 23 (0, 0)) (by (with_reducible repeat (first | refine blk_drewN ?_ _ | refine blk_drew ?_ | refine blk_alloc ?_ _)); exact BK338.out) hb); have n2_ := Aside0.mk (below_step (by repeat (first | (with_reducible first | exact HB.out | apply below_alloc | apply pw_below_drewN | apply below_drew1 | refine below_set ?_ GE338.out) | exact HB.out)) hb); clear BK338; clear HB; have HO342 := n0_; have BK338 := n1_; have HB := n2_; clear n0_ n1_ n2_; (try clear hb); (try clear hb2); (try clear hk); (try clear hi); (try clear ho0); have hcz15_0 : w14.cell? ⟨gb338, 0, none⟩ = some (.int .i64 a0_0) := (blk_cell BK338.out 0).trans rfl; have hcz15_1 : w14.cell? ⟨gb338, 1, none⟩ = some (.int .i64 a0_1) := (blk_cell BK338.out 1).trans rfl; have hcz15_2 : w14.cell? ⟨gb338, 2, none⟩ = some (.bool a0_2) := (blk_cell BK338.out 2).trans rfl; have hcz15_3 : w14.cell? ⟨gb338, 3, none⟩ = some (.bool a0_3) := (blk_cell BK338.out 3).trans rfl; have hcz15_4 : w14.cell? ⟨gb338, 4, none⟩ = some (.int .i64 a0_4) := (blk_cell BK338.out 4).trans rfl; have hcz15_5 : w14.cell? ⟨gb338, 5, none⟩ = some (.int .i64 a0_5) := (blk_cell BK338.out 5).trans rfl; have hfz15_0 := blk_frozen BK338.out 0; have hfz15_1 := blk_frozen BK338.out 1; have hfz15_2 := blk_frozen BK338.out 2; have hfz15_3 := blk_frozen BK338.out 3; have hfz15_4 := blk_frozen BK338.out 4; have hfz15_5 := blk_frozen BK338.out 5; obtain ⟨Ao16, co16, eo16⟩ := Kd.R_slice HO342.out; subst eo16) | ((with_reducible refine gate_callee (f := 12) rfl ?_); refine goesL_ (some 25) rfl rfl Try.func12 (by kernel_rfl) rfl #[.slice Ao16 t340.length co16, .agg #[.int .i64 a0_0, .int .i64 a0_1, .bool a0_2, .bool a0_3, .int .i64 a0_4, .int .i64 a0_5], .int .i64 a2] rfl (by (try simp only [List.map_toArray, List.map_cons, List.map_nil]); first | done | rfl | (simp only [List.length_drop, List.length_take]; rfl)) ?_; (with_reducible refine (sig_Put.calls k _ _ t340 a0_0 a0_1 a0_2 a0_3 a0_4 a0_5 a2 t343 t346 _ ?side1 ?side2 A6.out).mono ?_); (case side1 => repeat (first | exact (Kd.R_reads' HO342.out).2.2 | (with_reducible refine Kd.C_alloc ?_ _) | (with_reducible refine Kd.C_drewN ?_ _) | (with_reducible refine Kd.C_drew ?_))); (case side2 => exact (Kd.R_reads' HO342.out).2.1); rintro e w17 ⟨v344, rfl, ho0, hb⟩; refine ⟨_, rfl, ?_⟩; have n0_ := Aside0.mk (Kd.R_elder' (by (with_reducible repeat (first | apply Kd.R_alloc | apply Kd.R_drewN | apply Kd.R_drew)); exact HO342.out) (Kd.R_base ho0) hb); have n1_ := Aside0.mk (Kd.R_lower (Kd.R_new' ho0 (Kd.R_lt (by (with_reducible repeat (first | apply Kd.R_alloc | apply Kd.R_drewN | apply Kd.R_drew)); exact HO342.out))) (below_size (by repeat (first | (with_reducible first | exact HB.out | apply below_alloc | apply pw_below_drewN | apply below_drew1 | refine below_set ?_ GE338.out) | exact HB.out)))); have n2_ := Aside0.mk (blk_below (g := gb338) (o := .cells #[.int .i64 a0_0, .int .i64 a0_1, .bool a0_2, .bool a0_3, .int .i64 a0_4, .int .i64 a0_5] 23 (0, 0)) (by (with_reducible repeat (first | refine blk_drewN ?_ _ | refine blk_drew ?_ | refine blk_alloc ?_ _)); exact BK338.out) hb); have n3_ := Aside0.mk (below_step (by repeat (first | (with_reducible first | exact HB.out | apply below_alloc | apply pw_below_drewN | apply below_drew1 | refine below_set ?_ GE338.out) | exact HB.out)) hb); clear HO342; clear BK338; clear HB; have HO342 := n0_; have HO345 := n1_; have BK338 := n2_; have HB := n3_; clear n0_ n1_ n2_ n3_; (try clear hb); (try clear hb2); (try clear hk); (try clear hi); (try clear ho0); have hcz18_0 : w17.cell? ⟨gb338, 0, none⟩ = some (.int .i64 a0_0) := (blk_cell BK338.out 0).trans rfl; have hcz18_1 : w17.cell? ⟨gb338, 1, none⟩ = some (.int .i64 a0_1) := (blk_cell BK338.out 1).trans rfl; have hcz18_2 : w17.cell? ⟨gb338, 2, none⟩ = some (.bool a0_2) := (blk_cell BK338.out 2).trans rfl; have hcz18_3 : w17.cell? ⟨gb338, 3, none⟩ = some (.bool a0_3) := (blk_cell BK338.out 3).trans rfl; have hcz18_4 : w17.cell? ⟨gb338, 4, none⟩ = some (.int .i64 a0_4) := (blk_cell BK338.out 4).trans rfl; have hcz18_5 : w17.cell? ⟨gb338, 5, none⟩ = some (.int .i64 a0_5) := (blk_cell BK338.out 5).trans rfl; have hfz18_0 := blk_frozen BK338.out 0; have hfz18_1 := blk_frozen BK338.out 1; have hfz18_2 := blk_frozen BK338.out 2; have hfz18_3 := blk_frozen BK338.out 3; have hfz18_4 := blk_frozen BK338.out 4; have hfz18_5 := blk_frozen BK338.out 5) | ((with_reducible refine gate_callee (f := 16) rfl ?_); refine goesL_ (some 31) rfl rfl Try.func16 (by kernel_rfl) rfl #[.agg #[.int .i64 a0_0, .int .i64 a0_1, .bool a0_2, .bool a0_3, .int .i64 a0_4, .int .i64 a0_5], .int .i64 (t340.length : Int)] rfl (by (try simp only [List.map_toArray, List.map_cons, List.map_nil]); first | done | rfl | (simp only [List.length_drop, List.length_take]; rfl)) ?_; (with_reducible refine (sig_Right.calls a0_0 a0_1 a0_2 a0_3 a0_4 a0_5 (t340.length : Int) true _ A7.out).mono ?_); rintro e w19 ⟨rfl, hb⟩; refine ⟨_, rfl, ?_⟩; have n0_ := Aside0.mk (Kd.R_below (by (with_reducible repeat (first | apply Kd.R_alloc | apply Kd.R_drewN | apply Kd.R_drew)); exact HO342.out) hb); have n1_ := Aside0.mk (Kd.R_below (by (with_reducible repeat (first | apply Kd.R_alloc | apply Kd.R_drewN | apply Kd.R_drew)); exact HO345.out) hb); have n2_ := Aside0.mk (blk_below (g := gb338) (o := .cells #[.int .i64 a0_0, .int .i64 a0_1, .bool a0_2, .bool a0_3, .int .i64 a0_4, .int .i64 a0_5] 23 (0, 0)) (by (with_reducible repeat (first | refine blk_drewN ?_ _ | refine blk_drew ?_ | refine blk_alloc ?_ _)); exact BK338.out) hb); have n3_ := Aside0.mk (below_step (by repeat (first | (with_reducible first | exact HB.out | apply below_alloc | apply pw_below_drewN | apply below_drew1 | refine below_set ?_ GE338.out) | exact HB.out)) hb); clear HO342; clear HO345; clear BK338; clear HB; have HO342 := n0_; have HO345 := n1_; have BK338 := n2_; have HB := n3_; clear n0_ n1_ n2_ n3_; (try clear hb); (try clear hb2); (try clear hk); (try clear hi); have hcz20_0 : w19.cell? ⟨gb338, 0, none⟩ = some (.int .i64 a0_0) := (blk_cell BK338.out 0).trans rfl; have hcz20_1 : w19.cell? ⟨gb338, 1, none⟩ = some (.int .i64 a0_1) := (blk_cell BK338.out 1).trans rfl; have hcz20_2 : w19.cell? ⟨gb338, 2, none⟩ = some (.bool a0_2) := (blk_cell BK338.out 2).trans rfl; have hcz20_3 : w19.cell? ⟨gb338, 3, none⟩ = some (.bool a0_3) := (blk_cell BK338.out 3).trans rfl; have hcz20_4 : w19.cell? ⟨gb338, 4, none⟩ = some (.int .i64 a0_4) := (blk_cell BK338.out 4).trans rfl; have hcz20_5 : w19.cell? ⟨gb338, 5, none⟩ = some (.int .i64 a0_5) := (blk_cell BK338.out 5).trans rfl; have hfz20_0 := blk_frozen BK338.out 0; have hfz20_1 := blk_frozen BK338.out 1; have hfz20_2 := blk_frozen BK338.out 2; have hfz20_3 := blk_frozen BK338.out 3; have hfz20_4 := blk_frozen BK338.out 4; have hfz20_5 := blk_frozen BK338.out 5) | ((with_reducible refine gate_callee (f := 14) rfl ?_); refine goesL_ (some 56) rfl rfl Try.func14 (by kernel_rfl) rfl #[.slice Ao16 t340.length co16, .agg #[.int .i64 a0_0, .int .i64 a0_1, .bool a0_2, .bool a0_3, .int .i64 a0_4, .int .i64 a0_5]] rfl (by (try simp only [List.map_toArray, List.map_cons, List.map_nil]); first | done | rfl | (simp only [List.length_drop, List.length_take]; rfl)) ?_; (with_reducible refine (sig_Get.calls _ _ t340 a0_0 a0_1 a0_2 a0_3 a0_4 a0_5 t350 t351 _ ?side1 ?side2 A9.out).mono ?_); (case side1 => repeat (first | exact (Kd.R_reads' HO342.out).2.2 | (with_reducible refine Kd.C_alloc ?_ _) | (with_reducible refine Kd.C_drewN ?_ _) | (with_reducible refine Kd.C_drew ?_))); (case side2 => exact (Kd.R_reads' HO342.out).2.1); rintro e w21 ⟨rfl, hb⟩; refine ⟨_, rfl, ?_⟩; have n0_ := Aside0.mk (Kd.R_below (by (with_reducible repeat (first | apply Kd.R_alloc | apply Kd.R_drewN | apply Kd.R_drew)); exact HO342.out) hb); have n1_ := Aside0.mk (Kd.R_below (by (with_reducible repeat (first | apply Kd.R_alloc | apply Kd.R_drewN | apply Kd.R_drew)); exact HO345.out) hb); have n2_ := Aside0.mk (blk_below (g := gb338) (o := .cells #[.int .i64 a0_0, .int .i64 a0_1, .bool a0_2, .bool a0_3, .int .i64 a0_4, .int .i64 a0_5] 23 (0, 0)) (by (with_reducible repeat (first | refine blk_drewN ?_ _ | refine blk_drew ?_ | refine blk_alloc ?_ _)); exact BK338.out) hb); have n3_ := Aside0.mk (below_step (by repeat (first | (with_reducible first | exact HB.out | apply below_alloc | apply pw_below_drewN | apply below_drew1 | refine below_set ?_ GE338.out) | exact HB.out)) hb); clear HO342; clear HO345; clear BK338; clear HB; have HO342 := n0_; have HO345 := n1_; have BK338 := n2_; have HB := n3_; clear n0_ n1_ n2_ n3_; (try clear hb); (try clear hb2); (try clear hk); (try clear hi); have hcz22_0 : w21.cell? ⟨gb338, 0, none⟩ = some (.int .i64 a0_0) := (blk_cell BK338.out 0).trans rfl; have hcz22_1 : w21.cell? ⟨gb338, 1, none⟩ = some (.int .i64 a0_1) := (blk_cell BK338.out 1).trans rfl; have hcz22_2 : w21.cell? ⟨gb338, 2, none⟩ = some (.bool a0_2) := (blk_cell BK338.out 2).trans rfl; have hcz22_3 : w21.cell? ⟨gb338, 3, none⟩ = some (.bool a0_3) := (blk_cell BK338.out 3).trans rfl; have hcz22_4 : w21.cell? ⟨gb338, 4, none⟩ = some (.int .i64 a0_4) := (blk_cell BK338.out 4).trans rfl; have hcz22_5 : w21.cell? ⟨gb338, 5, none⟩ = some (.int .i64 a0_5) := (blk_cell BK338.out 5).trans rfl; have hfz22_0 := blk_frozen BK338.out 0; have hfz22_1 := blk_frozen BK338.out 1; have hfz22_2 := blk_frozen BK338.out 2; have hfz22_3 := blk_frozen BK338.out 3; have hfz22_4 := blk_frozen BK338.out 4; have hfz22_5 := blk_frozen BK338.out 5) | ((with_reducible refine gate_callee (f := 12) rfl ?_); refine goesL_ (some 63) rfl rfl Try.func12 (by kernel_rfl) rfl #[.slice Ao16 t340.length co16, .agg #[.int .i64 a0_0, .int .i64 a0_1, .bool a0_2, .bool a0_3, .int .i64 a0_4, .int .i64 a0_5], .int .i64 t350] rfl (by (try simp only [List.map_toArray, List.map_cons, List.map_nil]); first | done | rfl | (simp only [List.length_drop, List.length_take]; rfl)) ?_; (with_reducible refine (sig_Put.calls k _ _ t340 a0_0 a0_1 a0_2 a0_3 a0_4 a0_5 t350 t352 t355 _ ?side1 ?side2 A10.out).mono ?_); (case side1 => repeat (first | exact (Kd.R_reads' HO342.out).2.2 | (with_reducible refine Kd.C_alloc ?_ _) | (with_reducible refine Kd.C_drewN ?_ _) | (with_reducible refine Kd.C_drew ?_))); (case side2 => exact (Kd.R_reads' HO342.out).2.1); rintro e w23 ⟨v353, rfl, ho0, hb⟩; refine ⟨_, rfl, ?_⟩; have n0_ := Aside0.mk (Kd.R_elder' (by (with_reducible repeat (first | apply Kd.R_alloc | apply Kd.R_drewN | apply Kd.R_drew)); exact HO342.out) (Kd.R_base ho0) hb); have n1_ := Aside0.mk (Kd.R_elder' (by (with_reducible repeat (first | apply Kd.R_alloc | apply Kd.R_drewN | apply Kd.R_drew)); exact HO345.out) (Kd.R_base ho0) hb); have n2_ := Aside0.mk (Kd.R_lower (Kd.R_new' (Kd.R_new' ho0 (Kd.R_lt (by (with_reducible repeat (first | apply Kd.R_alloc | apply Kd.R_drewN | apply Kd.R_drew)); exact HO342.out))) (Kd.R_lt (by (with_reducible repeat (first | apply Kd.R_alloc | apply Kd.R_drewN | apply Kd.R_drew)); exact HO345.out))) (below_size (by repeat (first | (with_reducible first | exact HB.out | apply below_alloc | apply pw_below_drewN | apply below_drew1 | refine below_set ?_ GE338.out) | exact HB.out)))); have n3_ := Aside0.mk (blk_below (g := gb338) (o := .cells #[.int .i64 a0_0, .int .i64 a0_1, .bool a0_2, .bool a0_3, .int .i64 a0_4, .int .i64 a0_5] 23 (0, 0)) (by (with_reducible repeat (first | refine blk_drewN ?_ _ | refine blk_drew ?_ | refine blk_alloc ?_ _)); exact BK338.out) hb); have n4_ := Aside0.mk (below_step (by repeat (first | (with_reducible first | exact HB.out | apply below_alloc | apply pw_below_drewN | apply below_drew1 | refine below_set ?_ GE338.out) | exact HB.out)) hb); clear HO342; clear HO345; clear BK338; clear HB; have HO342 := n0_; have HO345 := n1_; have HO354 := n2_; have BK338 := n3_; have HB := n4_; clear n0_ n1_ n2_ n3_ n4_; (try clear hb); (try clear hb2); (try clear hk); (try clear hi); (try clear ho0)))
    (try simp only [Act.put, List.setIfInBounds_toArray, List.set_cons_zero, List.set_cons_succ])
    go_cut [84] (fun v84 wc => ∃ (kq : Nat) (x84_10 : Bool), v84 = .bool x84_10 ∧ Aside0 (phaetonlaw15_SigBack.j0 kq t340 a2 t339 t343 t346 x84_10 a0_0 a0_1 a0_2 a0_3 a0_4 a0_5 = some r) ∧ Aside0 (kq ≤ k) ∧ Aside0 (Kd.R (Kd.int .u8) 5 wc w.heap.size (fun k_ => some k_ ≠ (v344 : Value).ownBlock) (.slice Ao16 t340.length co16) t340) ∧ Aside0 (Kd.R (Kd.int .u8) 5 wc w.heap.size (fun k_ => some k_ ≠ ((.slice Ao16 t340.length co16) : Value).ownBlock) v344 t343) ∧ Aside0 (wc.heap[gb338]? = some (.cells #[.int .i64 a0_0, .int .i64 a0_1, .bool a0_2, .bool a0_3, .int .i64 a0_4, .int .i64 a0_5] 23 (0, 0))) ∧ Aside0 (Below w.heap.size w wc))
    case first =>
      have H := HC11.out
      clear HC11
      by_cases c24 : t351 = true
      · subst c24
        have H1 : (if t355 = true then ((phaetonref15_Bytes.f k t352 t340).bind fun t356 => (if t356 = true then ((phaetonref15_Fits.f k a0_0 a0_1 a0_2 a0_3 a0_4 a0_5 a2).bind fun t357 => (phaetonlaw15_SigBack.j0 k t340 a2 t339 t343 t346 (t346 != t357) a0_0 a0_1 a0_2 a0_3 a0_4 a0_5)) else (phaetonlaw15_SigBack.j0 k t340 a2 t339 t343 t346 true a0_0 a0_1 a0_2 a0_3 a0_4 a0_5))) else (phaetonlaw15_SigBack.j0 k t340 a2 t339 t343 t346 true a0_0 a0_1 a0_2 a0_3 a0_4 a0_5)) = some r := by rw [if_pos rfl] at H; exact H
        clear H
        have H := H1
        clear H1
        by_cases c25 : t355 = true
        · subst c25
          have H1 : ((phaetonref15_Bytes.f k t352 t340).bind fun t356 => (if t356 = true then ((phaetonref15_Fits.f k a0_0 a0_1 a0_2 a0_3 a0_4 a0_5 a2).bind fun t357 => (phaetonlaw15_SigBack.j0 k t340 a2 t339 t343 t346 (t346 != t357) a0_0 a0_1 a0_2 a0_3 a0_4 a0_5)) else (phaetonlaw15_SigBack.j0 k t340 a2 t339 t343 t346 true a0_0 a0_1 a0_2 a0_3 a0_4 a0_5))) = some r := by rw [if_pos rfl] at H; exact H
          clear H
          have H := H1
          clear H1
          replace H := Option.bind_eq_some_iff.mp H
          obtain ⟨t356, A260, H⟩ := H
          replace H : (if t356 = true then ((phaetonref15_Fits.f k a0_0 a0_1 a0_2 a0_3 a0_4 a0_5 a2).bind fun t357 => (phaetonlaw15_SigBack.j0 k t340 a2 t339 t343 t346 (t346 != t357) a0_0 a0_1 a0_2 a0_3 a0_4 a0_5)) else (phaetonlaw15_SigBack.j0 k t340 a2 t339 t343 t346 true a0_0 a0_1 a0_2 a0_3 a0_4 a0_5)) = some r := H
          have A26 := Aside0.mk A260
          clear A260
          by_cases c27 : t356 = true
          · subst c27
            have H1 : ((phaetonref15_Fits.f k a0_0 a0_1 a0_2 a0_3 a0_4 a0_5 a2).bind fun t357 => (phaetonlaw15_SigBack.j0 k t340 a2 t339 t343 t346 (t346 != t357) a0_0 a0_1 a0_2 a0_3 a0_4 a0_5)) = some r := by rw [if_pos rfl] at H; exact H
            clear H
            have H := H1
            clear H1
            replace H := Option.bind_eq_some_iff.mp H
            obtain ⟨t357, A280, H⟩ := H
            replace H : (phaetonlaw15_SigBack.j0 k t340 a2 t339 t343 t346 (t346 != t357) a0_0 a0_1 a0_2 a0_3 a0_4 a0_5) = some r := H
            have A28 := Aside0.mk A280
            clear A280
            have H' := Aside0.mk H
            clear H
            obtain ⟨Ao29, co29, eo29⟩ := Kd.R_slice HO354.out
            subst eo29
            go_wp2_with (first | (go_at_call 21; (with_reducible refine (phaetonref15_Bytes.calls k _ _ t352 _ _ t340 true _ ?side1 ?side2 ?side3 ?side4 A26.out).mono ?_); (case side1 => repeat (first | exact (Kd.R_reads' HO354.out).2.2 | (with_reducible refine Kd.C_alloc ?_ _) | (with_reducible refine Kd.C_drewN ?_ _) | (with_reducible refine Kd.C_drew ?_))); (case side2 => exact (Kd.R_reads' HO354.out).2.1); (case side3 => repeat (first | exact (Kd.R_reads' HO342.out).2.2 | (with_reducible refine Kd.C_alloc ?_ _) | (with_reducible refine Kd.C_drewN ?_ _) | (with_reducible refine Kd.C_drew ?_))); (case side4 => exact (Kd.R_reads' HO342.out).2.1); rintro e w' ⟨rfl, ⟨nd, rfl⟩⟩; have hcz30_0 : w23.cell? ⟨gb338, 0, none⟩ = some (.int .i64 a0_0) := (blk_cell BK338.out 0).trans rfl; have hcz30_1 : w23.cell? ⟨gb338, 1, none⟩ = some (.int .i64 a0_1) := (blk_cell BK338.out 1).trans rfl; have hcz30_2 : w23.cell? ⟨gb338, 2, none⟩ = some (.bool a0_2) := (blk_cell BK338.out 2).trans rfl; have hcz30_3 : w23.cell? ⟨gb338, 3, none⟩ = some (.bool a0_3) := (blk_cell BK338.out 3).trans rfl; have hcz30_4 : w23.cell? ⟨gb338, 4, none⟩ = some (.int .i64 a0_4) := (blk_cell BK338.out 4).trans rfl; have hcz30_5 : w23.cell? ⟨gb338, 5, none⟩ = some (.int .i64 a0_5) := (blk_cell BK338.out 5).trans rfl; have hfz30_0 := blk_frozen BK338.out 0; have hfz30_1 := blk_frozen BK338.out 1; have hfz30_2 := blk_frozen BK338.out 2; have hfz30_3 := blk_frozen BK338.out 3; have hfz30_4 := blk_frozen BK338.out 4; have hfz30_5 := blk_frozen BK338.out 5) | (go_at_call 25; (with_reducible refine (phaetonref15_Fits.calls k a0_0 a0_1 a0_2 a0_3 a0_4 a0_5 a2 t357 _ A28.out).mono ?_); rintro e w31 ⟨rfl, hb⟩; have n0_ := Aside0.mk (Kd.R_below (by (with_reducible repeat (first | apply Kd.R_alloc | apply Kd.R_drewN | apply Kd.R_drew)); exact HO342.out) hb); have n1_ := Aside0.mk (Kd.R_below (by (with_reducible repeat (first | apply Kd.R_alloc | apply Kd.R_drewN | apply Kd.R_drew)); exact HO345.out) hb); have n2_ := Aside0.mk (Kd.R_below (by (with_reducible repeat (first | apply Kd.R_alloc | apply Kd.R_drewN | apply Kd.R_drew)); exact HO354.out) hb); have n3_ := Aside0.mk (blk_below (g := gb338) (o := .cells #[.int .i64 a0_0, .int .i64 a0_1, .bool a0_2, .bool a0_3, .int .i64 a0_4, .int .i64 a0_5] 23 (0, 0)) (by (with_reducible repeat (first | refine blk_drewN ?_ _ | refine blk_drew ?_ | refine blk_alloc ?_ _)); exact BK338.out) hb); have n4_ := Aside0.mk (below_step (by repeat (first | (with_reducible first | exact HB.out | apply below_alloc | apply pw_below_drewN | apply below_drew1 | refine below_set ?_ GE338.out) | exact HB.out)) hb); clear HO342; clear HO345; clear HO354; clear BK338; clear HB; have HO342 := n0_; have HO345 := n1_; have HO354 := n2_; have BK338 := n3_; have HB := n4_; clear n0_ n1_ n2_ n3_ n4_; (try clear hb); (try clear hb2); (try clear hk); (try clear hi)))
            go_meet
            case rel => exact ⟨_, ((t346 != t357)), (by first | rfl | (simp; done) | (simp [*]; done)), H', ⟨by first | omega | exact Nat.le_refl _⟩, ⟨by (with_reducible repeat (first | apply Kd.R_alloc | apply Kd.R_drewN | apply Kd.R_drew)); exact Kd.R_mono HO342.out (fun _ hk => hk.1.2)⟩, ⟨by (with_reducible repeat (first | apply Kd.R_alloc | apply Kd.R_drewN | apply Kd.R_drew)); exact Kd.R_mono HO345.out (fun _ hk => hk.1.2)⟩, ⟨by (with_reducible repeat (first | refine blk_drewN ?_ _ | refine blk_drew ?_ | refine blk_alloc ?_ _)); exact BK338.out⟩, ⟨by repeat (first | (with_reducible first | exact HB.out | apply below_alloc | apply pw_below_drewN | apply below_drew1 | refine below_set ?_ GE338.out) | exact HB.out)⟩⟩
          · replace c27 := Bool.eq_false_iff.mpr c27
            subst c27
            have H1 : (phaetonlaw15_SigBack.j0 k t340 a2 t339 t343 t346 true a0_0 a0_1 a0_2 a0_3 a0_4 a0_5) = some r := by rw [if_neg (show ¬ (false = true) by decide)] at H; exact H
            clear H
            have H := H1
            clear H1
            have H' := Aside0.mk H
            clear H
            obtain ⟨Ao32, co32, eo32⟩ := Kd.R_slice HO354.out
            subst eo32
            go_wp2_with (first | (go_at_call 21; (with_reducible refine (phaetonref15_Bytes.calls k _ _ t352 _ _ t340 false _ ?side1 ?side2 ?side3 ?side4 A26.out).mono ?_); (case side1 => repeat (first | exact (Kd.R_reads' HO354.out).2.2 | (with_reducible refine Kd.C_alloc ?_ _) | (with_reducible refine Kd.C_drewN ?_ _) | (with_reducible refine Kd.C_drew ?_))); (case side2 => exact (Kd.R_reads' HO354.out).2.1); (case side3 => repeat (first | exact (Kd.R_reads' HO342.out).2.2 | (with_reducible refine Kd.C_alloc ?_ _) | (with_reducible refine Kd.C_drewN ?_ _) | (with_reducible refine Kd.C_drew ?_))); (case side4 => exact (Kd.R_reads' HO342.out).2.1); rintro e w' ⟨rfl, ⟨nd, rfl⟩⟩))
            go_meet
            case rel => exact ⟨_, (true), (by first | rfl | (simp; done) | (simp [*]; done)), H', ⟨by first | omega | exact Nat.le_refl _⟩, ⟨by (with_reducible repeat (first | apply Kd.R_alloc | apply Kd.R_drewN | apply Kd.R_drew)); exact Kd.R_mono HO342.out (fun _ hk => hk.1.2)⟩, ⟨by (with_reducible repeat (first | apply Kd.R_alloc | apply Kd.R_drewN | apply Kd.R_drew)); exact Kd.R_mono HO345.out (fun _ hk => hk.1.2)⟩, ⟨by (with_reducible repeat (first | refine blk_drewN ?_ _ | refine blk_drew ?_ | refine blk_alloc ?_ _)); exact BK338.out⟩, ⟨by repeat (first | (with_reducible first | exact HB.out | apply below_alloc | apply pw_below_drewN | apply below_drew1 | refine below_set ?_ GE338.out) | exact HB.out)⟩⟩
        · replace c25 := Bool.eq_false_iff.mpr c25
          subst c25
          have H1 : (phaetonlaw15_SigBack.j0 k t340 a2 t339 t343 t346 true a0_0 a0_1 a0_2 a0_3 a0_4 a0_5) = some r := by rw [if_neg (show ¬ (false = true) by decide)] at H; exact H
          clear H
          have H := H1
          clear H1
          have H' := Aside0.mk H
          clear H
          go_wp2
          go_meet
          case rel => exact ⟨_, (true), (by first | rfl | (simp; done) | (simp [*]; done)), H', ⟨by first | omega | exact Nat.le_refl _⟩, ⟨by (with_reducible repeat (first | apply Kd.R_alloc | apply Kd.R_drewN | apply Kd.R_drew)); exact Kd.R_mono HO342.out (fun _ hk => hk.1.2)⟩, ⟨by (with_reducible repeat (first | apply Kd.R_alloc | apply Kd.R_drewN | apply Kd.R_drew)); exact Kd.R_mono HO345.out (fun _ hk => hk.1.2)⟩, ⟨by (with_reducible repeat (first | refine blk_drewN ?_ _ | refine blk_drew ?_ | refine blk_alloc ?_ _)); exact BK338.out⟩, ⟨by repeat (first | (with_reducible first | exact HB.out | apply below_alloc | apply pw_below_drewN | apply below_drew1 | refine below_set ?_ GE338.out) | exact HB.out)⟩⟩
      · replace c24 := Bool.eq_false_iff.mpr c24
        subst c24
        have H1 : (phaetonlaw15_SigBack.j0 k t340 a2 t339 t343 t346 true a0_0 a0_1 a0_2 a0_3 a0_4 a0_5) = some r := by rw [if_neg (show ¬ (false = true) by decide)] at H; exact H
        clear H
        have H := H1
        clear H1
        have H' := Aside0.mk H
        clear H
        go_wp2
        go_meet
        case rel => exact ⟨_, (true), (by first | rfl | (simp; done) | (simp [*]; done)), H', ⟨by first | omega | exact Nat.le_refl _⟩, ⟨by (with_reducible repeat (first | apply Kd.R_alloc | apply Kd.R_drewN | apply Kd.R_drew)); exact Kd.R_mono HO342.out (fun _ hk => hk.1.2)⟩, ⟨by (with_reducible repeat (first | apply Kd.R_alloc | apply Kd.R_drewN | apply Kd.R_drew)); exact Kd.R_mono HO345.out (fun _ hk => hk.1.2)⟩, ⟨by (with_reducible repeat (first | refine blk_drewN ?_ _ | refine blk_drew ?_ | refine blk_alloc ?_ _)); exact BK338.out⟩, ⟨by repeat (first | (with_reducible first | exact HB.out | apply below_alloc | apply pw_below_drewN | apply below_drew1 | refine below_set ?_ GE338.out) | exact HB.out)⟩⟩
    case rest =>
      clear HC11
      try clear c1
      try clear c2
      try clear p2
      try clear c4
      try clear c8
      try clear c11
      try clear c12
      try clear c14
      try clear c16
      try clear c24
      try clear c25
      try clear c27
      try clear hcz15_0
      try clear hcz15_1
      try clear hcz15_2
      try clear hcz15_3
      try clear hcz15_4
      try clear hcz15_5
      try clear hcz18_0
      try clear hcz18_1
      try clear hcz18_2
      try clear hcz18_3
      try clear hcz18_4
      try clear hcz18_5
      try clear hcz20_0
      try clear hcz20_1
      try clear hcz20_2
      try clear hcz20_3
      try clear hcz20_4
      try clear hcz20_5
      try clear hcz22_0
      try clear hcz22_1
      try clear hcz22_2
      try clear hcz22_3
      try clear hcz22_4
      try clear hcz22_5
      try clear hcz30_0
      try clear hcz30_1
      try clear hcz30_2
      try clear hcz30_3
      try clear hcz30_4
      try clear hcz30_5
      try clear hfz15_0
      try clear hfz15_1
      try clear hfz15_2
      try clear hfz15_3
      try clear hfz15_4
      try clear hfz15_5
      try clear hfz18_0
      try clear hfz18_1
      try clear hfz18_2
      try clear hfz18_3
      try clear hfz18_4
      try clear hfz18_5
      try clear hfz20_0
      try clear hfz20_1
      try clear hfz20_2
      try clear hfz20_3
      try clear hfz20_4
      try clear hfz20_5
      try clear hfz22_0
      try clear hfz22_1
      try clear hfz22_2
      try clear hfz22_3
      try clear hfz22_4
      try clear hfz22_5
      try clear hfz30_0
      try clear hfz30_1
      try clear hfz30_2
      try clear hfz30_3
      try clear hfz30_4
      try clear hfz30_5
      obtain ⟨kq, x84_10, rfl, HA, HJ10, HO_1, HO_8, BK338, HB⟩ := hcut
      cases kq with
      | zero => exact absurd HA.out (by simp [phaetonlaw15_SigBack.j0])
      | succ kj10 =>
        have H := HA.out
        clear HA
        simp only [phaetonlaw15_SigBack.j0] at H
        by_cases c33 : x84_10 = true
        · subst c33
          have H1 : (none) = some r := by rw [if_pos rfl] at H; exact H
          clear H
          have H := H1
          clear H1
          exact absurd H (by simp)
        · replace c33 := Bool.eq_false_iff.mpr c33
          subst c33
          have H1 : (if t346 = true then ((sig_Get.f t343 a0_0 a0_1 a0_2 a0_3 a0_4 a0_5).bind fun bt358 => (if bt358.1 = a2 then (if bt358.2 = true then (if (t343.length : Int) = (t340.length : Int) then (some t339) else (none)) else (none)) else (none))) else (if (t343.length : Int) = 0 then (some t339) else (none))) = some r := by rw [if_neg (show ¬ (false = true) by decide)] at H; exact H
          clear H
          have H := H1
          clear H1
          by_cases c34 : t346 = true
          · subst c34
            have H1 : ((sig_Get.f t343 a0_0 a0_1 a0_2 a0_3 a0_4 a0_5).bind fun bt358 => (if bt358.1 = a2 then (if bt358.2 = true then (if (t343.length : Int) = (t340.length : Int) then (some t339) else (none)) else (none)) else (none))) = some r := by rw [if_pos rfl] at H; exact H
            clear H
            have H := H1
            clear H1
            replace H := Option.bind_eq_some_iff.mp H
            obtain ⟨⟨t358, t359⟩, A350, H⟩ := H
            replace H : (if t358 = a2 then (if t359 = true then (if (t343.length : Int) = (t340.length : Int) then (some t339) else (none)) else (none)) else (none)) = some r := H
            have A35 := Aside0.mk A350
            clear A350
            by_cases c36 : t358 = a2
            · rw [if_pos c36] at H
              have c36b0 : (t358 == a2) = true := beq_iff_eq.mpr c36
              have c36b1 : (t358 != a2) = false := bne_eq_false_iff_eq.mpr c36
              clear c36
              by_cases c37 : t359 = true
              · subst c37
                have H1 : (if (t343.length : Int) = (t340.length : Int) then (some t339) else (none)) = some r := by rw [if_pos rfl] at H; exact H
                clear H
                have H := H1
                clear H1
                by_cases c38 : (t343.length : Int) = (t340.length : Int)
                · rw [if_pos c38] at H
                  have c38b0 : ((t343.length : Int) == (t340.length : Int)) = true := beq_iff_eq.mpr c38
                  have c38b1 : ((t343.length : Int) != (t340.length : Int)) = false := bne_eq_false_iff_eq.mpr c38
                  have c38b2 : (t343.length == t340.length) = true := by first | simpa using c38 | (simp at c38 ⊢; omega)
                  clear c38
                  obtain rfl := Option.some.inj H
                  have hcz39_0 : wc.cell? ⟨gb338, 0, none⟩ = some (.int .i64 a0_0) := (blk_cell BK338.out 0).trans rfl
                  have hcz39_1 : wc.cell? ⟨gb338, 1, none⟩ = some (.int .i64 a0_1) := (blk_cell BK338.out 1).trans rfl
                  have hcz39_2 : wc.cell? ⟨gb338, 2, none⟩ = some (.bool a0_2) := (blk_cell BK338.out 2).trans rfl
                  have hcz39_3 : wc.cell? ⟨gb338, 3, none⟩ = some (.bool a0_3) := (blk_cell BK338.out 3).trans rfl
                  have hcz39_4 : wc.cell? ⟨gb338, 4, none⟩ = some (.int .i64 a0_4) := (blk_cell BK338.out 4).trans rfl
                  have hcz39_5 : wc.cell? ⟨gb338, 5, none⟩ = some (.int .i64 a0_5) := (blk_cell BK338.out 5).trans rfl
                  have hfz39_0 := blk_frozen BK338.out 0
                  have hfz39_1 := blk_frozen BK338.out 1
                  have hfz39_2 := blk_frozen BK338.out 2
                  have hfz39_3 := blk_frozen BK338.out 3
                  have hfz39_4 := blk_frozen BK338.out 4
                  have hfz39_5 := blk_frozen BK338.out 5
                  obtain ⟨Ao40, co40, eo40⟩ := Kd.R_slice HO_8.out
                  subst eo40
                  go_wp2_with (first | ((with_reducible refine gate_callee (f := 14) rfl ?_); refine goesL_ (some 96) rfl rfl Try.func14 (by kernel_rfl) rfl #[.slice Ao40 t343.length co40, .agg #[.int .i64 a0_0, .int .i64 a0_1, .bool a0_2, .bool a0_3, .int .i64 a0_4, .int .i64 a0_5]] rfl (by (try simp only [List.map_toArray, List.map_cons, List.map_nil]); first | done | rfl | (simp only [List.length_drop, List.length_take]; rfl)) ?_; (with_reducible refine (sig_Get.calls _ _ t343 a0_0 a0_1 a0_2 a0_3 a0_4 a0_5 t358 true _ ?side1 ?side2 A35.out).mono ?_); (case side1 => repeat (first | exact (Kd.R_reads' HO_8.out).2.2 | (with_reducible refine Kd.C_alloc ?_ _) | (with_reducible refine Kd.C_drewN ?_ _) | (with_reducible refine Kd.C_drew ?_))); (case side2 => exact (Kd.R_reads' HO_8.out).2.1); rintro e w41 ⟨rfl, hb⟩; refine ⟨_, rfl, ?_⟩; have n0_ := Aside0.mk (Kd.R_below (by (with_reducible repeat (first | apply Kd.R_alloc | apply Kd.R_drewN | apply Kd.R_drew)); exact HO_1.out) hb); have n1_ := Aside0.mk (Kd.R_below (by (with_reducible repeat (first | apply Kd.R_alloc | apply Kd.R_drewN | apply Kd.R_drew)); exact HO_8.out) hb); have n2_ := Aside0.mk (blk_below (g := gb338) (o := .cells #[.int .i64 a0_0, .int .i64 a0_1, .bool a0_2, .bool a0_3, .int .i64 a0_4, .int .i64 a0_5] 23 (0, 0)) (by (with_reducible repeat (first | refine blk_drewN ?_ _ | refine blk_drew ?_ | refine blk_alloc ?_ _)); exact BK338.out) hb); have n3_ := Aside0.mk (below_step (by repeat (first | (with_reducible first | exact HB.out | apply below_alloc | apply pw_below_drewN | apply below_drew1 | refine below_set ?_ GE338.out) | exact HB.out)) hb); clear HO_1; clear HO_8; clear BK338; clear HB; have HO_1 := n0_; have HO_8 := n1_; have BK338 := n2_; have HB := n3_; clear n0_ n1_ n2_ n3_; (try clear hb); (try clear hb2); (try clear hk); (try clear hi)))
                  go_ret
                  exact ⟨by first | rfl | (simp [errW_none, errW_some] <;> rfl) | (simp [*, errW_none, errW_some] <;> rfl), by repeat (first | (with_reducible first | exact HB.out | apply below_alloc | apply pw_below_drewN | apply below_drew1 | refine below_set ?_ GE338.out) | exact HB.out)⟩
                · rw [if_neg c38] at H
                  exact absurd H (by simp)
              · replace c37 := Bool.eq_false_iff.mpr c37
                subst c37
                have H1 : (none) = some r := by rw [if_neg (show ¬ (false = true) by decide)] at H; exact H
                clear H
                have H := H1
                clear H1
                exact absurd H (by simp)
            · rw [if_neg c36] at H
              exact absurd H (by simp)
          · replace c34 := Bool.eq_false_iff.mpr c34
            subst c34
            have H1 : (if (t343.length : Int) = 0 then (some t339) else (none)) = some r := by rw [if_neg (show ¬ (false = true) by decide)] at H; exact H
            clear H
            have H := H1
            clear H1
            by_cases c42 : (t343.length : Int) = 0
            · rw [if_pos c42] at H
              have c42b0 : ((t343.length : Int) == 0) = true := beq_iff_eq.mpr c42
              have c42b1 : ((t343.length : Int) != 0) = false := bne_eq_false_iff_eq.mpr c42
              clear c42
              obtain rfl := Option.some.inj H
              obtain ⟨Ao43, co43, eo43⟩ := Kd.R_slice HO_8.out
              subst eo43
              go_wp2
              go_ret
              exact ⟨by first | rfl | (simp [errW_none, errW_some] <;> rfl) | (simp [*, errW_none, errW_some] <;> rfl), by repeat (first | (with_reducible first | exact HB.out | apply below_alloc | apply pw_below_drewN | apply below_drew1 | refine below_set ?_ GE338.out) | exact HB.out)⟩
            · rw [if_neg c42] at H
              exact absurd H (by simp)
  · replace c8 := Bool.eq_false_iff.mpr c8
    subst c8
    have H1 : ((sig_Get.f t340 a0_0 a0_1 a0_2 a0_3 a0_4 a0_5).bind fun bt348 => (if t346 = true then (none) else (if bt348.2 = true then (none) else (if (t343.length : Int) = 0 then (some t339) else (none))))) = some r := by rw [if_neg (show ¬ (false = true) by decide)] at H; exact H
    clear H
    have H := H1
    clear H1
    replace H := Option.bind_eq_some_iff.mp H
    obtain ⟨⟨t348, t349⟩, A440, H⟩ := H
    replace H : (if t346 = true then (none) else (if t349 = true then (none) else (if (t343.length : Int) = 0 then (some t339) else (none)))) = some r := H
    have A44 := Aside0.mk A440
    clear A440
    by_cases c45 : t346 = true
    · subst c45
      have H1 : (none) = some r := by rw [if_pos rfl] at H; exact H
      clear H
      have H := H1
      clear H1
      exact absurd H (by simp)
    · replace c45 := Bool.eq_false_iff.mpr c45
      subst c45
      have H1 : (if t349 = true then (none) else (if (t343.length : Int) = 0 then (some t339) else (none))) = some r := by rw [if_neg (show ¬ (false = true) by decide)] at H; exact H
      clear H
      have H := H1
      clear H1
      by_cases c46 : t349 = true
      · subst c46
        have H1 : (none) = some r := by rw [if_pos rfl] at H; exact H
        clear H
        have H := H1
        clear H1
        exact absurd H (by simp)
      · replace c46 := Bool.eq_false_iff.mpr c46
        subst c46
        have H1 : (if (t343.length : Int) = 0 then (some t339) else (none)) = some r := by rw [if_neg (show ¬ (false = true) by decide)] at H; exact H
        clear H
        have H := H1
        clear H1
        by_cases c47 : (t343.length : Int) = 0
        · rw [if_pos c47] at H
          have c47b0 : ((t343.length : Int) == 0) = true := beq_iff_eq.mpr c47
          have c47b1 : ((t343.length : Int) != 0) = false := bne_eq_false_iff_eq.mpr c47
          clear c47
          obtain rfl := Option.some.inj H
          go_enter Try.func4, Try.ntmps4
          go_wp2_with (first | ((with_reducible refine gate_dst (N := 3) rfl ?_); (try (refine gate_guard (by rfl) ?_; dsimp only)); refine box_event ?hg (N := 3) ?hd (cs := #[.int .i64 a0_0, .int .i64 a0_1, .bool a0_2, .bool a0_3, .int .i64 a0_4, .int .i64 a0_5]) (t := 23) ?hr ?_; (case hd => rfl); (case hg => rfl); (case hr => first | (go_simp; done) | (go_simp; rfl)); intro gb338 hg w48 hbox hb; have n0_ := Aside0.mk (below_step (by repeat (first | (with_reducible first | exact HB.out | apply below_alloc | apply pw_below_drewN | apply below_drew1) | exact HB.out)) hb); have n1_ := Aside0.mk (hbox); have n2_ := Aside0.mk ((by rw [hg]; exact (below_size (by repeat (first | (with_reducible first | exact HB.out | apply below_alloc | apply pw_below_drewN | apply below_drew1) | exact HB.out))) : w.heap.size ≤ gb338)); have n3_ := Aside0.mk ((by rw [hg]; exact (below_size (by repeat (first | (with_reducible first | exact HB.out | apply below_alloc | apply pw_below_drewN | apply below_drew1) | exact HB.out))) : w.heap.size ≤ gb338)); clear HB; have HB := n0_; have BK338 := n1_; have GW338 := n2_; have GE338 := n3_; clear n0_ n1_ n2_ n3_; clear hb hbox hg) | ((with_reducible refine gate_callee (f := 11) rfl ?_); refine goesL_ (some 18) rfl rfl Try.func11 (by kernel_rfl) rfl #[] rfl (by (try simp only [List.map_toArray, List.map_cons, List.map_nil]); first | done | rfl | (simp only [List.length_drop, List.length_take]; rfl)) ?_; (with_reducible refine (phaetonlaw15_head.calls k  t339 _ A4.out).mono ?_); rintro e w49 ⟨rfl, hb⟩; refine ⟨_, rfl, ?_⟩; have n0_ := Aside0.mk (blk_below (g := gb338) (o := .cells #[.int .i64 a0_0, .int .i64 a0_1, .bool a0_2, .bool a0_3, .int .i64 a0_4, .int .i64 a0_5] 23 (0, 0)) (by (with_reducible repeat (first | refine blk_drewN ?_ _ | refine blk_drew ?_ | refine blk_alloc ?_ _)); exact BK338.out) hb); have n1_ := Aside0.mk (below_step (by repeat (first | (with_reducible first | exact HB.out | apply below_alloc | apply pw_below_drewN | apply below_drew1 | refine below_set ?_ GE338.out) | exact HB.out)) hb); clear BK338; clear HB; have BK338 := n0_; have HB := n1_; clear n0_ n1_; (try clear hb); (try clear hb2); (try clear hk); (try clear hi)) | ((with_reducible refine gate_callee (f := 24) rfl ?_); refine goesL_ (some 20) rfl rfl Try.func24 (by kernel_rfl) rfl #[.slice A1 l1.length c1] rfl (by (try simp only [List.map_toArray, List.map_cons, List.map_nil]); first | done | rfl | (simp only [List.length_drop, List.length_take]; rfl)) ?_; (with_reducible refine (phaetonlaw15_data.calls _ _ l1 t340 _ ?side1 ?side2 A5.out).mono ?_); (case side1 => repeat (first | exact (Kd.C_below HR1.out HB.out) | (with_reducible refine Kd.C_alloc ?_ _) | (with_reducible refine Kd.C_drewN ?_ _) | (with_reducible refine Kd.C_drew ?_))); (case side2 => exact HC1.out); rintro e w50 ⟨v341, rfl, ho0, hb⟩; refine ⟨_, rfl, ?_⟩; have n0_ := Aside0.mk (Kd.R_lower ho0 (below_size (by repeat (first | (with_reducible first | exact HB.out | apply below_alloc | apply pw_below_drewN | apply below_drew1 | refine below_set ?_ GE338.out) | exact HB.out)))); have n1_ := Aside0.mk (blk_below (g := gb338) (o := .cells #[.int .i64 a0_0, .int .i64 a0_1, .bool a0_2, .bool a0_3, .int .i64 a0_4, .int .i64 a0_5] 23 (0, 0)) (by (with_reducible repeat (first | refine blk_drewN ?_ _ | refine blk_drew ?_ | refine blk_alloc ?_ _)); exact BK338.out) hb); have n2_ := Aside0.mk (below_step (by repeat (first | (with_reducible first | exact HB.out | apply below_alloc | apply pw_below_drewN | apply below_drew1 | refine below_set ?_ GE338.out) | exact HB.out)) hb); clear BK338; clear HB; have HO342 := n0_; have BK338 := n1_; have HB := n2_; clear n0_ n1_ n2_; (try clear hb); (try clear hb2); (try clear hk); (try clear hi); (try clear ho0); have hcz51_0 : w50.cell? ⟨gb338, 0, none⟩ = some (.int .i64 a0_0) := (blk_cell BK338.out 0).trans rfl; have hcz51_1 : w50.cell? ⟨gb338, 1, none⟩ = some (.int .i64 a0_1) := (blk_cell BK338.out 1).trans rfl; have hcz51_2 : w50.cell? ⟨gb338, 2, none⟩ = some (.bool a0_2) := (blk_cell BK338.out 2).trans rfl; have hcz51_3 : w50.cell? ⟨gb338, 3, none⟩ = some (.bool a0_3) := (blk_cell BK338.out 3).trans rfl; have hcz51_4 : w50.cell? ⟨gb338, 4, none⟩ = some (.int .i64 a0_4) := (blk_cell BK338.out 4).trans rfl; have hcz51_5 : w50.cell? ⟨gb338, 5, none⟩ = some (.int .i64 a0_5) := (blk_cell BK338.out 5).trans rfl; have hfz51_0 := blk_frozen BK338.out 0; have hfz51_1 := blk_frozen BK338.out 1; have hfz51_2 := blk_frozen BK338.out 2; have hfz51_3 := blk_frozen BK338.out 3; have hfz51_4 := blk_frozen BK338.out 4; have hfz51_5 := blk_frozen BK338.out 5; obtain ⟨Ao52, co52, eo52⟩ := Kd.R_slice HO342.out; subst eo52) | ((with_reducible refine gate_callee (f := 12) rfl ?_); refine goesL_ (some 25) rfl rfl Try.func12 (by kernel_rfl) rfl #[.slice Ao52 t340.length co52, .agg #[.int .i64 a0_0, .int .i64 a0_1, .bool a0_2, .bool a0_3, .int .i64 a0_4, .int .i64 a0_5], .int .i64 a2] rfl (by (try simp only [List.map_toArray, List.map_cons, List.map_nil]); first | done | rfl | (simp only [List.length_drop, List.length_take]; rfl)) ?_; (with_reducible refine (sig_Put.calls k _ _ t340 a0_0 a0_1 a0_2 a0_3 a0_4 a0_5 a2 t343 false _ ?side1 ?side2 A6.out).mono ?_); (case side1 => repeat (first | exact (Kd.R_reads' HO342.out).2.2 | (with_reducible refine Kd.C_alloc ?_ _) | (with_reducible refine Kd.C_drewN ?_ _) | (with_reducible refine Kd.C_drew ?_))); (case side2 => exact (Kd.R_reads' HO342.out).2.1); rintro e w53 ⟨v344, rfl, ho0, hb⟩; refine ⟨_, rfl, ?_⟩; have n0_ := Aside0.mk (Kd.R_elder' (by (with_reducible repeat (first | apply Kd.R_alloc | apply Kd.R_drewN | apply Kd.R_drew)); exact HO342.out) (Kd.R_base ho0) hb); have n1_ := Aside0.mk (Kd.R_lower (Kd.R_new' ho0 (Kd.R_lt (by (with_reducible repeat (first | apply Kd.R_alloc | apply Kd.R_drewN | apply Kd.R_drew)); exact HO342.out))) (below_size (by repeat (first | (with_reducible first | exact HB.out | apply below_alloc | apply pw_below_drewN | apply below_drew1 | refine below_set ?_ GE338.out) | exact HB.out)))); have n2_ := Aside0.mk (blk_below (g := gb338) (o := .cells #[.int .i64 a0_0, .int .i64 a0_1, .bool a0_2, .bool a0_3, .int .i64 a0_4, .int .i64 a0_5] 23 (0, 0)) (by (with_reducible repeat (first | refine blk_drewN ?_ _ | refine blk_drew ?_ | refine blk_alloc ?_ _)); exact BK338.out) hb); have n3_ := Aside0.mk (below_step (by repeat (first | (with_reducible first | exact HB.out | apply below_alloc | apply pw_below_drewN | apply below_drew1 | refine below_set ?_ GE338.out) | exact HB.out)) hb); clear HO342; clear BK338; clear HB; have HO342 := n0_; have HO345 := n1_; have BK338 := n2_; have HB := n3_; clear n0_ n1_ n2_ n3_; (try clear hb); (try clear hb2); (try clear hk); (try clear hi); (try clear ho0); have hcz54_0 : w53.cell? ⟨gb338, 0, none⟩ = some (.int .i64 a0_0) := (blk_cell BK338.out 0).trans rfl; have hcz54_1 : w53.cell? ⟨gb338, 1, none⟩ = some (.int .i64 a0_1) := (blk_cell BK338.out 1).trans rfl; have hcz54_2 : w53.cell? ⟨gb338, 2, none⟩ = some (.bool a0_2) := (blk_cell BK338.out 2).trans rfl; have hcz54_3 : w53.cell? ⟨gb338, 3, none⟩ = some (.bool a0_3) := (blk_cell BK338.out 3).trans rfl; have hcz54_4 : w53.cell? ⟨gb338, 4, none⟩ = some (.int .i64 a0_4) := (blk_cell BK338.out 4).trans rfl; have hcz54_5 : w53.cell? ⟨gb338, 5, none⟩ = some (.int .i64 a0_5) := (blk_cell BK338.out 5).trans rfl; have hfz54_0 := blk_frozen BK338.out 0; have hfz54_1 := blk_frozen BK338.out 1; have hfz54_2 := blk_frozen BK338.out 2; have hfz54_3 := blk_frozen BK338.out 3; have hfz54_4 := blk_frozen BK338.out 4; have hfz54_5 := blk_frozen BK338.out 5) | ((with_reducible refine gate_callee (f := 16) rfl ?_); refine goesL_ (some 31) rfl rfl Try.func16 (by kernel_rfl) rfl #[.agg #[.int .i64 a0_0, .int .i64 a0_1, .bool a0_2, .bool a0_3, .int .i64 a0_4, .int .i64 a0_5], .int .i64 (t340.length : Int)] rfl (by (try simp only [List.map_toArray, List.map_cons, List.map_nil]); first | done | rfl | (simp only [List.length_drop, List.length_take]; rfl)) ?_; (with_reducible refine (sig_Right.calls a0_0 a0_1 a0_2 a0_3 a0_4 a0_5 (t340.length : Int) false _ A7.out).mono ?_); rintro e w55 ⟨rfl, hb⟩; refine ⟨_, rfl, ?_⟩; have n0_ := Aside0.mk (Kd.R_below (by (with_reducible repeat (first | apply Kd.R_alloc | apply Kd.R_drewN | apply Kd.R_drew)); exact HO342.out) hb); have n1_ := Aside0.mk (Kd.R_below (by (with_reducible repeat (first | apply Kd.R_alloc | apply Kd.R_drewN | apply Kd.R_drew)); exact HO345.out) hb); have n2_ := Aside0.mk (blk_below (g := gb338) (o := .cells #[.int .i64 a0_0, .int .i64 a0_1, .bool a0_2, .bool a0_3, .int .i64 a0_4, .int .i64 a0_5] 23 (0, 0)) (by (with_reducible repeat (first | refine blk_drewN ?_ _ | refine blk_drew ?_ | refine blk_alloc ?_ _)); exact BK338.out) hb); have n3_ := Aside0.mk (below_step (by repeat (first | (with_reducible first | exact HB.out | apply below_alloc | apply pw_below_drewN | apply below_drew1 | refine below_set ?_ GE338.out) | exact HB.out)) hb); clear HO342; clear HO345; clear BK338; clear HB; have HO342 := n0_; have HO345 := n1_; have BK338 := n2_; have HB := n3_; clear n0_ n1_ n2_ n3_; (try clear hb); (try clear hb2); (try clear hk); (try clear hi); have hcz56_0 : w55.cell? ⟨gb338, 0, none⟩ = some (.int .i64 a0_0) := (blk_cell BK338.out 0).trans rfl; have hcz56_1 : w55.cell? ⟨gb338, 1, none⟩ = some (.int .i64 a0_1) := (blk_cell BK338.out 1).trans rfl; have hcz56_2 : w55.cell? ⟨gb338, 2, none⟩ = some (.bool a0_2) := (blk_cell BK338.out 2).trans rfl; have hcz56_3 : w55.cell? ⟨gb338, 3, none⟩ = some (.bool a0_3) := (blk_cell BK338.out 3).trans rfl; have hcz56_4 : w55.cell? ⟨gb338, 4, none⟩ = some (.int .i64 a0_4) := (blk_cell BK338.out 4).trans rfl; have hcz56_5 : w55.cell? ⟨gb338, 5, none⟩ = some (.int .i64 a0_5) := (blk_cell BK338.out 5).trans rfl; have hfz56_0 := blk_frozen BK338.out 0; have hfz56_1 := blk_frozen BK338.out 1; have hfz56_2 := blk_frozen BK338.out 2; have hfz56_3 := blk_frozen BK338.out 3; have hfz56_4 := blk_frozen BK338.out 4; have hfz56_5 := blk_frozen BK338.out 5) | ((with_reducible refine gate_callee (f := 14) rfl ?_); refine goesL_ (some 36) rfl rfl Try.func14 (by kernel_rfl) rfl #[.slice Ao52 t340.length co52, .agg #[.int .i64 a0_0, .int .i64 a0_1, .bool a0_2, .bool a0_3, .int .i64 a0_4, .int .i64 a0_5]] rfl (by (try simp only [List.map_toArray, List.map_cons, List.map_nil]); first | done | rfl | (simp only [List.length_drop, List.length_take]; rfl)) ?_; (with_reducible refine (sig_Get.calls _ _ t340 a0_0 a0_1 a0_2 a0_3 a0_4 a0_5 t348 false _ ?side1 ?side2 A44.out).mono ?_); (case side1 => repeat (first | exact (Kd.R_reads' HO342.out).2.2 | (with_reducible refine Kd.C_alloc ?_ _) | (with_reducible refine Kd.C_drewN ?_ _) | (with_reducible refine Kd.C_drew ?_))); (case side2 => exact (Kd.R_reads' HO342.out).2.1); rintro e w57 ⟨rfl, hb⟩; refine ⟨_, rfl, ?_⟩; have n0_ := Aside0.mk (Kd.R_below (by (with_reducible repeat (first | apply Kd.R_alloc | apply Kd.R_drewN | apply Kd.R_drew)); exact HO342.out) hb); have n1_ := Aside0.mk (Kd.R_below (by (with_reducible repeat (first | apply Kd.R_alloc | apply Kd.R_drewN | apply Kd.R_drew)); exact HO345.out) hb); have n2_ := Aside0.mk (blk_below (g := gb338) (o := .cells #[.int .i64 a0_0, .int .i64 a0_1, .bool a0_2, .bool a0_3, .int .i64 a0_4, .int .i64 a0_5] 23 (0, 0)) (by (with_reducible repeat (first | refine blk_drewN ?_ _ | refine blk_drew ?_ | refine blk_alloc ?_ _)); exact BK338.out) hb); have n3_ := Aside0.mk (below_step (by repeat (first | (with_reducible first | exact HB.out | apply below_alloc | apply pw_below_drewN | apply below_drew1 | refine below_set ?_ GE338.out) | exact HB.out)) hb); clear HO342; clear HO345; clear BK338; clear HB; have HO342 := n0_; have HO345 := n1_; have BK338 := n2_; have HB := n3_; clear n0_ n1_ n2_ n3_; (try clear hb); (try clear hb2); (try clear hk); (try clear hi); obtain ⟨Ao58, co58, eo58⟩ := Kd.R_slice HO345.out; subst eo58))
          go_ret
          exact ⟨by first | rfl | (simp [errW_none, errW_some] <;> rfl) | (simp [*, errW_none, errW_some] <;> rfl), by repeat (first | (with_reducible first | exact HB.out | apply below_alloc | apply pw_below_drewN | apply below_drew1 | refine below_set ?_ GE338.out) | exact HB.out)⟩
        · rw [if_neg c47] at H
          exact absurd H (by simp)

end Go.Proofs.Ytcgkkjimonfhbaa.P

/- Go functions that the laws of this seat reach, each as a Lean function, and a proof that a call of the Go code comes to its answers; written by a program (the kit's print, turned in a few places). Conditions: each theorem's own premises. -/
import Derived.Test.YtcgkkjimonfhbaaPx0
import Derived.Test.YtcgkkjimonfhbaaPx4
import Derived.Test.YtcgkkjimonfhbaaPx5
import Derived.Test.YtcgkkjimonfhbaaPx6
import Derived.Test.YtcgkkjimonfhbaaPx7
import Derived.Test.YtcgkkjimonfhbaaPx9
import Derived.Test.YtcgkkjimonfhbaaPx11
import Derived.Test.YtcgkkjimonfhbaaPx12
import Derived.Test.YtcgkkjimonfhbaaPx14
import Derived.Test.YtcgkkjimonfhbaaPx15
import Derived.Test.YtcgkkjimonfhbaaPx16
import Derived.Test.YtcgkkjimonfhbaaGGet
import Derived.Test.YtcgkkjimonfhbaaGPlaces
import Derived.Test.YtcgkkjimonfhbaaGRight
namespace Go.Proofs.Ytcgkkjimonfhbaa.P
open Go.RowKit Go.Proofs.YtcgkkjimonfhbaaW.PrintWords Go.Proofs.YtcgkkjimonfhbaaW.PrintLast Go.Proofs.YtcgkkjimonfhbaaW.PrintMore
attribute [local go_sem] max2_int min2_int max_two min_two max_three min_three max_four min_four   -- for this text's walks alone
set_option linter.unusedVariables false
set_option linter.unusedSimpArgs false

/-! ### phaetonlaw15_SigTells: function 3 -/
def phaetonlaw15_SigTells.f (k : Nat) (a0_0 : Int) (a0_1 : Int) (a0_2 : Bool) (a0_3 : Bool) (a0_4 : Int) (a0_5 : Int) (l1 : List Int) (a2 : Int) : Option (Bool) := (phaetonlaw15_head.f k).bind fun t297 => ((some (([] : List Int) : List Int)).bind fun y298 => (if 0 ≤ (mn (l1.length : Int) 9) then (if (mn (l1.length : Int) 9) ≤ (l1.length : Int) then (if y298.length + (l1.take ((mn (l1.length : Int) 9) : Int).toNat).length < 140737488355328 then ((some (y298 ++ (l1.take ((mn (l1.length : Int) 9) : Int).toNat) : List Int)).bind fun y302 => ((sig_Put.f k y302 a0_0 a0_1 a0_2 a0_3 a0_4 a0_5 a2).bind fun bt305 => ((phaetonref15_Put.f k y302 a0_0 a0_1 a0_2 a0_3 a0_4 a0_5 a2).bind fun bt309 => ((sig_Get.f y302 a0_0 a0_1 a0_2 a0_3 a0_4 a0_5).bind fun bt313 => ((phaetonref15_Get.f k y302 a0_0 a0_1 a0_2 a0_3 a0_4 a0_5).bind fun bt315 => ((sig_Right.f a0_0 a0_1 a0_2 a0_3 a0_4 a0_5 (y302.length : Int)).bind fun t317 => ((phaetonref15_Right.f k a0_0 a0_1 a0_2 a0_3 a0_4 a0_5 (y302.length : Int)).bind fun t318 => (if (t317 == t318) = true then ((sig_Right.f a0_0 a0_1 a0_2 a0_3 a0_4 a0_5 a2).bind fun t319 => ((phaetonref15_Right.f k a0_0 a0_1 a0_2 a0_3 a0_4 a0_5 a2).bind fun t320 => (if (t319 == t320) = true then ((sig_Places.f a0_0 a0_1 a0_2 a0_3 a0_4 a0_5).bind fun t321 => ((phaetonref15_Places.f k a0_0 a0_1 a0_2 a0_3 a0_4 a0_5).bind fun t324 => ((phaetonref03_Ints.f k t321 t324).bind fun t327 => (if t327 = true then ((phaetonref15_Bytes.f k bt305.1 bt309.1).bind fun t328 => (if t328 = true then (if (bt305.2 == bt309.2) = true then (if bt313.1 = bt315.1 then (if (bt313.2 == bt315.2) = true then ((sig_Mean.f a0_0 a0_1 a0_2 a0_3 a0_4 a0_5 a2).bind fun t329 => ((phaetonref15_Mean.f k a0_0 a0_1 a0_2 a0_3 a0_4 a0_5 a2).bind fun t330 => (if t329 = t330 then (some t297) else (none)))) else (none)) else (none)) else (none)) else (none))) else (none))))) else (none)))) else (none))))))))) else (none)) else (none)) else (none)))
theorem phaetonlaw15_SigTells.mono : ∀ a0 a1 a2 a3 a4 a5 a6 a7 k, LeO (phaetonlaw15_SigTells.f k a0 a1 a2 a3 a4 a5 a6 a7) (phaetonlaw15_SigTells.f (k + 1) a0 a1 a2 a3 a4 a5 a6 a7) := by
 intro a0 a1 a2 a3 a4 a5 a6 a7 k
 unfold phaetonlaw15_SigTells.f
 repeat' first
   | (with_reducible exact phaetonlaw15_head.mono _)
   | (with_reducible exact phaetonref03_Ints.mono _ _ _)
   | (with_reducible exact phaetonref15_Bytes.mono _ _ _)
   | (with_reducible exact phaetonref15_Get.mono _ _ _ _ _ _ _ _)
   | (with_reducible exact phaetonref15_Mean.mono _ _ _ _ _ _ _ _)
   | (with_reducible exact phaetonref15_Places.mono _ _ _ _ _ _ _)
   | (with_reducible exact phaetonref15_Put.mono _ _ _ _ _ _ _ _ _)
   | (with_reducible exact phaetonref15_Right.mono _ _ _ _ _ _ _ _)
   | (with_reducible exact sig_Put.mono _ _ _ _ _ _ _ _ _)
   | (with_reducible exact LeO.refl _)
   | (with_reducible exact LeO.none _)
   | (with_reducible refine LeO.ite ?_ ?_)
   | (with_reducible refine LeO.bind ?_ (fun _ => ?_))
   | exact phaetonlaw15_head.mono _
   | exact phaetonref03_Ints.mono _ _ _
   | exact phaetonref15_Bytes.mono _ _ _
   | exact phaetonref15_Get.mono _ _ _ _ _ _ _ _
   | exact phaetonref15_Mean.mono _ _ _ _ _ _ _ _
   | exact phaetonref15_Places.mono _ _ _ _ _ _ _
   | exact phaetonref15_Put.mono _ _ _ _ _ _ _ _ _
   | exact phaetonref15_Right.mono _ _ _ _ _ _ _ _
   | exact sig_Put.mono _ _ _ _ _ _ _ _ _
   | exact LeO.none _
   | refine LeO.ite ?_ ?_
   | refine LeO.bind ?_ (fun _ => ?_)
def phaetonlaw15_SigTells.T7 : Bool × List (List Nat × List Nat) := (true, [([], []), ([], []), ([1], [1]), ([0, 2], [0, 2]), ([], []), ([], []), ([5], [5]), ([4, 6, 3], [4, 6]), ([3, 7], [3, 7]), ([8, 7], [8]), ([9], [9]), ([9], [9]), ([10, 11, 9, 9], [9, 10, 11]), ([9], [9]), ([9], [9]), ([13, 14, 12, 9], [9, 13, 14]), ([12, 15, 9], [9, 12, 15]), ([9, 16], [9, 16]), ([17, 15], [17]), ([18], [18]), ([19, 18, 18], [18, 19]), ([18], [18]), ([21, 20, 18], [18, 21]), ([20, 22, 22, 18], [18, 20, 22]), ([18, 23], [18, 23]), ([24, 23], [24]), ([25], [25]), ([25], [25]), ([26, 27, 25, 25], [25, 26, 27]), ([25, 28], [25, 28]), ([29, 28], [29]), ([30], [30]), ([30], [30]), ([31, 32, 30], [30, 31, 32]), ([30, 33], [30, 33]), ([34, 30], [34]), ([35], [35]), ([35], [35]), ([36, 37, 35], [35, 36, 37]), ([35, 38], [35, 38]), ([39, 35], [39]), ([40], [40]), ([40], [40]), ([41, 42, 40], [40, 41, 42]), ([40, 43], [40, 43]), ([44, 40], [44]), ([45], [45]), ([45], [45]), ([46, 47, 45, 45], [45, 46, 47]), ([45], [45]), ([45], [45]), ([49, 50, 48, 45], [45, 49, 50]), ([48, 51, 45], [45, 48, 51]), ([45, 52], [45, 52]), ([53, 51], [53]), ([54], [54]), ([54, 55], [54, 55]), ([56, 54, 0, 1, 2, 3, 4, 5, 6, 7, 8, 9, 10, 11, 12, 13, 14, 15, 16, 17, 18, 19, 20, 21, 22, 23, 24, 25, 26, 27, 28, 29, 30, 31, 32, 33, 34, 35, 36, 37, 38, 39, 40, 41, 42, 43, 44, 45, 46, 47, 48, 49, 50, 51, 52, 53, 54, 55, 56], [56])])
def phaetonlaw15_SigTells.B7 : List Nat := [0, 0, 2, 7, 0, 0, 32, 127, 255, 511, 1023, 1023, 4095, 1023, 1023, 32767, 65535, 131071, 262143, 524287, 1048575, 524287, 4194303, 8388607, 16777215, 33554431, 67108863, 67108863, 268435455, 536870911, 1073741823, 2147483647, 2147483647, 8589934591, 17179869183, 34359738367, 68719476735, 68719476735, 274877906943, 549755813887, 1099511627775, 2199023255551, 2199023255551, 8796093022207, 17592186044415, 35184372088831, 70368744177663, 70368744177663, 281474976710655, 70368744177663, 70368744177663, 2251799813685247, 4503599627370495, 9007199254740991, 18014398509481983, 36028797018963967, 72057594037927935, 144115188075855871]
theorem phaetonlaw15_SigTells.tab7 : rtab .any (opsOf Try.f3 7) = phaetonlaw15_SigTells.T7 := by kernel_rfl
theorem phaetonlaw15_SigTells.bits7 : waitsOk phaetonlaw15_SigTells.T7.2 phaetonlaw15_SigTells.B7 = true := by kernel_rfl
set_option maxHeartbeats 8000000 in
set_option maxRecDepth 100000 in
theorem phaetonlaw15_SigTells.calls (k : Nat) (a0_0 : Int) (a0_1 : Int) (a0_2 : Bool) (a0_3 : Bool) (a0_4 : Int) (a0_5 : Int) (A1 : Option Addr) (c1 : Nat) (l1 : List Int) (a2 : Int) (r : Bool) (w : World) (hr1 : Kd.C (Kd.int .u8) w A1 l1.length l1) (hc1 : l1.length ≤ c1) (h : phaetonlaw15_SigTells.f k a0_0 a0_1 a0_2 a0_3 a0_4 a0_5 l1 a2 = some r) :
  Calls Try.prog 3 #[.agg #[.int .i64 a0_0, .int .i64 a0_1, .bool a0_2, .bool a0_3, .int .i64 a0_4, .int .i64 a0_5], .slice A1 l1.length c1, .int .i64 a2] w fun e w' => e = .returned (.bool r) ∧ Below w.heap.size w w' := by
 have hu23 := Try.underlying23
 have HR1 := aM hr1
 have HC1 := aM hc1
 clear hr1 hc1
 have HB := aM (Below.refl w.heap.size w)
 have H : ((phaetonlaw15_head.f k).bind fun t297 => ((some (([] : List Int) : List Int)).bind fun y298 => (if 0 ≤ (mn (l1.length : Int) 9) then (if (mn (l1.length : Int) 9) ≤ (l1.length : Int) then (if y298.length + (l1.take ((mn (l1.length : Int) 9) : Int).toNat).length < 140737488355328 then ((some (y298 ++ (l1.take ((mn (l1.length : Int) 9) : Int).toNat) : List Int)).bind fun y302 => ((sig_Put.f k y302 a0_0 a0_1 a0_2 a0_3 a0_4 a0_5 a2).bind fun bt305 => ((phaetonref15_Put.f k y302 a0_0 a0_1 a0_2 a0_3 a0_4 a0_5 a2).bind fun bt309 => ((sig_Get.f y302 a0_0 a0_1 a0_2 a0_3 a0_4 a0_5).bind fun bt313 => ((phaetonref15_Get.f k y302 a0_0 a0_1 a0_2 a0_3 a0_4 a0_5).bind fun bt315 => ((sig_Right.f a0_0 a0_1 a0_2 a0_3 a0_4 a0_5 (y302.length : Int)).bind fun t317 => ((phaetonref15_Right.f k a0_0 a0_1 a0_2 a0_3 a0_4 a0_5 (y302.length : Int)).bind fun t318 => (if (t317 == t318) = true then ((sig_Right.f a0_0 a0_1 a0_2 a0_3 a0_4 a0_5 a2).bind fun t319 => ((phaetonref15_Right.f k a0_0 a0_1 a0_2 a0_3 a0_4 a0_5 a2).bind fun t320 => (if (t319 == t320) = true then ((sig_Places.f a0_0 a0_1 a0_2 a0_3 a0_4 a0_5).bind fun t321 => ((phaetonref15_Places.f k a0_0 a0_1 a0_2 a0_3 a0_4 a0_5).bind fun t324 => ((phaetonref03_Ints.f k t321 t324).bind fun t327 => (if t327 = true then ((phaetonref15_Bytes.f k bt305.1 bt309.1).bind fun t328 => (if t328 = true then (if (bt305.2 == bt309.2) = true then (if bt313.1 = bt315.1 then (if (bt313.2 == bt315.2) = true then ((sig_Mean.f a0_0 a0_1 a0_2 a0_3 a0_4 a0_5 a2).bind fun t329 => ((phaetonref15_Mean.f k a0_0 a0_1 a0_2 a0_3 a0_4 a0_5 a2).bind fun t330 => (if t329 = t330 then (some t297) else (none)))) else (none)) else (none)) else (none)) else (none))) else (none))))) else (none)))) else (none))))))))) else (none)) else (none)) else (none)))) = some r := h
 clear h
 replace H := Option.bind_eq_some_iff.mp H
 obtain ⟨t297, A40, H⟩ := H
 replace H : ((some (([] : List Int) : List Int)).bind fun y298 => (if 0 ≤ (mn (l1.length : Int) 9) then (if (mn (l1.length : Int) 9) ≤ (l1.length : Int) then (if y298.length + (l1.take ((mn (l1.length : Int) 9) : Int).toNat).length < 140737488355328 then ((some (y298 ++ (l1.take ((mn (l1.length : Int) 9) : Int).toNat) : List Int)).bind fun y302 => ((sig_Put.f k y302 a0_0 a0_1 a0_2 a0_3 a0_4 a0_5 a2).bind fun bt305 => ((phaetonref15_Put.f k y302 a0_0 a0_1 a0_2 a0_3 a0_4 a0_5 a2).bind fun bt309 => ((sig_Get.f y302 a0_0 a0_1 a0_2 a0_3 a0_4 a0_5).bind fun bt313 => ((phaetonref15_Get.f k y302 a0_0 a0_1 a0_2 a0_3 a0_4 a0_5).bind fun bt315 => ((sig_Right.f a0_0 a0_1 a0_2 a0_3 a0_4 a0_5 (y302.length : Int)).bind fun t317 => ((phaetonref15_Right.f k a0_0 a0_1 a0_2 a0_3 a0_4 a0_5 (y302.length : Int)).bind fun t318 => (if (t317 == t318) = true then ((sig_Right.f a0_0 a0_1 a0_2 a0_3 a0_4 a0_5 a2).bind fun t319 => ((phaetonref15_Right.f k a0_0 a0_1 a0_2 a0_3 a0_4 a0_5 a2).bind fun t320 => (if (t319 == t320) = true then ((sig_Places.f a0_0 a0_1 a0_2 a0_3 a0_4 a0_5).bind fun t321 => ((phaetonref15_Places.f k a0_0 a0_1 a0_2 a0_3 a0_4 a0_5).bind fun t324 => ((phaetonref03_Ints.f k t321 t324).bind fun t327 => (if t327 = true then ((phaetonref15_Bytes.f k bt305.1 bt309.1).bind fun t328 => (if t328 = true then (if (bt305.2 == bt309.2) = true then (if bt313.1 = bt315.1 then (if (bt313.2 == bt315.2) = true then ((sig_Mean.f a0_0 a0_1 a0_2 a0_3 a0_4 a0_5 a2).bind fun t329 => ((phaetonref15_Mean.f k a0_0 a0_1 a0_2 a0_3 a0_4 a0_5 a2).bind fun t330 => (if t329 = t330 then (some t297) else (none)))) else (none)) else (none)) else (none)) else (none))) else (none))))) else (none)))) else (none))))))))) else (none)) else (none)) else (none))) = some r := H
 have A4 := aM A40
 clear A40
 obtain ⟨y298, hy298⟩ : ∃ y_ : List Int, y_ = (([] : List Int)) := ⟨_, rfl⟩
 replace H : (if 0 ≤ (mn (l1.length : Int) 9) then (if (mn (l1.length : Int) 9) ≤ (l1.length : Int) then (if y298.length + (l1.take ((mn (l1.length : Int) 9) : Int).toNat).length < 140737488355328 then ((some (y298 ++ (l1.take ((mn (l1.length : Int) 9) : Int).toNat) : List Int)).bind fun y302 => ((sig_Put.f k y302 a0_0 a0_1 a0_2 a0_3 a0_4 a0_5 a2).bind fun bt305 => ((phaetonref15_Put.f k y302 a0_0 a0_1 a0_2 a0_3 a0_4 a0_5 a2).bind fun bt309 => ((sig_Get.f y302 a0_0 a0_1 a0_2 a0_3 a0_4 a0_5).bind fun bt313 => ((phaetonref15_Get.f k y302 a0_0 a0_1 a0_2 a0_3 a0_4 a0_5).bind fun bt315 => ((sig_Right.f a0_0 a0_1 a0_2 a0_3 a0_4 a0_5 (y302.length : Int)).bind fun t317 => ((phaetonref15_Right.f k a0_0 a0_1 a0_2 a0_3 a0_4 a0_5 (y302.length : Int)).bind fun t318 => (if (t317 == t318) = true then ((sig_Right.f a0_0 a0_1 a0_2 a0_3 a0_4 a0_5 a2).bind fun t319 => ((phaetonref15_Right.f k a0_0 a0_1 a0_2 a0_3 a0_4 a0_5 a2).bind fun t320 => (if (t319 == t320) = true then ((sig_Places.f a0_0 a0_1 a0_2 a0_3 a0_4 a0_5).bind fun t321 => ((phaetonref15_Places.f k a0_0 a0_1 a0_2 a0_3 a0_4 a0_5).bind fun t324 => ((phaetonref03_Ints.f k t321 t324).bind fun t327 => (if t327 = true then ((phaetonref15_Bytes.f k bt305.1 bt309.1).bind fun t328 => (if t328 = true then (if (bt305.2 == bt309.2) = true then (if bt313.1 = bt315.1 then (if (bt313.2 == bt315.2) = true then ((sig_Mean.f a0_0 a0_1 a0_2 a0_3 a0_4 a0_5 a2).bind fun t329 => ((phaetonref15_Mean.f k a0_0 a0_1 a0_2 a0_3 a0_4 a0_5 a2).bind fun t330 => (if t329 = t330 then (some t297) else (none)))) else (none)) else (none)) else (none)) else (none))) else (none))))) else (none)))) else (none))))))))) else (none)) else (none)) else (none)) = some r := by first | (rw [hy298]; with_reducible exact H) | (have H2_ := (Option.bind_some _ _).symm.trans H; rw [hy298]; with_reducible exact H2_) | (have H2_ := (Option.bind_some _ _).symm.trans H; with_reducible exact H2_) | with_reducible exact H | (rw [hy298]; exact H) | exact H
 have Ny298 := aM hy298
 clear hy298
 obtain ⟨ji5, hji5⟩ : ∃ j_ : Int, (mn (l1.length : Int) 9) = j_ := ⟨_, rfl⟩
 replace H : (if 0 ≤ (ji5) then (if (ji5) ≤ (l1.length : Int) then (if y298.length + (l1.take ((ji5) : Int).toNat).length < 140737488355328 then ((some (y298 ++ (l1.take ((ji5) : Int).toNat) : List Int)).bind fun y302 => ((sig_Put.f k y302 a0_0 a0_1 a0_2 a0_3 a0_4 a0_5 a2).bind fun bt305 => ((phaetonref15_Put.f k y302 a0_0 a0_1 a0_2 a0_3 a0_4 a0_5 a2).bind fun bt309 => ((sig_Get.f y302 a0_0 a0_1 a0_2 a0_3 a0_4 a0_5).bind fun bt313 => ((phaetonref15_Get.f k y302 a0_0 a0_1 a0_2 a0_3 a0_4 a0_5).bind fun bt315 => ((sig_Right.f a0_0 a0_1 a0_2 a0_3 a0_4 a0_5 (y302.length : Int)).bind fun t317 => ((phaetonref15_Right.f k a0_0 a0_1 a0_2 a0_3 a0_4 a0_5 (y302.length : Int)).bind fun t318 => (if (t317 == t318) = true then ((sig_Right.f a0_0 a0_1 a0_2 a0_3 a0_4 a0_5 a2).bind fun t319 => ((phaetonref15_Right.f k a0_0 a0_1 a0_2 a0_3 a0_4 a0_5 a2).bind fun t320 => (if (t319 == t320) = true then ((sig_Places.f a0_0 a0_1 a0_2 a0_3 a0_4 a0_5).bind fun t321 => ((phaetonref15_Places.f k a0_0 a0_1 a0_2 a0_3 a0_4 a0_5).bind fun t324 => ((phaetonref03_Ints.f k t321 t324).bind fun t327 => (if t327 = true then ((phaetonref15_Bytes.f k bt305.1 bt309.1).bind fun t328 => (if t328 = true then (if (bt305.2 == bt309.2) = true then (if bt313.1 = bt315.1 then (if (bt313.2 == bt315.2) = true then ((sig_Mean.f a0_0 a0_1 a0_2 a0_3 a0_4 a0_5 a2).bind fun t329 => ((phaetonref15_Mean.f k a0_0 a0_1 a0_2 a0_3 a0_4 a0_5 a2).bind fun t330 => (if t329 = t330 then (some t297) else (none)))) else (none)) else (none)) else (none)) else (none))) else (none))))) else (none)))) else (none))))))))) else (none)) else (none)) else (none)) = some r := by first | (rw [hji5] at H; exact H) | (simp only [hji5] at H ⊢; exact H)
 (try rw [hji5] at A4)
 (try (have hji5h : ji5 ≤ 9 := by (rw [← hji5]; unfold mn; (repeat' split) <;> omega)))
 (try (have hji5g : ji5 ≤ 64 := by omega))
 (try (have hji5l : 0 ≤ ji5 := by (rw [← hji5]; unfold mn; (repeat' split) <;> omega)))
 (try (have hji5m : 0 ≤ ji5 := by omega))
 have hji5_ : (if 9 < (l1.length : Int) then 9 else (l1.length : Int)) = ji5 := hji5
 by_cases c6 : 0 ≤ (ji5)
 ·rw [if_pos c6] at H
  have c6b0 := eq_true c6
  have c6b1 : decide (0 ≤ (ji5)) = true := decide_eq_true c6
  clear c6
  by_cases c7 : (ji5) ≤ (l1.length : Int)
  ·rw [if_pos c7] at H
   have c7b0 := eq_true c7
   have c7b1 : decide ((ji5) ≤ (l1.length : Int)) = true := decide_eq_true c7
   clear c7
   by_cases c8 : y298.length + (l1.take ((ji5) : Int).toNat).length < 140737488355328
   ·rw [if_pos c8] at H
    have LMc8 := aM c8
    clear c8
    obtain ⟨y302, hy302⟩ : ∃ y_ : List Int, y_ = (y298 ++ (l1.take ((ji5) : Int).toNat)) := ⟨_, rfl⟩
    replace H : ((sig_Put.f k y302 a0_0 a0_1 a0_2 a0_3 a0_4 a0_5 a2).bind fun bt305 => ((phaetonref15_Put.f k y302 a0_0 a0_1 a0_2 a0_3 a0_4 a0_5 a2).bind fun bt309 => ((sig_Get.f y302 a0_0 a0_1 a0_2 a0_3 a0_4 a0_5).bind fun bt313 => ((phaetonref15_Get.f k y302 a0_0 a0_1 a0_2 a0_3 a0_4 a0_5).bind fun bt315 => ((sig_Right.f a0_0 a0_1 a0_2 a0_3 a0_4 a0_5 (y302.length : Int)).bind fun t317 => ((phaetonref15_Right.f k a0_0 a0_1 a0_2 a0_3 a0_4 a0_5 (y302.length : Int)).bind fun t318 => (if (t317 == t318) = true then ((sig_Right.f a0_0 a0_1 a0_2 a0_3 a0_4 a0_5 a2).bind fun t319 => ((phaetonref15_Right.f k a0_0 a0_1 a0_2 a0_3 a0_4 a0_5 a2).bind fun t320 => (if (t319 == t320) = true then ((sig_Places.f a0_0 a0_1 a0_2 a0_3 a0_4 a0_5).bind fun t321 => ((phaetonref15_Places.f k a0_0 a0_1 a0_2 a0_3 a0_4 a0_5).bind fun t324 => ((phaetonref03_Ints.f k t321 t324).bind fun t327 => (if t327 = true then ((phaetonref15_Bytes.f k bt305.1 bt309.1).bind fun t328 => (if t328 = true then (if (bt305.2 == bt309.2) = true then (if bt313.1 = bt315.1 then (if (bt313.2 == bt315.2) = true then ((sig_Mean.f a0_0 a0_1 a0_2 a0_3 a0_4 a0_5 a2).bind fun t329 => ((phaetonref15_Mean.f k a0_0 a0_1 a0_2 a0_3 a0_4 a0_5 a2).bind fun t330 => (if t329 = t330 then (some t297) else (none)))) else (none)) else (none)) else (none)) else (none))) else (none))))) else (none)))) else (none)))))))) = some r := by first | (rw [hy302]; with_reducible exact H) | (have H2_ := (Option.bind_some _ _).symm.trans H; rw [hy302]; with_reducible exact H2_) | (have H2_ := (Option.bind_some _ _).symm.trans H; with_reducible exact H2_) | with_reducible exact H | (rw [hy302]; exact H) | exact H
    have Ny302 := aM hy302
    clear hy302
    replace H := Option.bind_eq_some_iff.mp H
    obtain ⟨⟨t305, t308⟩, A90, H⟩ := H
    replace H : ((phaetonref15_Put.f k y302 a0_0 a0_1 a0_2 a0_3 a0_4 a0_5 a2).bind fun bt309 => ((sig_Get.f y302 a0_0 a0_1 a0_2 a0_3 a0_4 a0_5).bind fun bt313 => ((phaetonref15_Get.f k y302 a0_0 a0_1 a0_2 a0_3 a0_4 a0_5).bind fun bt315 => ((sig_Right.f a0_0 a0_1 a0_2 a0_3 a0_4 a0_5 (y302.length : Int)).bind fun t317 => ((phaetonref15_Right.f k a0_0 a0_1 a0_2 a0_3 a0_4 a0_5 (y302.length : Int)).bind fun t318 => (if (t317 == t318) = true then ((sig_Right.f a0_0 a0_1 a0_2 a0_3 a0_4 a0_5 a2).bind fun t319 => ((phaetonref15_Right.f k a0_0 a0_1 a0_2 a0_3 a0_4 a0_5 a2).bind fun t320 => (if (t319 == t320) = true then ((sig_Places.f a0_0 a0_1 a0_2 a0_3 a0_4 a0_5).bind fun t321 => ((phaetonref15_Places.f k a0_0 a0_1 a0_2 a0_3 a0_4 a0_5).bind fun t324 => ((phaetonref03_Ints.f k t321 t324).bind fun t327 => (if t327 = true then ((phaetonref15_Bytes.f k t305 bt309.1).bind fun t328 => (if t328 = true then (if (t308 == bt309.2) = true then (if bt313.1 = bt315.1 then (if (bt313.2 == bt315.2) = true then ((sig_Mean.f a0_0 a0_1 a0_2 a0_3 a0_4 a0_5 a2).bind fun t329 => ((phaetonref15_Mean.f k a0_0 a0_1 a0_2 a0_3 a0_4 a0_5 a2).bind fun t330 => (if t329 = t330 then (some t297) else (none)))) else (none)) else (none)) else (none)) else (none))) else (none))))) else (none)))) else (none))))))) = some r := H
    have A9 := aM A90
    clear A90
    replace H := Option.bind_eq_some_iff.mp H
    obtain ⟨⟨t309, t312⟩, A100, H⟩ := H
    replace H : ((sig_Get.f y302 a0_0 a0_1 a0_2 a0_3 a0_4 a0_5).bind fun bt313 => ((phaetonref15_Get.f k y302 a0_0 a0_1 a0_2 a0_3 a0_4 a0_5).bind fun bt315 => ((sig_Right.f a0_0 a0_1 a0_2 a0_3 a0_4 a0_5 (y302.length : Int)).bind fun t317 => ((phaetonref15_Right.f k a0_0 a0_1 a0_2 a0_3 a0_4 a0_5 (y302.length : Int)).bind fun t318 => (if (t317 == t318) = true then ((sig_Right.f a0_0 a0_1 a0_2 a0_3 a0_4 a0_5 a2).bind fun t319 => ((phaetonref15_Right.f k a0_0 a0_1 a0_2 a0_3 a0_4 a0_5 a2).bind fun t320 => (if (t319 == t320) = true then ((sig_Places.f a0_0 a0_1 a0_2 a0_3 a0_4 a0_5).bind fun t321 => ((phaetonref15_Places.f k a0_0 a0_1 a0_2 a0_3 a0_4 a0_5).bind fun t324 => ((phaetonref03_Ints.f k t321 t324).bind fun t327 => (if t327 = true then ((phaetonref15_Bytes.f k t305 t309).bind fun t328 => (if t328 = true then (if (t308 == t312) = true then (if bt313.1 = bt315.1 then (if (bt313.2 == bt315.2) = true then ((sig_Mean.f a0_0 a0_1 a0_2 a0_3 a0_4 a0_5 a2).bind fun t329 => ((phaetonref15_Mean.f k a0_0 a0_1 a0_2 a0_3 a0_4 a0_5 a2).bind fun t330 => (if t329 = t330 then (some t297) else (none)))) else (none)) else (none)) else (none)) else (none))) else (none))))) else (none)))) else (none)))))) = some r := H
    have A10 := aM A100
    clear A100
    replace H := Option.bind_eq_some_iff.mp H
    obtain ⟨⟨t313, t314⟩, A110, H⟩ := H
    replace H : ((phaetonref15_Get.f k y302 a0_0 a0_1 a0_2 a0_3 a0_4 a0_5).bind fun bt315 => ((sig_Right.f a0_0 a0_1 a0_2 a0_3 a0_4 a0_5 (y302.length : Int)).bind fun t317 => ((phaetonref15_Right.f k a0_0 a0_1 a0_2 a0_3 a0_4 a0_5 (y302.length : Int)).bind fun t318 => (if (t317 == t318) = true then ((sig_Right.f a0_0 a0_1 a0_2 a0_3 a0_4 a0_5 a2).bind fun t319 => ((phaetonref15_Right.f k a0_0 a0_1 a0_2 a0_3 a0_4 a0_5 a2).bind fun t320 => (if (t319 == t320) = true then ((sig_Places.f a0_0 a0_1 a0_2 a0_3 a0_4 a0_5).bind fun t321 => ((phaetonref15_Places.f k a0_0 a0_1 a0_2 a0_3 a0_4 a0_5).bind fun t324 => ((phaetonref03_Ints.f k t321 t324).bind fun t327 => (if t327 = true then ((phaetonref15_Bytes.f k t305 t309).bind fun t328 => (if t328 = true then (if (t308 == t312) = true then (if t313 = bt315.1 then (if (t314 == bt315.2) = true then ((sig_Mean.f a0_0 a0_1 a0_2 a0_3 a0_4 a0_5 a2).bind fun t329 => ((phaetonref15_Mean.f k a0_0 a0_1 a0_2 a0_3 a0_4 a0_5 a2).bind fun t330 => (if t329 = t330 then (some t297) else (none)))) else (none)) else (none)) else (none)) else (none))) else (none))))) else (none)))) else (none))))) = some r := H
    have A11 := aM A110
    clear A110
    replace H := Option.bind_eq_some_iff.mp H
    obtain ⟨⟨t315, t316⟩, A120, H⟩ := H
    replace H : ((sig_Right.f a0_0 a0_1 a0_2 a0_3 a0_4 a0_5 (y302.length : Int)).bind fun t317 => ((phaetonref15_Right.f k a0_0 a0_1 a0_2 a0_3 a0_4 a0_5 (y302.length : Int)).bind fun t318 => (if (t317 == t318) = true then ((sig_Right.f a0_0 a0_1 a0_2 a0_3 a0_4 a0_5 a2).bind fun t319 => ((phaetonref15_Right.f k a0_0 a0_1 a0_2 a0_3 a0_4 a0_5 a2).bind fun t320 => (if (t319 == t320) = true then ((sig_Places.f a0_0 a0_1 a0_2 a0_3 a0_4 a0_5).bind fun t321 => ((phaetonref15_Places.f k a0_0 a0_1 a0_2 a0_3 a0_4 a0_5).bind fun t324 => ((phaetonref03_Ints.f k t321 t324).bind fun t327 => (if t327 = true then ((phaetonref15_Bytes.f k t305 t309).bind fun t328 => (if t328 = true then (if (t308 == t312) = true then (if t313 = t315 then (if (t314 == t316) = true then ((sig_Mean.f a0_0 a0_1 a0_2 a0_3 a0_4 a0_5 a2).bind fun t329 => ((phaetonref15_Mean.f k a0_0 a0_1 a0_2 a0_3 a0_4 a0_5 a2).bind fun t330 => (if t329 = t330 then (some t297) else (none)))) else (none)) else (none)) else (none)) else (none))) else (none))))) else (none)))) else (none)))) = some r := H
    have A12 := aM A120
    clear A120
    replace H := Option.bind_eq_some_iff.mp H
    obtain ⟨t317, A130, H⟩ := H
    replace H : ((phaetonref15_Right.f k a0_0 a0_1 a0_2 a0_3 a0_4 a0_5 (y302.length : Int)).bind fun t318 => (if (t317 == t318) = true then ((sig_Right.f a0_0 a0_1 a0_2 a0_3 a0_4 a0_5 a2).bind fun t319 => ((phaetonref15_Right.f k a0_0 a0_1 a0_2 a0_3 a0_4 a0_5 a2).bind fun t320 => (if (t319 == t320) = true then ((sig_Places.f a0_0 a0_1 a0_2 a0_3 a0_4 a0_5).bind fun t321 => ((phaetonref15_Places.f k a0_0 a0_1 a0_2 a0_3 a0_4 a0_5).bind fun t324 => ((phaetonref03_Ints.f k t321 t324).bind fun t327 => (if t327 = true then ((phaetonref15_Bytes.f k t305 t309).bind fun t328 => (if t328 = true then (if (t308 == t312) = true then (if t313 = t315 then (if (t314 == t316) = true then ((sig_Mean.f a0_0 a0_1 a0_2 a0_3 a0_4 a0_5 a2).bind fun t329 => ((phaetonref15_Mean.f k a0_0 a0_1 a0_2 a0_3 a0_4 a0_5 a2).bind fun t330 => (if t329 = t330 then (some t297) else (none)))) else (none)) else (none)) else (none)) else (none))) else (none))))) else (none)))) else (none))) = some r := H
    have A13 := aM A130
    clear A130
    replace H := Option.bind_eq_some_iff.mp H
    obtain ⟨t318, A140, H⟩ := H
    replace H : (if (t317 == t318) = true then ((sig_Right.f a0_0 a0_1 a0_2 a0_3 a0_4 a0_5 a2).bind fun t319 => ((phaetonref15_Right.f k a0_0 a0_1 a0_2 a0_3 a0_4 a0_5 a2).bind fun t320 => (if (t319 == t320) = true then ((sig_Places.f a0_0 a0_1 a0_2 a0_3 a0_4 a0_5).bind fun t321 => ((phaetonref15_Places.f k a0_0 a0_1 a0_2 a0_3 a0_4 a0_5).bind fun t324 => ((phaetonref03_Ints.f k t321 t324).bind fun t327 => (if t327 = true then ((phaetonref15_Bytes.f k t305 t309).bind fun t328 => (if t328 = true then (if (t308 == t312) = true then (if t313 = t315 then (if (t314 == t316) = true then ((sig_Mean.f a0_0 a0_1 a0_2 a0_3 a0_4 a0_5 a2).bind fun t329 => ((phaetonref15_Mean.f k a0_0 a0_1 a0_2 a0_3 a0_4 a0_5 a2).bind fun t330 => (if t329 = t330 then (some t297) else (none)))) else (none)) else (none)) else (none)) else (none))) else (none))))) else (none)))) else (none)) = some r := H
    have A14 := aM A140
    clear A140
    by_cases c15 : (t317 == t318) = true
    ·rw [if_pos c15] at H
     have c15b0 : (t317 == t318) = true := c15
     (try (have c15b1 : decide (t317 = t318) = true := by simpa using c15))
     (try (have c15b2 : (t317 == t318) = true := by simpa using c15))
     clear c15
     replace H := Option.bind_eq_some_iff.mp H
     obtain ⟨t319, A160, H⟩ := H
     replace H : ((phaetonref15_Right.f k a0_0 a0_1 a0_2 a0_3 a0_4 a0_5 a2).bind fun t320 => (if (t319 == t320) = true then ((sig_Places.f a0_0 a0_1 a0_2 a0_3 a0_4 a0_5).bind fun t321 => ((phaetonref15_Places.f k a0_0 a0_1 a0_2 a0_3 a0_4 a0_5).bind fun t324 => ((phaetonref03_Ints.f k t321 t324).bind fun t327 => (if t327 = true then ((phaetonref15_Bytes.f k t305 t309).bind fun t328 => (if t328 = true then (if (t308 == t312) = true then (if t313 = t315 then (if (t314 == t316) = true then ((sig_Mean.f a0_0 a0_1 a0_2 a0_3 a0_4 a0_5 a2).bind fun t329 => ((phaetonref15_Mean.f k a0_0 a0_1 a0_2 a0_3 a0_4 a0_5 a2).bind fun t330 => (if t329 = t330 then (some t297) else (none)))) else (none)) else (none)) else (none)) else (none))) else (none))))) else (none))) = some r := H
     have A16 := aM A160
     clear A160
     replace H := Option.bind_eq_some_iff.mp H
     obtain ⟨t320, A170, H⟩ := H
     replace H : (if (t319 == t320) = true then ((sig_Places.f a0_0 a0_1 a0_2 a0_3 a0_4 a0_5).bind fun t321 => ((phaetonref15_Places.f k a0_0 a0_1 a0_2 a0_3 a0_4 a0_5).bind fun t324 => ((phaetonref03_Ints.f k t321 t324).bind fun t327 => (if t327 = true then ((phaetonref15_Bytes.f k t305 t309).bind fun t328 => (if t328 = true then (if (t308 == t312) = true then (if t313 = t315 then (if (t314 == t316) = true then ((sig_Mean.f a0_0 a0_1 a0_2 a0_3 a0_4 a0_5 a2).bind fun t329 => ((phaetonref15_Mean.f k a0_0 a0_1 a0_2 a0_3 a0_4 a0_5 a2).bind fun t330 => (if t329 = t330 then (some t297) else (none)))) else (none)) else (none)) else (none)) else (none))) else (none))))) else (none)) = some r := H
     have A17 := aM A170
     clear A170
     by_cases c18 : (t319 == t320) = true
     ·rw [if_pos c18] at H
      have c18b0 : (t319 == t320) = true := c18
      (try (have c18b1 : decide (t319 = t320) = true := by simpa using c18))
      (try (have c18b2 : (t319 == t320) = true := by simpa using c18))
      clear c18
      replace H := Option.bind_eq_some_iff.mp H
      obtain ⟨t321, A190, H⟩ := H
      replace H : ((phaetonref15_Places.f k a0_0 a0_1 a0_2 a0_3 a0_4 a0_5).bind fun t324 => ((phaetonref03_Ints.f k t321 t324).bind fun t327 => (if t327 = true then ((phaetonref15_Bytes.f k t305 t309).bind fun t328 => (if t328 = true then (if (t308 == t312) = true then (if t313 = t315 then (if (t314 == t316) = true then ((sig_Mean.f a0_0 a0_1 a0_2 a0_3 a0_4 a0_5 a2).bind fun t329 => ((phaetonref15_Mean.f k a0_0 a0_1 a0_2 a0_3 a0_4 a0_5 a2).bind fun t330 => (if t329 = t330 then (some t297) else (none)))) else (none)) else (none)) else (none)) else (none))) else (none)))) = some r := H
      have A19 := aM A190
      clear A190
      replace H := Option.bind_eq_some_iff.mp H
      obtain ⟨t324, A200, H⟩ := H
      replace H : ((phaetonref03_Ints.f k t321 t324).bind fun t327 => (if t327 = true then ((phaetonref15_Bytes.f k t305 t309).bind fun t328 => (if t328 = true then (if (t308 == t312) = true then (if t313 = t315 then (if (t314 == t316) = true then ((sig_Mean.f a0_0 a0_1 a0_2 a0_3 a0_4 a0_5 a2).bind fun t329 => ((phaetonref15_Mean.f k a0_0 a0_1 a0_2 a0_3 a0_4 a0_5 a2).bind fun t330 => (if t329 = t330 then (some t297) else (none)))) else (none)) else (none)) else (none)) else (none))) else (none))) = some r := H
      have A20 := aM A200
      clear A200
      replace H := Option.bind_eq_some_iff.mp H
      obtain ⟨t327, A210, H⟩ := H
      replace H : (if t327 = true then ((phaetonref15_Bytes.f k t305 t309).bind fun t328 => (if t328 = true then (if (t308 == t312) = true then (if t313 = t315 then (if (t314 == t316) = true then ((sig_Mean.f a0_0 a0_1 a0_2 a0_3 a0_4 a0_5 a2).bind fun t329 => ((phaetonref15_Mean.f k a0_0 a0_1 a0_2 a0_3 a0_4 a0_5 a2).bind fun t330 => (if t329 = t330 then (some t297) else (none)))) else (none)) else (none)) else (none)) else (none))) else (none)) = some r := H
      have A21 := aM A210
      clear A210
      by_cases c22 : t327 = true
      ·subst c22
       have H1 : ((phaetonref15_Bytes.f k t305 t309).bind fun t328 => (if t328 = true then (if (t308 == t312) = true then (if t313 = t315 then (if (t314 == t316) = true then ((sig_Mean.f a0_0 a0_1 a0_2 a0_3 a0_4 a0_5 a2).bind fun t329 => ((phaetonref15_Mean.f k a0_0 a0_1 a0_2 a0_3 a0_4 a0_5 a2).bind fun t330 => (if t329 = t330 then (some t297) else (none)))) else (none)) else (none)) else (none)) else (none))) = some r := by rw [if_pos rfl] at H; exact H
       clear H
       have H := H1
       clear H1
       replace H := Option.bind_eq_some_iff.mp H
       obtain ⟨t328, A230, H⟩ := H
       replace H : (if t328 = true then (if (t308 == t312) = true then (if t313 = t315 then (if (t314 == t316) = true then ((sig_Mean.f a0_0 a0_1 a0_2 a0_3 a0_4 a0_5 a2).bind fun t329 => ((phaetonref15_Mean.f k a0_0 a0_1 a0_2 a0_3 a0_4 a0_5 a2).bind fun t330 => (if t329 = t330 then (some t297) else (none)))) else (none)) else (none)) else (none)) else (none)) = some r := H
       have A23 := aM A230
       clear A230
       by_cases c24 : t328 = true
       ·subst c24
        have H1 : (if (t308 == t312) = true then (if t313 = t315 then (if (t314 == t316) = true then ((sig_Mean.f a0_0 a0_1 a0_2 a0_3 a0_4 a0_5 a2).bind fun t329 => ((phaetonref15_Mean.f k a0_0 a0_1 a0_2 a0_3 a0_4 a0_5 a2).bind fun t330 => (if t329 = t330 then (some t297) else (none)))) else (none)) else (none)) else (none)) = some r := by rw [if_pos rfl] at H; exact H
        clear H
        have H := H1
        clear H1
        by_cases c25 : (t308 == t312) = true
        ·rw [if_pos c25] at H
         have c25b0 : (t308 == t312) = true := c25
         (try (have c25b1 : decide (t308 = t312) = true := by simpa using c25))
         (try (have c25b2 : (t308 == t312) = true := by simpa using c25))
         clear c25
         by_cases c26 : t313 = t315
         ·rw [if_pos c26] at H
          have c26b0 : (t313 == t315) = true := beq_iff_eq.mpr c26
          have c26b1 : (t313 != t315) = false := bne_eq_false_iff_eq.mpr c26
          clear c26
          by_cases c27 : (t314 == t316) = true
          ·rw [if_pos c27] at H
           have c27b0 : (t314 == t316) = true := c27
           (try (have c27b1 : decide (t314 = t316) = true := by simpa using c27))
           (try (have c27b2 : (t314 == t316) = true := by simpa using c27))
           clear c27
           replace H := Option.bind_eq_some_iff.mp H
           obtain ⟨t329, A280, H⟩ := H
           replace H : ((phaetonref15_Mean.f k a0_0 a0_1 a0_2 a0_3 a0_4 a0_5 a2).bind fun t330 => (if t329 = t330 then (some t297) else (none))) = some r := H
           have A28 := aM A280
           clear A280
           replace H := Option.bind_eq_some_iff.mp H
           obtain ⟨t330, A290, H⟩ := H
           replace H : (if t329 = t330 then (some t297) else (none)) = some r := H
           have A29 := aM A290
           clear A290
           by_cases c30 : t329 = t330
           ·rw [if_pos c30] at H
            have c30b0 : (t329 == t330) = true := beq_iff_eq.mpr c30
            have c30b1 : (t329 != t330) = false := bne_eq_false_iff_eq.mpr c30
            clear c30
            obtain rfl := Option.some.inj H
            go_enter Try.func3, Try.ntmps3
            try go_wp2_with (first | ((with_reducible refine gate_dst (N := 3) rfl ?_); refine box_event ?hg (N := 3) ?hd (cs := #[.int .i64 a0_0, .int .i64 a0_1, .bool a0_2, .bool a0_3, .int .i64 a0_4, .int .i64 a0_5]) (t := 23) ?hr ?_; (case hd => rfl); (case hg => rfl); (case hr => first | (go_simp; done) | (go_simp; rfl)); intro gb296 hg w31 hbox hb; have n0_ := aM (lT (by repeat (first | (with_reducible first | exact HB.out | apply lA | apply lN | apply lW) | exact HB.out)) hb); have n1_ := aM (hbox); have n2_ := aM ((by rw [hg]; exact (lZ (by repeat (first | (with_reducible first | exact HB.out | apply lA | apply lN | apply lW) | exact HB.out))) : w.heap.size ≤ gb296)); have n3_ := aM ((by rw [hg]; exact (lZ (by repeat (first | (with_reducible first | exact HB.out | apply lA | apply lN | apply lW) | exact HB.out))) : w.heap.size ≤ gb296)); clear HB; have HB := n0_; have BK296 := n1_; have GW296 := n2_; have GE296 := n3_; clear n0_ n1_ n2_ n3_; clear hb hbox hg) | ((with_reducible refine gate_callee (f := 11) rfl ?_); refine goesL_ (some 16) rfl rfl Try.func11 (by kernel_rfl) rfl #[] rfl (by (try simp only [List.map_toArray, List.map_cons, List.map_nil]); first | done | rfl | (simp only [List.length_drop, List.length_take]; rfl)) ?_; (with_reducible refine (phaetonlaw15_head.calls k  t297 _ A4.out).mono ?_); rintro e w32 ⟨rfl, hb⟩; refine ⟨_, rfl, ?_⟩; have n0_ := aM (blk_below (g := gb296) (o := .cells #[.int .i64 a0_0, .int .i64 a0_1, .bool a0_2, .bool a0_3, .int .i64 a0_4, .int .i64 a0_5] 23 (0, 0)) (by (with_reducible repeat (first | refine bN ?_ _ | refine bW ?_ | refine bA ?_ _)); exact BK296.out) hb); have n1_ := aM (lT (by repeat (first | (with_reducible first | exact HB.out | apply lA | apply lN | apply lW | refine lS ?_ GE296.out) | exact HB.out)) hb); clear BK296; clear HB; have BK296 := n0_; have HB := n1_; clear n0_ n1_; (try clear hb); (try clear hb2); (try clear hk); (try clear hi)) | ((with_reducible refine gate_dst (N := 17) rfl ?_); refine Kd.R_lit (Kd.int .u8) _ 5 ?hg (N := 17) ?hd (xs := ([] : List Int)) (inner := []) (ok := fun _ => True) (okp := fun _ => True) ?hr ?hp (fun _ hk => hk) trivial (Below.refl _ _) (Nat.le_refl _) (by simp) ?_; (case hd => rfl); (case hg => rfl); (case hr => first | (go_simp; done) | (go_simp; rfl)); (case hp => exact (Reps.none _ _)); intro v299 w33 ho34 hb hg_ hnew_; clear hg_ hnew_; (first | rw [← Ny298.out] at ho34 | (simp only [Int.reduceToNat] at ho34; rw [← Ny298.out] at ho34)); have n0_ := aM (Kd.R_lower ho34 (lZ (by repeat (first | (with_reducible first | exact HB.out | apply lA | apply lN | apply lW | refine lS ?_ GE296.out) | exact HB.out)))); have n1_ := aM (blk_below (g := gb296) (o := .cells #[.int .i64 a0_0, .int .i64 a0_1, .bool a0_2, .bool a0_3, .int .i64 a0_4, .int .i64 a0_5] 23 (0, 0)) (by (with_reducible repeat (first | refine bN ?_ _ | refine bW ?_ | refine bA ?_ _)); exact BK296.out) hb); have n2_ := aM (lT (by repeat (first | (with_reducible first | exact HB.out | apply lA | apply lN | apply lW | refine lS ?_ GE296.out) | exact HB.out)) hb); clear BK296; clear HB; have HO300 := n0_; have BK296 := n1_; have HB := n2_; clear n0_ n1_ n2_; clear hb ho34; obtain ⟨i035, hi035, _, hsz35, _⟩ := info_parts info5; obtain ⟨hcut35, hA35, hC35⟩ := print_take_of (P := Try.prog) (Value.int .u8) 0 24 5 .i64 Try.underlying24 hi035 hsz35 A1 c1 l1 (ji5) (oD (by first | (with_reducible assumption) | assumption)) (oD (by first | (with_reducible assumption) | assumption)) HC1.out; have HR301 := aM (Kd.C_of_reads (h1 := fun _ => rfl) (hA35 _ (Kd.reads_of_C HR1.out))); have HC301 := aM hC35; clear hA35 hC35 hi035 hsz35) | ((with_reducible refine gate_builtin (b := .append) (xs := #[.tmp 17, .tmp 22]) rfl ?_); at_builtin; refine Kd.R_append_rows (Kd.int .u8) (w0 := w) w.heap.size rfl (.tmp 17) (.tmp 22) 24 5 (.int .u8 0) 1 rfl Try.underlying24 info5 rfl (by decide) (by omega) v299 y298 (l1.take ((ji5) : Int).toNat) _ _ _ (fun _ => True) (fun _ => False) rfl rfl ?aO ?aR (fun _ _ h => h) (fun _ h => h.elim) ?aF ?aB ?aS ?aL ?_; (case aR => first | (have h2_ := (Kd.C_below HR301.out HB.out); rw [show (l1.take ((ji5) : Int).toNat).length = (ji5).toNat from (by rw [List.length_take]; have h_ : ((ji5) : Int) ≤ (l1.length : Int) := oD (by first | (with_reducible assumption) | assumption); omega)] at h2_; exact h2_) | (rw [← show (l1.take ((ji5) : Int).toNat).length = (ji5).toNat from (by rw [List.length_take]; have h_ : ((ji5) : Int) ≤ (l1.length : Int) := oD (by first | (with_reducible assumption) | assumption); omega)]; repeat (first | exact (Kd.C_below HR301.out HB.out) | (with_reducible refine Kd.C_alloc ?_ _) | (with_reducible refine Kd.C_drewN ?_ _) | (with_reducible refine Kd.C_drew ?_))) | (repeat (first | exact (Kd.C_below HR301.out HB.out) | (with_reducible refine Kd.C_alloc ?_ _) | (with_reducible refine Kd.C_drewN ?_ _) | (with_reducible refine Kd.C_drew ?_)))); (case aB => exact (by repeat (first | (with_reducible first | exact HB.out | apply lA | apply lN | apply lW | refine lS ?_ GE296.out) | exact HB.out))); (case aF => exact (fun _ _ => trivial)); (case aO => exact (by (with_reducible repeat (first | apply rA | apply rN | apply rW)); exact HO300.out)); (case aS => exact (lZ (by repeat (first | (with_reducible first | exact HB.out | apply lA | apply lN | apply lW | refine lS ?_ GE296.out) | exact HB.out)))); (case aL => have := LMc8.out; have hlx_ := (show (l1.take ((ji5) : Int).toNat).length = (ji5).toNat from (by rw [List.length_take]; have h_ : ((ji5) : Int) ≤ (l1.length : Int) := oD (by first | (with_reducible assumption) | assumption); omega)); omega); intro v303 w36 ho hb hg hat; rw [← Ny302.out] at ho; have n0_ := aM (blk_grown (g := gb296) (o := .cells #[.int .i64 a0_0, .int .i64 a0_1, .bool a0_2, .bool a0_3, .int .i64 a0_4, .int .i64 a0_5] 23 (0, 0)) (by (with_reducible repeat (first | refine bN ?_ _ | refine bW ?_ | refine bA ?_ _)); exact BK296.out) hg (Kd.R_ne HO300.out BK296.out (by decide))); have n1_ := aM (hb); have n2_ := aM (ho); clear BK296; clear HB; clear HO300; have BK296 := n0_; have HB := n1_; have HO304 := n2_; clear n0_ n1_ n2_; clear ho hb hg hat; have hcz37_0 : w36.cell? ⟨gb296, 0, none⟩ = some (.int .i64 a0_0) := (bC BK296.out 0).trans rfl; have hcz37_1 : w36.cell? ⟨gb296, 1, none⟩ = some (.int .i64 a0_1) := (bC BK296.out 1).trans rfl; have hcz37_2 : w36.cell? ⟨gb296, 2, none⟩ = some (.bool a0_2) := (bC BK296.out 2).trans rfl; have hcz37_3 : w36.cell? ⟨gb296, 3, none⟩ = some (.bool a0_3) := (bC BK296.out 3).trans rfl; have hcz37_4 : w36.cell? ⟨gb296, 4, none⟩ = some (.int .i64 a0_4) := (bC BK296.out 4).trans rfl; have hcz37_5 : w36.cell? ⟨gb296, 5, none⟩ = some (.int .i64 a0_5) := (bC BK296.out 5).trans rfl; have hfz37_0 := bF BK296.out 0; have hfz37_1 := bF BK296.out 1; have hfz37_2 := bF BK296.out 2; have hfz37_3 := bF BK296.out 3; have hfz37_4 := bF BK296.out 4; have hfz37_5 := bF BK296.out 5; obtain ⟨Ao38, co38, eo38⟩ := Kd.R_slice HO304.out; subst eo38) | ((with_reducible refine gate_callee (f := 12) rfl ?_); refine goesL_ (some 28) rfl rfl Try.func12 (by kernel_rfl) rfl #[.slice Ao38 y302.length co38, .agg #[.int .i64 a0_0, .int .i64 a0_1, .bool a0_2, .bool a0_3, .int .i64 a0_4, .int .i64 a0_5], .int .i64 a2] rfl (by (try simp only [List.map_toArray, List.map_cons, List.map_nil]); first | done | rfl | (simp only [List.length_drop, List.length_take]; rfl)) ?_; (with_reducible refine (sig_Put.calls k _ _ y302 a0_0 a0_1 a0_2 a0_3 a0_4 a0_5 a2 t305 t308 _ ?side1 ?side2 A9.out).mono ?_); (case side1 => repeat (first | exact (Kd.R_reads' HO304.out).2.2 | (with_reducible refine Kd.C_alloc ?_ _) | (with_reducible refine Kd.C_drewN ?_ _) | (with_reducible refine Kd.C_drew ?_))); (case side2 => exact (Kd.R_reads' HO304.out).2.1); rintro e w39 ⟨v306, rfl, ho0, hb⟩; refine ⟨_, rfl, ?_⟩; have n0_ := aM (Kd.R_elder' (by (with_reducible repeat (first | apply rA | apply rN | apply rW)); exact HO304.out) (Kd.R_base ho0) hb); have n1_ := aM (Kd.R_lower (Kd.R_new' ho0 (Kd.R_lt (by (with_reducible repeat (first | apply rA | apply rN | apply rW)); exact HO304.out))) (lZ (by repeat (first | (with_reducible first | exact HB.out | apply lA | apply lN | apply lW | refine lS ?_ GE296.out) | exact HB.out)))); have n2_ := aM (blk_below (g := gb296) (o := .cells #[.int .i64 a0_0, .int .i64 a0_1, .bool a0_2, .bool a0_3, .int .i64 a0_4, .int .i64 a0_5] 23 (0, 0)) (by (with_reducible repeat (first | refine bN ?_ _ | refine bW ?_ | refine bA ?_ _)); exact BK296.out) hb); have n3_ := aM (lT (by repeat (first | (with_reducible first | exact HB.out | apply lA | apply lN | apply lW | refine lS ?_ GE296.out) | exact HB.out)) hb); clear HO304; clear BK296; clear HB; have HO304 := n0_; have HO307 := n1_; have BK296 := n2_; have HB := n3_; clear n0_ n1_ n2_ n3_; (try clear hb); (try clear hb2); (try clear hk); (try clear hi); (try clear ho0); have hcz40_0 : w39.cell? ⟨gb296, 0, none⟩ = some (.int .i64 a0_0) := (bC BK296.out 0).trans rfl; have hcz40_1 : w39.cell? ⟨gb296, 1, none⟩ = some (.int .i64 a0_1) := (bC BK296.out 1).trans rfl; have hcz40_2 : w39.cell? ⟨gb296, 2, none⟩ = some (.bool a0_2) := (bC BK296.out 2).trans rfl; have hcz40_3 : w39.cell? ⟨gb296, 3, none⟩ = some (.bool a0_3) := (bC BK296.out 3).trans rfl; have hcz40_4 : w39.cell? ⟨gb296, 4, none⟩ = some (.int .i64 a0_4) := (bC BK296.out 4).trans rfl; have hcz40_5 : w39.cell? ⟨gb296, 5, none⟩ = some (.int .i64 a0_5) := (bC BK296.out 5).trans rfl; have hfz40_0 := bF BK296.out 0; have hfz40_1 := bF BK296.out 1; have hfz40_2 := bF BK296.out 2; have hfz40_3 := bF BK296.out 3; have hfz40_4 := bF BK296.out 4; have hfz40_5 := bF BK296.out 5) | ((with_reducible refine gate_callee (f := 13) rfl ?_); refine goesL_ (some 35) rfl rfl Try.func13 (by kernel_rfl) rfl #[.slice Ao38 y302.length co38, .agg #[.int .i64 a0_0, .int .i64 a0_1, .bool a0_2, .bool a0_3, .int .i64 a0_4, .int .i64 a0_5], .int .i64 a2] rfl (by (try simp only [List.map_toArray, List.map_cons, List.map_nil]); first | done | rfl | (simp only [List.length_drop, List.length_take]; rfl)) ?_; (with_reducible refine (phaetonref15_Put.calls k _ _ y302 a0_0 a0_1 a0_2 a0_3 a0_4 a0_5 a2 t309 t312 _ ?side1 ?side2 A10.out).mono ?_); (case side1 => repeat (first | exact (Kd.R_reads' HO304.out).2.2 | (with_reducible refine Kd.C_alloc ?_ _) | (with_reducible refine Kd.C_drewN ?_ _) | (with_reducible refine Kd.C_drew ?_))); (case side2 => exact (Kd.R_reads' HO304.out).2.1); rintro e w41 ⟨v310, rfl, ho0, hb⟩; refine ⟨_, rfl, ?_⟩; have n0_ := aM (Kd.R_elder' (by (with_reducible repeat (first | apply rA | apply rN | apply rW)); exact HO304.out) (Kd.R_base ho0) hb); have n1_ := aM (Kd.R_elder' (by (with_reducible repeat (first | apply rA | apply rN | apply rW)); exact HO307.out) (Kd.R_base ho0) hb); have n2_ := aM (Kd.R_lower (Kd.R_new' (Kd.R_new' ho0 (Kd.R_lt (by (with_reducible repeat (first | apply rA | apply rN | apply rW)); exact HO304.out))) (Kd.R_lt (by (with_reducible repeat (first | apply rA | apply rN | apply rW)); exact HO307.out))) (lZ (by repeat (first | (with_reducible first | exact HB.out | apply lA | apply lN | apply lW | refine lS ?_ GE296.out) | exact HB.out)))); have n3_ := aM (blk_below (g := gb296) (o := .cells #[.int .i64 a0_0, .int .i64 a0_1, .bool a0_2, .bool a0_3, .int .i64 a0_4, .int .i64 a0_5] 23 (0, 0)) (by (with_reducible repeat (first | refine bN ?_ _ | refine bW ?_ | refine bA ?_ _)); exact BK296.out) hb); have n4_ := aM (lT (by repeat (first | (with_reducible first | exact HB.out | apply lA | apply lN | apply lW | refine lS ?_ GE296.out) | exact HB.out)) hb); clear HO304; clear HO307; clear BK296; clear HB; have HO304 := n0_; have HO307 := n1_; have HO311 := n2_; have BK296 := n3_; have HB := n4_; clear n0_ n1_ n2_ n3_ n4_; (try clear hb); (try clear hb2); (try clear hk); (try clear hi); (try clear ho0); have hcz42_0 : w41.cell? ⟨gb296, 0, none⟩ = some (.int .i64 a0_0) := (bC BK296.out 0).trans rfl; have hcz42_1 : w41.cell? ⟨gb296, 1, none⟩ = some (.int .i64 a0_1) := (bC BK296.out 1).trans rfl; have hcz42_2 : w41.cell? ⟨gb296, 2, none⟩ = some (.bool a0_2) := (bC BK296.out 2).trans rfl; have hcz42_3 : w41.cell? ⟨gb296, 3, none⟩ = some (.bool a0_3) := (bC BK296.out 3).trans rfl; have hcz42_4 : w41.cell? ⟨gb296, 4, none⟩ = some (.int .i64 a0_4) := (bC BK296.out 4).trans rfl; have hcz42_5 : w41.cell? ⟨gb296, 5, none⟩ = some (.int .i64 a0_5) := (bC BK296.out 5).trans rfl; have hfz42_0 := bF BK296.out 0; have hfz42_1 := bF BK296.out 1; have hfz42_2 := bF BK296.out 2; have hfz42_3 := bF BK296.out 3; have hfz42_4 := bF BK296.out 4; have hfz42_5 := bF BK296.out 5) | ((with_reducible refine gate_callee (f := 14) rfl ?_); refine goesL_ (some 41) rfl rfl Try.func14 (by kernel_rfl) rfl #[.slice Ao38 y302.length co38, .agg #[.int .i64 a0_0, .int .i64 a0_1, .bool a0_2, .bool a0_3, .int .i64 a0_4, .int .i64 a0_5]] rfl (by (try simp only [List.map_toArray, List.map_cons, List.map_nil]); first | done | rfl | (simp only [List.length_drop, List.length_take]; rfl)) ?_; (with_reducible refine (sig_Get.calls _ _ y302 a0_0 a0_1 a0_2 a0_3 a0_4 a0_5 t313 t314 _ ?side1 ?side2 A11.out).mono ?_); (case side1 => repeat (first | exact (Kd.R_reads' HO304.out).2.2 | (with_reducible refine Kd.C_alloc ?_ _) | (with_reducible refine Kd.C_drewN ?_ _) | (with_reducible refine Kd.C_drew ?_))); (case side2 => exact (Kd.R_reads' HO304.out).2.1); rintro e w43 ⟨rfl, hb⟩; refine ⟨_, rfl, ?_⟩; have n0_ := aM (Kd.R_below (by (with_reducible repeat (first | apply rA | apply rN | apply rW)); exact HO304.out) hb); have n1_ := aM (Kd.R_below (by (with_reducible repeat (first | apply rA | apply rN | apply rW)); exact HO307.out) hb); have n2_ := aM (Kd.R_below (by (with_reducible repeat (first | apply rA | apply rN | apply rW)); exact HO311.out) hb); have n3_ := aM (blk_below (g := gb296) (o := .cells #[.int .i64 a0_0, .int .i64 a0_1, .bool a0_2, .bool a0_3, .int .i64 a0_4, .int .i64 a0_5] 23 (0, 0)) (by (with_reducible repeat (first | refine bN ?_ _ | refine bW ?_ | refine bA ?_ _)); exact BK296.out) hb); have n4_ := aM (lT (by repeat (first | (with_reducible first | exact HB.out | apply lA | apply lN | apply lW | refine lS ?_ GE296.out) | exact HB.out)) hb); clear HO304; clear HO307; clear HO311; clear BK296; clear HB; have HO304 := n0_; have HO307 := n1_; have HO311 := n2_; have BK296 := n3_; have HB := n4_; clear n0_ n1_ n2_ n3_ n4_; (try clear hb); (try clear hb2); (try clear hk); (try clear hi); have hcz44_0 : w43.cell? ⟨gb296, 0, none⟩ = some (.int .i64 a0_0) := (bC BK296.out 0).trans rfl; have hcz44_1 : w43.cell? ⟨gb296, 1, none⟩ = some (.int .i64 a0_1) := (bC BK296.out 1).trans rfl; have hcz44_2 : w43.cell? ⟨gb296, 2, none⟩ = some (.bool a0_2) := (bC BK296.out 2).trans rfl; have hcz44_3 : w43.cell? ⟨gb296, 3, none⟩ = some (.bool a0_3) := (bC BK296.out 3).trans rfl; have hcz44_4 : w43.cell? ⟨gb296, 4, none⟩ = some (.int .i64 a0_4) := (bC BK296.out 4).trans rfl; have hcz44_5 : w43.cell? ⟨gb296, 5, none⟩ = some (.int .i64 a0_5) := (bC BK296.out 5).trans rfl; have hfz44_0 := bF BK296.out 0; have hfz44_1 := bF BK296.out 1; have hfz44_2 := bF BK296.out 2; have hfz44_3 := bF BK296.out 3; have hfz44_4 := bF BK296.out 4; have hfz44_5 := bF BK296.out 5) | ((with_reducible refine gate_callee (f := 15) rfl ?_); refine goesL_ (some 47) rfl rfl Try.func15 (by kernel_rfl) rfl #[.slice Ao38 y302.length co38, .agg #[.int .i64 a0_0, .int .i64 a0_1, .bool a0_2, .bool a0_3, .int .i64 a0_4, .int .i64 a0_5]] rfl (by (try simp only [List.map_toArray, List.map_cons, List.map_nil]); first | done | rfl | (simp only [List.length_drop, List.length_take]; rfl)) ?_; (with_reducible refine (phaetonref15_Get.calls k _ _ y302 a0_0 a0_1 a0_2 a0_3 a0_4 a0_5 t315 t316 _ ?side1 ?side2 A12.out).mono ?_); (case side1 => repeat (first | exact (Kd.R_reads' HO304.out).2.2 | (with_reducible refine Kd.C_alloc ?_ _) | (with_reducible refine Kd.C_drewN ?_ _) | (with_reducible refine Kd.C_drew ?_))); (case side2 => exact (Kd.R_reads' HO304.out).2.1); rintro e w45 ⟨rfl, hb⟩; refine ⟨_, rfl, ?_⟩; have n0_ := aM (Kd.R_below (by (with_reducible repeat (first | apply rA | apply rN | apply rW)); exact HO304.out) hb); have n1_ := aM (Kd.R_below (by (with_reducible repeat (first | apply rA | apply rN | apply rW)); exact HO307.out) hb); have n2_ := aM (Kd.R_below (by (with_reducible repeat (first | apply rA | apply rN | apply rW)); exact HO311.out) hb); have n3_ := aM (blk_below (g := gb296) (o := .cells #[.int .i64 a0_0, .int .i64 a0_1, .bool a0_2, .bool a0_3, .int .i64 a0_4, .int .i64 a0_5] 23 (0, 0)) (by (with_reducible repeat (first | refine bN ?_ _ | refine bW ?_ | refine bA ?_ _)); exact BK296.out) hb); have n4_ := aM (lT (by repeat (first | (with_reducible first | exact HB.out | apply lA | apply lN | apply lW | refine lS ?_ GE296.out) | exact HB.out)) hb); clear HO304; clear HO307; clear HO311; clear BK296; clear HB; have HO304 := n0_; have HO307 := n1_; have HO311 := n2_; have BK296 := n3_; have HB := n4_; clear n0_ n1_ n2_ n3_ n4_; (try clear hb); (try clear hb2); (try clear hk); (try clear hi)))
            have n0_ := aM (rW HO304.out)
            have n1_ := aM (rW HO307.out)
            have n2_ := aM (rW HO311.out)
            have n3_ := aM (bW BK296.out)
            have n4_ := aM (lW HB.out)
            clear HO304
            clear HO307
            clear HO311
            clear BK296
            clear HB
            have HO304 := n0_
            have HO307 := n1_
            have HO311 := n2_
            have BK296 := n3_
            have HB := n4_
            clear n0_ n1_ n2_ n3_ n4_
            refine start_ (n := 58) (S := fun w' => w'.cell? ⟨gb296, 0, none⟩ = some (.int .i64 a0_0) ∧ w'.cell? ⟨gb296, 1, none⟩ = some (.int .i64 a0_1) ∧ w'.cell? ⟨gb296, 2, none⟩ = some (.bool a0_2) ∧ w'.cell? ⟨gb296, 3, none⟩ = some (.bool a0_3) ∧ w'.cell? ⟨gb296, 4, none⟩ = some (.int .i64 a0_4) ∧ w'.cell? ⟨gb296, 5, none⟩ = some (.int .i64 a0_5)) (ds := []) #[false, false, false, false, false, false, false, false, false, false, false, false, false, false, false, false, false, false, false, false, false, false, false, false, false, false, false, false, false, false, false, false, false, false, false, false, false, false, false, false, false, false, false, false, false, false, false, false, false, false, false, false, false, false, false, false, false, false] (by kernel_rfl) rfl rfl ⟨(bC BK296.out 0).trans rfl, (bC BK296.out 1).trans rfl, (bC BK296.out 2).trans rfl, (bC BK296.out 3).trans rfl, (bC BK296.out 4).trans rfl, (bC BK296.out 5).trans rfl⟩ (fun hHeld => ?_); refine with_tabW phaetonlaw15_SigTells.tab7 phaetonlaw15_SigTells.bits7 (fun HT_ HW_ => ?_)
            generalize w45.drew = w46 at HO304 HO307 HO311 BK296 HB hHeld ⊢
            refine pure_ (i := 1) (N := some 51) (v := ?_) (a' := ?_) #[false, true, false, false, false, false, false, false, false, false, false, false, false, false, false, false, false, false, false, false, false, false, false, false, false, false, false, false, false, false, false, false, false, false, false, false, false, false, false, false, false, false, false, false, false, false, false, false, false, false, false, false, false, false, false, false, false, false] rfl rfl (any_of HT_.out (by kernel_rfl)) (fun _ _ _ h => h) (Or.inl ⟨by rfl, ?_⟩) ?_ ?_
            rotate_left
            ·intro w'
             go_simp
             with_reducible rfl
            rotate_left
            ·simp only [Act.put, sT, sZ, sS, i64_w, i32_w]
             rfl
            refine pure_ (i := 2) (N := some 52) (v := ?_) (a' := ?_) #[false, true, true, false, false, false, false, false, false, false, false, false, false, false, false, false, false, false, false, false, false, false, false, false, false, false, false, false, false, false, false, false, false, false, false, false, false, false, false, false, false, false, false, false, false, false, false, false, false, false, false, false, false, false, false, false, false, false] rfl rfl (any_of HT_.out (by kernel_rfl)) (fun _ _ _ h => h) (Or.inl ⟨by rfl, ?_⟩) ?_ ?_
            rotate_left
            ·intro w'
             go_simp
             with_reducible rfl
            rotate_left
            ·simp only [Act.put, sT, sZ, sS, i64_w, i32_w]
             rfl
            refine pure_ (i := 5) (N := some 55) (v := ?_) (a' := ?_) #[false, true, true, false, false, true, false, false, false, false, false, false, false, false, false, false, false, false, false, false, false, false, false, false, false, false, false, false, false, false, false, false, false, false, false, false, false, false, false, false, false, false, false, false, false, false, false, false, false, false, false, false, false, false, false, false, false, false] rfl rfl (any_of HT_.out (by kernel_rfl)) (fun _ _ _ h => h) (Or.inl ⟨by rfl, ?_⟩) ?_ ?_
            rotate_left
            ·intro w'
             go_simp
             with_reducible rfl
            rotate_left
            ·simp only [Act.put, sT, sZ, sS, i64_w, i32_w]
             rfl
            refine pure_ (i := 6) (N := some 56) (v := ?_) (a' := ?_) #[false, true, true, false, false, true, true, false, false, false, false, false, false, false, false, false, false, false, false, false, false, false, false, false, false, false, false, false, false, false, false, false, false, false, false, false, false, false, false, false, false, false, false, false, false, false, false, false, false, false, false, false, false, false, false, false, false, false] rfl rfl (any_of HT_.out (by kernel_rfl)) (fun _ _ _ h => h) (Or.inl ⟨by rfl, ?_⟩) ?_ ?_
            rotate_left
            ·intro w'
             go_simp
             with_reducible rfl
            rotate_left
            ·simp only [Act.put, sT, sZ, sS, i64_w, i32_w]
             rfl
            refine take_ (i := 0) (N := some 50) (v := ?_) (a' := ?_) #[true, true, true, false, false, true, true, false, false, false, false, false, false, false, false, false, false, false, false, false, false, false, false, false, false, false, false, false, false, false, false, false, false, false, false, false, false, false, false, false, false, false, false, false, false, false, false, false, false, false, false, false, false, false, false, false, false, false] rfl rfl (take_ofW HT_.out HW_.out (by kernel_rfl)) (fun _ _ _ h => h) (Or.inl ⟨by rfl, ?_⟩) hHeld ?_ ?_
            rotate_left
            ·rintro w' ⟨s0, s1, s2, s3, s4, s5⟩
             go_simp
             with_reducible rfl
            rotate_left
            ·simp only [Act.put, sT, sZ, sS, i64_w, i32_w]
             rfl
            refine take_ (i := 4) (N := some 54) (v := ?_) (a' := ?_) #[true, true, true, false, true, true, true, false, false, false, false, false, false, false, false, false, false, false, false, false, false, false, false, false, false, false, false, false, false, false, false, false, false, false, false, false, false, false, false, false, false, false, false, false, false, false, false, false, false, false, false, false, false, false, false, false, false, false] rfl rfl (take_ofW HT_.out HW_.out (by kernel_rfl)) (fun _ _ _ h => h) (Or.inl ⟨by rfl, ?_⟩) hHeld ?_ ?_
            rotate_left
            ·rintro w' ⟨s0, s1, s2, s3, s4, s5⟩
             go_simp
             with_reducible rfl
            rotate_left
            ·simp only [Act.put, sT, sZ, sS, i64_w, i32_w]
             rfl
            refine one_ (i := 3) (N := some 53) #[true, true, true, true, true, true, true, false, false, false, false, false, false, false, false, false, false, false, false, false, false, false, false, false, false, false, false, false, false, false, false, false, false, false, false, false, false, false, false, false, false, false, false, false, false, false, false, false, false, false, false, false, false, false, false, false, false, false] rfl rfl (one_of HT_.out (by kernel_rfl)) (by decide) (fun K hK => ?_)
            refine goes_ Try.func16 (by kernel_rfl) rfl #[.agg #[.int .i64 a0_0, .int .i64 a0_1, .bool a0_2, .bool a0_3, .int .i64 a0_4, .int .i64 a0_5], .int .i64 (y302.length : Int)] (by rfl) rfl rfl (by (try simp only [List.map_toArray, List.map_cons, List.map_nil]); first | done | rfl | (simp only [List.length_drop, List.length_take]; rfl)) ?_
            with_reducible refine (sig_Right.calls a0_0 a0_1 a0_2 a0_3 a0_4 a0_5 (y302.length : Int) t317 _ A13.out).mono ?_
            rintro e w47 ⟨rfl, hb⟩
            refine ⟨_, rfl, ?_⟩
            have n0_ := aM (Kd.R_below (by (with_reducible repeat (first | apply rA | apply rN | apply rW)); exact HO304.out) hb)
            have n1_ := aM (Kd.R_below (by (with_reducible repeat (first | apply rA | apply rN | apply rW)); exact HO307.out) hb)
            have n2_ := aM (Kd.R_below (by (with_reducible repeat (first | apply rA | apply rN | apply rW)); exact HO311.out) hb)
            have n3_ := aM (blk_below (g := gb296) (o := .cells #[.int .i64 a0_0, .int .i64 a0_1, .bool a0_2, .bool a0_3, .int .i64 a0_4, .int .i64 a0_5] 23 (0, 0)) (by (with_reducible repeat (first | refine bN ?_ _ | refine bW ?_ | refine bA ?_ _)); exact BK296.out) hb)
            have n4_ := aM (lT (by repeat (first | (with_reducible first | exact HB.out | apply lA | apply lN | apply lW | refine lS ?_ GE296.out) | exact HB.out)) hb)
            clear HO304
            clear HO307
            clear HO311
            clear BK296
            clear HB
            have HO304 := n0_
            have HO307 := n1_
            have HO311 := n2_
            have BK296 := n3_
            have HB := n4_
            clear n0_ n1_ n2_ n3_ n4_
            (try clear hb)
            (try clear hb2)
            (try clear hk)
            (try clear hi)
            refine hK.out _ _ ⟨(bC BK296.out 0).trans rfl, (bC BK296.out 1).trans rfl, (bC BK296.out 2).trans rfl, (bC BK296.out 3).trans rfl, (bC BK296.out 4).trans rfl, (bC BK296.out 5).trans rfl⟩ (fun hHeld => ?_)
            clear hK K
            refine norm_ (a' := ?_) ?_ ?_
            rotate_left
            ·show Act.put _ (some 53) _ = _
             simp only [Act.put, sT, sZ, sS, i64_w, i32_w]
             rfl
            refine one_ (i := 7) (N := some 57) #[true, true, true, true, true, true, true, true, false, false, false, false, false, false, false, false, false, false, false, false, false, false, false, false, false, false, false, false, false, false, false, false, false, false, false, false, false, false, false, false, false, false, false, false, false, false, false, false, false, false, false, false, false, false, false, false, false, false] rfl rfl (one_of HT_.out (by kernel_rfl)) (by decide) (fun K hK => ?_)
            refine goes_ Try.func17 (by kernel_rfl) rfl #[.agg #[.int .i64 a0_0, .int .i64 a0_1, .bool a0_2, .bool a0_3, .int .i64 a0_4, .int .i64 a0_5], .int .i64 (y302.length : Int)] (by rfl) rfl rfl (by (try simp only [List.map_toArray, List.map_cons, List.map_nil]); first | done | rfl | (simp only [List.length_drop, List.length_take]; rfl)) ?_
            with_reducible refine (phaetonref15_Right.calls k a0_0 a0_1 a0_2 a0_3 a0_4 a0_5 (y302.length : Int) t318 _ A14.out).mono ?_
            rintro e w48 ⟨rfl, hb⟩
            refine ⟨_, rfl, ?_⟩
            have n0_ := aM (Kd.R_below (by (with_reducible repeat (first | apply rA | apply rN | apply rW)); exact HO304.out) hb)
            have n1_ := aM (Kd.R_below (by (with_reducible repeat (first | apply rA | apply rN | apply rW)); exact HO307.out) hb)
            have n2_ := aM (Kd.R_below (by (with_reducible repeat (first | apply rA | apply rN | apply rW)); exact HO311.out) hb)
            have n3_ := aM (blk_below (g := gb296) (o := .cells #[.int .i64 a0_0, .int .i64 a0_1, .bool a0_2, .bool a0_3, .int .i64 a0_4, .int .i64 a0_5] 23 (0, 0)) (by (with_reducible repeat (first | refine bN ?_ _ | refine bW ?_ | refine bA ?_ _)); exact BK296.out) hb)
            have n4_ := aM (lT (by repeat (first | (with_reducible first | exact HB.out | apply lA | apply lN | apply lW | refine lS ?_ GE296.out) | exact HB.out)) hb)
            clear HO304
            clear HO307
            clear HO311
            clear BK296
            clear HB
            have HO304 := n0_
            have HO307 := n1_
            have HO311 := n2_
            have BK296 := n3_
            have HB := n4_
            clear n0_ n1_ n2_ n3_ n4_
            (try clear hb)
            (try clear hb2)
            (try clear hk)
            (try clear hi)
            refine hK.out _ _ ⟨(bC BK296.out 0).trans rfl, (bC BK296.out 1).trans rfl, (bC BK296.out 2).trans rfl, (bC BK296.out 3).trans rfl, (bC BK296.out 4).trans rfl, (bC BK296.out 5).trans rfl⟩ (fun hHeld => ?_)
            clear hK K
            refine norm_ (a' := ?_) ?_ ?_
            rotate_left
            ·show Act.put _ (some 57) _ = _
             simp only [Act.put, sT, sZ, sS, i64_w, i32_w]
             rfl
            refine pure_ (i := 8) (N := some 58) (v := ?_) (a' := ?_) #[true, true, true, true, true, true, true, true, true, false, false, false, false, false, false, false, false, false, false, false, false, false, false, false, false, false, false, false, false, false, false, false, false, false, false, false, false, false, false, false, false, false, false, false, false, false, false, false, false, false, false, false, false, false, false, false, false, false] rfl rfl (any_of HT_.out (by kernel_rfl)) (fun _ _ _ h => h) (Or.inl ⟨by rfl, ?_⟩) ?_ ?_
            rotate_left
            ·intro w'
             go_simp
             with_reducible rfl
            rotate_left
            ·simp only [Act.put, sT, sZ, sS, i64_w, i32_w]
             rfl
            refine pure_ (i := 9) (N := some 59) (v := ?_) (a' := ?_) #[true, true, true, true, true, true, true, true, true, true, false, false, false, false, false, false, false, false, false, false, false, false, false, false, false, false, false, false, false, false, false, false, false, false, false, false, false, false, false, false, false, false, false, false, false, false, false, false, false, false, false, false, false, false, false, false, false, false] rfl rfl (any_of HT_.out (by kernel_rfl)) (fun _ _ _ h => h) (Or.inl ⟨by rfl, ?_⟩) ?_ ?_
            rotate_left
            ·intro w'
             go_simp
             with_reducible rfl
            rotate_left
            ·simp only [Act.put, sT, sZ, sS, i64_w, i32_w]
             rfl
            refine pure_ (i := 11) (N := some 61) (v := ?_) (a' := ?_) #[true, true, true, true, true, true, true, true, true, true, false, true, false, false, false, false, false, false, false, false, false, false, false, false, false, false, false, false, false, false, false, false, false, false, false, false, false, false, false, false, false, false, false, false, false, false, false, false, false, false, false, false, false, false, false, false, false, false] rfl rfl (any_of HT_.out (by kernel_rfl)) (fun _ _ _ h => h) (Or.inl ⟨by rfl, ?_⟩) ?_ ?_
            rotate_left
            ·intro w'
             go_simp
             with_reducible rfl
            rotate_left
            ·simp only [Act.put, sT, sZ, sS, i64_w, i32_w]
             rfl
            refine pure_ (i := 14) (N := some 64) (v := ?_) (a' := ?_) #[true, true, true, true, true, true, true, true, true, true, false, true, false, false, true, false, false, false, false, false, false, false, false, false, false, false, false, false, false, false, false, false, false, false, false, false, false, false, false, false, false, false, false, false, false, false, false, false, false, false, false, false, false, false, false, false, false, false] rfl rfl (any_of HT_.out (by kernel_rfl)) (fun _ _ _ h => h) (Or.inl ⟨by rfl, ?_⟩) ?_ ?_
            rotate_left
            ·intro w'
             go_simp
             with_reducible rfl
            rotate_left
            ·simp only [Act.put, sT, sZ, sS, i64_w, i32_w]
             rfl
            refine take_ (i := 10) (N := some 60) (v := ?_) (a' := ?_) #[true, true, true, true, true, true, true, true, true, true, true, true, false, false, true, false, false, false, false, false, false, false, false, false, false, false, false, false, false, false, false, false, false, false, false, false, false, false, false, false, false, false, false, false, false, false, false, false, false, false, false, false, false, false, false, false, false, false] rfl rfl (take_ofW HT_.out HW_.out (by kernel_rfl)) (fun _ _ _ h => h) (Or.inl ⟨by rfl, ?_⟩) hHeld ?_ ?_
            rotate_left
            ·rintro w' ⟨s0, s1, s2, s3, s4, s5⟩
             go_simp
             with_reducible rfl
            rotate_left
            ·simp only [Act.put, sT, sZ, sS, i64_w, i32_w]
             rfl
            refine take_ (i := 13) (N := some 63) (v := ?_) (a' := ?_) #[true, true, true, true, true, true, true, true, true, true, true, true, false, true, true, false, false, false, false, false, false, false, false, false, false, false, false, false, false, false, false, false, false, false, false, false, false, false, false, false, false, false, false, false, false, false, false, false, false, false, false, false, false, false, false, false, false, false] rfl rfl (take_ofW HT_.out HW_.out (by kernel_rfl)) (fun _ _ _ h => h) (Or.inl ⟨by rfl, ?_⟩) hHeld ?_ ?_
            rotate_left
            ·rintro w' ⟨s0, s1, s2, s3, s4, s5⟩
             go_simp
             with_reducible rfl
            rotate_left
            ·simp only [Act.put, sT, sZ, sS, i64_w, i32_w]
             rfl
            refine one_ (i := 12) (N := some 62) #[true, true, true, true, true, true, true, true, true, true, true, true, true, true, true, false, false, false, false, false, false, false, false, false, false, false, false, false, false, false, false, false, false, false, false, false, false, false, false, false, false, false, false, false, false, false, false, false, false, false, false, false, false, false, false, false, false, false] rfl rfl (one_of HT_.out (by kernel_rfl)) (by decide) (fun K hK => ?_)
            refine goes_ Try.func16 (by kernel_rfl) rfl #[.agg #[.int .i64 a0_0, .int .i64 a0_1, .bool a0_2, .bool a0_3, .int .i64 a0_4, .int .i64 a0_5], .int .i64 a2] (by rfl) rfl rfl (by (try simp only [List.map_toArray, List.map_cons, List.map_nil]); first | done | rfl | (simp only [List.length_drop, List.length_take]; rfl)) ?_
            with_reducible refine (sig_Right.calls a0_0 a0_1 a0_2 a0_3 a0_4 a0_5 a2 t319 _ A16.out).mono ?_
            rintro e w49 ⟨rfl, hb⟩
            refine ⟨_, rfl, ?_⟩
            have n0_ := aM (Kd.R_below (by (with_reducible repeat (first | apply rA | apply rN | apply rW)); exact HO304.out) hb)
            have n1_ := aM (Kd.R_below (by (with_reducible repeat (first | apply rA | apply rN | apply rW)); exact HO307.out) hb)
            have n2_ := aM (Kd.R_below (by (with_reducible repeat (first | apply rA | apply rN | apply rW)); exact HO311.out) hb)
            have n3_ := aM (blk_below (g := gb296) (o := .cells #[.int .i64 a0_0, .int .i64 a0_1, .bool a0_2, .bool a0_3, .int .i64 a0_4, .int .i64 a0_5] 23 (0, 0)) (by (with_reducible repeat (first | refine bN ?_ _ | refine bW ?_ | refine bA ?_ _)); exact BK296.out) hb)
            have n4_ := aM (lT (by repeat (first | (with_reducible first | exact HB.out | apply lA | apply lN | apply lW | refine lS ?_ GE296.out) | exact HB.out)) hb)
            clear HO304
            clear HO307
            clear HO311
            clear BK296
            clear HB
            have HO304 := n0_
            have HO307 := n1_
            have HO311 := n2_
            have BK296 := n3_
            have HB := n4_
            clear n0_ n1_ n2_ n3_ n4_
            (try clear hb)
            (try clear hb2)
            (try clear hk)
            (try clear hi)
            refine hK.out _ _ ⟨(bC BK296.out 0).trans rfl, (bC BK296.out 1).trans rfl, (bC BK296.out 2).trans rfl, (bC BK296.out 3).trans rfl, (bC BK296.out 4).trans rfl, (bC BK296.out 5).trans rfl⟩ (fun hHeld => ?_)
            clear hK K
            refine norm_ (a' := ?_) ?_ ?_
            rotate_left
            ·show Act.put _ (some 62) _ = _
             simp only [Act.put, sT, sZ, sS, i64_w, i32_w]
             rfl
            refine one_ (i := 15) (N := some 65) #[true, true, true, true, true, true, true, true, true, true, true, true, true, true, true, true, false, false, false, false, false, false, false, false, false, false, false, false, false, false, false, false, false, false, false, false, false, false, false, false, false, false, false, false, false, false, false, false, false, false, false, false, false, false, false, false, false, false] rfl rfl (one_of HT_.out (by kernel_rfl)) (by decide) (fun K hK => ?_)
            refine goes_ Try.func17 (by kernel_rfl) rfl #[.agg #[.int .i64 a0_0, .int .i64 a0_1, .bool a0_2, .bool a0_3, .int .i64 a0_4, .int .i64 a0_5], .int .i64 a2] (by rfl) rfl rfl (by (try simp only [List.map_toArray, List.map_cons, List.map_nil]); first | done | rfl | (simp only [List.length_drop, List.length_take]; rfl)) ?_
            with_reducible refine (phaetonref15_Right.calls k a0_0 a0_1 a0_2 a0_3 a0_4 a0_5 a2 t320 _ A17.out).mono ?_
            rintro e w50 ⟨rfl, hb⟩
            refine ⟨_, rfl, ?_⟩
            have n0_ := aM (Kd.R_below (by (with_reducible repeat (first | apply rA | apply rN | apply rW)); exact HO304.out) hb)
            have n1_ := aM (Kd.R_below (by (with_reducible repeat (first | apply rA | apply rN | apply rW)); exact HO307.out) hb)
            have n2_ := aM (Kd.R_below (by (with_reducible repeat (first | apply rA | apply rN | apply rW)); exact HO311.out) hb)
            have n3_ := aM (blk_below (g := gb296) (o := .cells #[.int .i64 a0_0, .int .i64 a0_1, .bool a0_2, .bool a0_3, .int .i64 a0_4, .int .i64 a0_5] 23 (0, 0)) (by (with_reducible repeat (first | refine bN ?_ _ | refine bW ?_ | refine bA ?_ _)); exact BK296.out) hb)
            have n4_ := aM (lT (by repeat (first | (with_reducible first | exact HB.out | apply lA | apply lN | apply lW | refine lS ?_ GE296.out) | exact HB.out)) hb)
            clear HO304
            clear HO307
            clear HO311
            clear BK296
            clear HB
            have HO304 := n0_
            have HO307 := n1_
            have HO311 := n2_
            have BK296 := n3_
            have HB := n4_
            clear n0_ n1_ n2_ n3_ n4_
            (try clear hb)
            (try clear hb2)
            (try clear hk)
            (try clear hi)
            refine hK.out _ _ ⟨(bC BK296.out 0).trans rfl, (bC BK296.out 1).trans rfl, (bC BK296.out 2).trans rfl, (bC BK296.out 3).trans rfl, (bC BK296.out 4).trans rfl, (bC BK296.out 5).trans rfl⟩ (fun hHeld => ?_)
            clear hK K
            refine norm_ (a' := ?_) ?_ ?_
            rotate_left
            ·show Act.put _ (some 65) _ = _
             simp only [Act.put, sT, sZ, sS, i64_w, i32_w]
             rfl
            refine pure_ (i := 16) (N := some 66) (v := ?_) (a' := ?_) #[true, true, true, true, true, true, true, true, true, true, true, true, true, true, true, true, true, false, false, false, false, false, false, false, false, false, false, false, false, false, false, false, false, false, false, false, false, false, false, false, false, false, false, false, false, false, false, false, false, false, false, false, false, false, false, false, false, false] rfl rfl (any_of HT_.out (by kernel_rfl)) (fun _ _ _ h => h) (Or.inl ⟨by rfl, ?_⟩) ?_ ?_
            rotate_left
            ·intro w'
             go_simp
             with_reducible rfl
            rotate_left
            ·simp only [Act.put, sT, sZ, sS, i64_w, i32_w]
             rfl
            refine pure_ (i := 17) (N := some 67) (v := ?_) (a' := ?_) #[true, true, true, true, true, true, true, true, true, true, true, true, true, true, true, true, true, true, false, false, false, false, false, false, false, false, false, false, false, false, false, false, false, false, false, false, false, false, false, false, false, false, false, false, false, false, false, false, false, false, false, false, false, false, false, false, false, false] rfl rfl (any_of HT_.out (by kernel_rfl)) (fun _ _ _ h => h) (Or.inl ⟨by rfl, ?_⟩) ?_ ?_
            rotate_left
            ·intro w'
             go_simp
             with_reducible rfl
            rotate_left
            ·simp only [Act.put, sT, sZ, sS, i64_w, i32_w]
             rfl
            refine pure_ (i := 18) (N := some 68) (v := ?_) (a' := ?_) #[true, true, true, true, true, true, true, true, true, true, true, true, true, true, true, true, true, true, true, false, false, false, false, false, false, false, false, false, false, false, false, false, false, false, false, false, false, false, false, false, false, false, false, false, false, false, false, false, false, false, false, false, false, false, false, false, false, false] rfl rfl (any_of HT_.out (by kernel_rfl)) (fun _ _ _ h => h) (Or.inl ⟨by rfl, ?_⟩) ?_ ?_
            rotate_left
            ·intro w'
             go_simp
             with_reducible rfl
            rotate_left
            ·simp only [Act.put, sT, sZ, sS, i64_w, i32_w]
             rfl
            refine take_ (i := 19) (N := some 69) (v := ?_) (a' := ?_) #[true, true, true, true, true, true, true, true, true, true, true, true, true, true, true, true, true, true, true, true, false, false, false, false, false, false, false, false, false, false, false, false, false, false, false, false, false, false, false, false, false, false, false, false, false, false, false, false, false, false, false, false, false, false, false, false, false, false] rfl rfl (take_ofW HT_.out HW_.out (by kernel_rfl)) (fun _ _ _ h => h) (Or.inl ⟨by rfl, ?_⟩) hHeld ?_ ?_
            rotate_left
            ·rintro w' ⟨s0, s1, s2, s3, s4, s5⟩
             go_simp
             with_reducible rfl
            rotate_left
            ·simp only [Act.put, sT, sZ, sS, i64_w, i32_w]
             rfl
            refine take_ (i := 21) (N := some 71) (v := ?_) (a' := ?_) #[true, true, true, true, true, true, true, true, true, true, true, true, true, true, true, true, true, true, true, true, false, true, false, false, false, false, false, false, false, false, false, false, false, false, false, false, false, false, false, false, false, false, false, false, false, false, false, false, false, false, false, false, false, false, false, false, false, false] rfl rfl (take_ofW HT_.out HW_.out (by kernel_rfl)) (fun _ _ _ h => h) (Or.inl ⟨by rfl, ?_⟩) hHeld ?_ ?_
            rotate_left
            ·rintro w' ⟨s0, s1, s2, s3, s4, s5⟩
             go_simp
             with_reducible rfl
            rotate_left
            ·simp only [Act.put, sT, sZ, sS, i64_w, i32_w]
             rfl
            refine one_ (i := 20) (N := some 70) #[true, true, true, true, true, true, true, true, true, true, true, true, true, true, true, true, true, true, true, true, true, true, false, false, false, false, false, false, false, false, false, false, false, false, false, false, false, false, false, false, false, false, false, false, false, false, false, false, false, false, false, false, false, false, false, false, false, false] rfl rfl (one_of HT_.out (by kernel_rfl)) (by decide) (fun K hK => ?_)
            refine goes_ Try.func19 (by kernel_rfl) rfl #[.agg #[.int .i64 a0_0, .int .i64 a0_1, .bool a0_2, .bool a0_3, .int .i64 a0_4, .int .i64 a0_5]] (by rfl) rfl rfl (by (try simp only [List.map_toArray, List.map_cons, List.map_nil]); first | done | rfl | (simp only [List.length_drop, List.length_take]; rfl)) ?_
            with_reducible refine (sig_Places.calls a0_0 a0_1 a0_2 a0_3 a0_4 a0_5 t321 _ A19.out).mono ?_
            rintro e w51 ⟨v322, rfl, ho0, hb⟩
            refine ⟨_, rfl, ?_⟩
            have n0_ := aM (Kd.R_below (by (with_reducible repeat (first | apply rA | apply rN | apply rW)); exact HO304.out) hb)
            have n1_ := aM (Kd.R_below (by (with_reducible repeat (first | apply rA | apply rN | apply rW)); exact HO307.out) hb)
            have n2_ := aM (Kd.R_below (by (with_reducible repeat (first | apply rA | apply rN | apply rW)); exact HO311.out) hb)
            have n3_ := aM (Kd.R_lower ho0 (lZ (by repeat (first | (with_reducible first | exact HB.out | apply lA | apply lN | apply lW | refine lS ?_ GE296.out) | exact HB.out))))
            have n4_ := aM (blk_below (g := gb296) (o := .cells #[.int .i64 a0_0, .int .i64 a0_1, .bool a0_2, .bool a0_3, .int .i64 a0_4, .int .i64 a0_5] 23 (0, 0)) (by (with_reducible repeat (first | refine bN ?_ _ | refine bW ?_ | refine bA ?_ _)); exact BK296.out) hb)
            have n5_ := aM (lT (by repeat (first | (with_reducible first | exact HB.out | apply lA | apply lN | apply lW | refine lS ?_ GE296.out) | exact HB.out)) hb)
            clear HO304
            clear HO307
            clear HO311
            clear BK296
            clear HB
            have HO304 := n0_
            have HO307 := n1_
            have HO311 := n2_
            have HO323 := n3_
            have BK296 := n4_
            have HB := n5_
            clear n0_ n1_ n2_ n3_ n4_ n5_
            (try clear hb)
            (try clear hb2)
            (try clear hk)
            (try clear hi)
            (try clear ho0)
            refine hK.out _ _ ⟨(bC BK296.out 0).trans rfl, (bC BK296.out 1).trans rfl, (bC BK296.out 2).trans rfl, (bC BK296.out 3).trans rfl, (bC BK296.out 4).trans rfl, (bC BK296.out 5).trans rfl⟩ (fun hHeld => ?_)
            clear hK K
            refine norm_ (a' := ?_) ?_ ?_
            rotate_left
            ·show Act.put _ (some 70) _ = _
             simp only [Act.put, sT, sZ, sS, i64_w, i32_w]
             rfl
            refine one_ (i := 22) (N := some 72) #[true, true, true, true, true, true, true, true, true, true, true, true, true, true, true, true, true, true, true, true, true, true, true, false, false, false, false, false, false, false, false, false, false, false, false, false, false, false, false, false, false, false, false, false, false, false, false, false, false, false, false, false, false, false, false, false, false, false] rfl rfl (one_of HT_.out (by kernel_rfl)) (by decide) (fun K hK => ?_)
            refine goes_ Try.func20 (by kernel_rfl) rfl #[.agg #[.int .i64 a0_0, .int .i64 a0_1, .bool a0_2, .bool a0_3, .int .i64 a0_4, .int .i64 a0_5]] (by rfl) rfl rfl (by (try simp only [List.map_toArray, List.map_cons, List.map_nil]); first | done | rfl | (simp only [List.length_drop, List.length_take]; rfl)) ?_
            with_reducible refine (phaetonref15_Places.calls k a0_0 a0_1 a0_2 a0_3 a0_4 a0_5 t324 _ A20.out).mono ?_
            rintro e w52 ⟨v325, rfl, ho0, hb⟩
            refine ⟨_, rfl, ?_⟩
            have n0_ := aM (Kd.R_below (by (with_reducible repeat (first | apply rA | apply rN | apply rW)); exact HO304.out) hb)
            have n1_ := aM (Kd.R_below (by (with_reducible repeat (first | apply rA | apply rN | apply rW)); exact HO307.out) hb)
            have n2_ := aM (Kd.R_below (by (with_reducible repeat (first | apply rA | apply rN | apply rW)); exact HO311.out) hb)
            have n3_ := aM (Kd.R_elder' (by (with_reducible repeat (first | apply rA | apply rN | apply rW)); exact HO323.out) (Kd.R_base ho0) hb)
            have n4_ := aM (Kd.R_lower (Kd.R_new' ho0 (Kd.R_lt (by (with_reducible repeat (first | apply rA | apply rN | apply rW)); exact HO323.out))) (lZ (by repeat (first | (with_reducible first | exact HB.out | apply lA | apply lN | apply lW | refine lS ?_ GE296.out) | exact HB.out))))
            have n5_ := aM (blk_below (g := gb296) (o := .cells #[.int .i64 a0_0, .int .i64 a0_1, .bool a0_2, .bool a0_3, .int .i64 a0_4, .int .i64 a0_5] 23 (0, 0)) (by (with_reducible repeat (first | refine bN ?_ _ | refine bW ?_ | refine bA ?_ _)); exact BK296.out) hb)
            have n6_ := aM (lT (by repeat (first | (with_reducible first | exact HB.out | apply lA | apply lN | apply lW | refine lS ?_ GE296.out) | exact HB.out)) hb)
            clear HO304
            clear HO307
            clear HO311
            clear HO323
            clear BK296
            clear HB
            have HO304 := n0_
            have HO307 := n1_
            have HO311 := n2_
            have HO323 := n3_
            have HO326 := n4_
            have BK296 := n5_
            have HB := n6_
            clear n0_ n1_ n2_ n3_ n4_ n5_ n6_
            (try clear hb)
            (try clear hb2)
            (try clear hk)
            (try clear hi)
            (try clear ho0)
            obtain ⟨Ao53, co53, eo53⟩ := Kd.R_slice HO323.out
            (first | subst eo53 | (injection eo53 with f1_ f2_ f3_; have f4_ := f1_.symm; have f5_ := f3_.symm; clear f1_ f2_ f3_; subst f4_; subst f5_))
            obtain ⟨Ao54, co54, eo54⟩ := Kd.R_slice HO326.out
            (first | subst eo54 | (injection eo54 with f1_ f2_ f3_; have f4_ := f1_.symm; have f5_ := f3_.symm; clear f1_ f2_ f3_; subst f4_; subst f5_))
            refine hK.out _ _ ⟨(bC BK296.out 0).trans rfl, (bC BK296.out 1).trans rfl, (bC BK296.out 2).trans rfl, (bC BK296.out 3).trans rfl, (bC BK296.out 4).trans rfl, (bC BK296.out 5).trans rfl⟩ (fun hHeld => ?_)
            clear hK K
            refine norm_ (a' := ?_) ?_ ?_
            rotate_left
            ·show Act.put _ (some 72) _ = _
             simp only [Act.put, sT, sZ, sS, i64_w, i32_w]
             rfl
            refine one_ (i := 23) (N := some 73) #[true, true, true, true, true, true, true, true, true, true, true, true, true, true, true, true, true, true, true, true, true, true, true, true, false, false, false, false, false, false, false, false, false, false, false, false, false, false, false, false, false, false, false, false, false, false, false, false, false, false, false, false, false, false, false, false, false, false] rfl rfl (one_of HT_.out (by kernel_rfl)) (by decide) (fun K hK => ?_)
            refine goes_ Try.func18 (by kernel_rfl) rfl #[.slice Ao53 t321.length co53, .slice Ao54 t324.length co54] (by rfl) rfl rfl (by (try simp only [List.map_toArray, List.map_cons, List.map_nil]); first | done | rfl | (simp only [List.length_drop, List.length_take]; rfl)) ?_
            with_reducible refine (phaetonref03_Ints.calls k _ _ t321 _ _ t324 true _ ?side1 ?side2 ?side3 ?side4 A21.out).mono ?_
            (case side1 => repeat (first | exact (Kd.R_reads' HO323.out).2.2 | (with_reducible refine Kd.C_alloc ?_ _) | (with_reducible refine Kd.C_drewN ?_ _) | (with_reducible refine Kd.C_drew ?_)))
            (case side2 => exact (Kd.R_reads' HO323.out).2.1)
            (case side3 => repeat (first | exact (Kd.R_reads' HO326.out).2.2 | (with_reducible refine Kd.C_alloc ?_ _) | (with_reducible refine Kd.C_drewN ?_ _) | (with_reducible refine Kd.C_drew ?_)))
            (case side4 => exact (Kd.R_reads' HO326.out).2.1)
            rintro e w' ⟨rfl, ⟨nd, rfl⟩⟩
            refine ⟨_, rfl, ?_⟩
            obtain ⟨Ao55, co55, eo55⟩ := Kd.R_slice HO307.out
            (first | subst eo55 | (injection eo55 with f1_ f2_ f3_; have f4_ := f1_.symm; have f5_ := f3_.symm; clear f1_ f2_ f3_; subst f4_; subst f5_))
            obtain ⟨Ao56, co56, eo56⟩ := Kd.R_slice HO311.out
            (first | subst eo56 | (injection eo56 with f1_ f2_ f3_; have f4_ := f1_.symm; have f5_ := f3_.symm; clear f1_ f2_ f3_; subst f4_; subst f5_))
            refine hK.out _ _ ⟨(bC BK296.out 0).trans rfl, (bC BK296.out 1).trans rfl, (bC BK296.out 2).trans rfl, (bC BK296.out 3).trans rfl, (bC BK296.out 4).trans rfl, (bC BK296.out 5).trans rfl⟩ (fun hHeld => ?_)
            clear hK K
            refine norm_ (a' := ?_) ?_ ?_
            rotate_left
            ·show Act.put _ (some 73) _ = _
             simp only [Act.put, sT, sZ, sS, i64_w, i32_w]
             rfl
            refine pure_ (i := 24) (N := some 74) (v := ?_) (a' := ?_) #[true, true, true, true, true, true, true, true, true, true, true, true, true, true, true, true, true, true, true, true, true, true, true, true, true, false, false, false, false, false, false, false, false, false, false, false, false, false, false, false, false, false, false, false, false, false, false, false, false, false, false, false, false, false, false, false, false, false] rfl rfl (any_of HT_.out (by kernel_rfl)) (fun _ _ _ h => h) (Or.inl ⟨by rfl, ?_⟩) ?_ ?_
            rotate_left
            ·intro w'
             go_simp
             with_reducible rfl
            rotate_left
            ·simp only [Act.put, sT, sZ, sS, i64_w, i32_w]
             rfl
            refine pure_ (i := 25) (N := some 75) (v := ?_) (a' := ?_) #[true, true, true, true, true, true, true, true, true, true, true, true, true, true, true, true, true, true, true, true, true, true, true, true, true, true, false, false, false, false, false, false, false, false, false, false, false, false, false, false, false, false, false, false, false, false, false, false, false, false, false, false, false, false, false, false, false, false] rfl rfl (any_of HT_.out (by kernel_rfl)) (fun _ _ _ h => h) (Or.inl ⟨by rfl, ?_⟩) ?_ ?_
            rotate_left
            ·intro w'
             go_simp
             with_reducible rfl
            rotate_left
            ·simp only [Act.put, sT, sZ, sS, i64_w, i32_w]
             rfl
            refine pure_ (i := 26) (N := some 76) (v := ?_) (a' := ?_) #[true, true, true, true, true, true, true, true, true, true, true, true, true, true, true, true, true, true, true, true, true, true, true, true, true, true, true, false, false, false, false, false, false, false, false, false, false, false, false, false, false, false, false, false, false, false, false, false, false, false, false, false, false, false, false, false, false, false] rfl rfl (any_of HT_.out (by kernel_rfl)) (fun _ _ _ h => h) (Or.inl ⟨by rfl, ?_⟩) ?_ ?_
            rotate_left
            ·intro w'
             go_simp
             with_reducible rfl
            rotate_left
            ·simp only [Act.put, sT, sZ, sS, i64_w, i32_w]
             rfl
            refine pure_ (i := 27) (N := some 77) (v := ?_) (a' := ?_) #[true, true, true, true, true, true, true, true, true, true, true, true, true, true, true, true, true, true, true, true, true, true, true, true, true, true, true, true, false, false, false, false, false, false, false, false, false, false, false, false, false, false, false, false, false, false, false, false, false, false, false, false, false, false, false, false, false, false] rfl rfl (any_of HT_.out (by kernel_rfl)) (fun _ _ _ h => h) (Or.inl ⟨by rfl, ?_⟩) ?_ ?_
            rotate_left
            ·intro w'
             go_simp
             with_reducible rfl
            rotate_left
            ·simp only [Act.put, sT, sZ, sS, i64_w, i32_w]
             rfl
            refine one_ (i := 28) (N := some 78) #[true, true, true, true, true, true, true, true, true, true, true, true, true, true, true, true, true, true, true, true, true, true, true, true, true, true, true, true, true, false, false, false, false, false, false, false, false, false, false, false, false, false, false, false, false, false, false, false, false, false, false, false, false, false, false, false, false, false] rfl rfl (one_of HT_.out (by kernel_rfl)) (by decide) (fun K hK => ?_)
            refine goes_ Try.func21 (by kernel_rfl) rfl #[.slice Ao55 t305.length co55, .slice Ao56 t309.length co56] (by rfl) rfl rfl (by (try simp only [List.map_toArray, List.map_cons, List.map_nil]); first | done | rfl | (simp only [List.length_drop, List.length_take]; rfl)) ?_
            with_reducible refine (phaetonref15_Bytes.calls k _ _ t305 _ _ t309 true _ ?side1 ?side2 ?side3 ?side4 A23.out).mono ?_
            (case side1 => repeat (first | exact (Kd.R_reads' HO307.out).2.2 | (with_reducible refine Kd.C_alloc ?_ _) | (with_reducible refine Kd.C_drewN ?_ _) | (with_reducible refine Kd.C_drew ?_)))
            (case side2 => exact (Kd.R_reads' HO307.out).2.1)
            (case side3 => repeat (first | exact (Kd.R_reads' HO311.out).2.2 | (with_reducible refine Kd.C_alloc ?_ _) | (with_reducible refine Kd.C_drewN ?_ _) | (with_reducible refine Kd.C_drew ?_)))
            (case side4 => exact (Kd.R_reads' HO311.out).2.1)
            rintro e w' ⟨rfl, ⟨nd, rfl⟩⟩
            refine ⟨_, rfl, ?_⟩
            refine hK.out _ _ ⟨(bC BK296.out 0).trans rfl, (bC BK296.out 1).trans rfl, (bC BK296.out 2).trans rfl, (bC BK296.out 3).trans rfl, (bC BK296.out 4).trans rfl, (bC BK296.out 5).trans rfl⟩ (fun hHeld => ?_)
            clear hK K
            refine norm_ (a' := ?_) ?_ ?_
            rotate_left
            ·show Act.put _ (some 78) _ = _
             simp only [Act.put, sT, sZ, sS, i64_w, i32_w]
             rfl
            refine pure_ (i := 29) (N := some 79) (v := ?_) (a' := ?_) #[true, true, true, true, true, true, true, true, true, true, true, true, true, true, true, true, true, true, true, true, true, true, true, true, true, true, true, true, true, true, false, false, false, false, false, false, false, false, false, false, false, false, false, false, false, false, false, false, false, false, false, false, false, false, false, false, false, false] rfl rfl (any_of HT_.out (by kernel_rfl)) (fun _ _ _ h => h) (Or.inl ⟨by rfl, ?_⟩) ?_ ?_
            rotate_left
            ·intro w'
             go_simp
             with_reducible rfl
            rotate_left
            ·simp only [Act.put, sT, sZ, sS, i64_w, i32_w]
             rfl
            refine pure_ (i := 30) (N := some 80) (v := ?_) (a' := ?_) #[true, true, true, true, true, true, true, true, true, true, true, true, true, true, true, true, true, true, true, true, true, true, true, true, true, true, true, true, true, true, true, false, false, false, false, false, false, false, false, false, false, false, false, false, false, false, false, false, false, false, false, false, false, false, false, false, false, false] rfl rfl (any_of HT_.out (by kernel_rfl)) (fun _ _ _ h => h) (Or.inl ⟨by rfl, ?_⟩) ?_ ?_
            rotate_left
            ·intro w'
             go_simp
             with_reducible rfl
            rotate_left
            ·simp only [Act.put, sT, sZ, sS, i64_w, i32_w]
             rfl
            refine pure_ (i := 31) (N := some 81) (v := ?_) (a' := ?_) #[true, true, true, true, true, true, true, true, true, true, true, true, true, true, true, true, true, true, true, true, true, true, true, true, true, true, true, true, true, true, true, true, false, false, false, false, false, false, false, false, false, false, false, false, false, false, false, false, false, false, false, false, false, false, false, false, false, false] rfl rfl (any_of HT_.out (by kernel_rfl)) (fun _ _ _ h => h) (Or.inl ⟨by rfl, ?_⟩) ?_ ?_
            rotate_left
            ·intro w'
             go_simp
             with_reducible rfl
            rotate_left
            ·simp only [Act.put, sT, sZ, sS, i64_w, i32_w]
             rfl
            refine pure_ (i := 32) (N := some 82) (v := ?_) (a' := ?_) #[true, true, true, true, true, true, true, true, true, true, true, true, true, true, true, true, true, true, true, true, true, true, true, true, true, true, true, true, true, true, true, true, true, false, false, false, false, false, false, false, false, false, false, false, false, false, false, false, false, false, false, false, false, false, false, false, false, false] rfl rfl (any_of HT_.out (by kernel_rfl)) (fun _ _ _ h => h) (Or.inl ⟨by rfl, ?_⟩) ?_ ?_
            rotate_left
            ·intro w'
             go_simp
             with_reducible rfl
            rotate_left
            ·simp only [Act.put, sT, sZ, sS, i64_w, i32_w]
             rfl
            refine pure_ (i := 33) (N := some 83) (v := ?_) (a' := ?_) #[true, true, true, true, true, true, true, true, true, true, true, true, true, true, true, true, true, true, true, true, true, true, true, true, true, true, true, true, true, true, true, true, true, true, false, false, false, false, false, false, false, false, false, false, false, false, false, false, false, false, false, false, false, false, false, false, false, false] rfl rfl (any_of HT_.out (by kernel_rfl)) (fun _ _ _ h => h) (Or.inl ⟨by rfl, ?_⟩) ?_ ?_
            rotate_left
            ·intro w'
             go_simp
             with_reducible rfl
            rotate_left
            ·simp only [Act.put, sT, sZ, sS, i64_w, i32_w]
             rfl
            refine pure_ (i := 34) (N := some 84) (v := ?_) (a' := ?_) #[true, true, true, true, true, true, true, true, true, true, true, true, true, true, true, true, true, true, true, true, true, true, true, true, true, true, true, true, true, true, true, true, true, true, true, false, false, false, false, false, false, false, false, false, false, false, false, false, false, false, false, false, false, false, false, false, false, false] rfl rfl (any_of HT_.out (by kernel_rfl)) (fun _ _ _ h => h) (Or.inl ⟨by rfl, ?_⟩) ?_ ?_
            rotate_left
            ·intro w'
             go_simp
             with_reducible rfl
            rotate_left
            ·simp only [Act.put, sT, sZ, sS, i64_w, i32_w]
             rfl
            refine pure_ (i := 35) (N := some 85) (v := ?_) (a' := ?_) #[true, true, true, true, true, true, true, true, true, true, true, true, true, true, true, true, true, true, true, true, true, true, true, true, true, true, true, true, true, true, true, true, true, true, true, true, false, false, false, false, false, false, false, false, false, false, false, false, false, false, false, false, false, false, false, false, false, false] rfl rfl (any_of HT_.out (by kernel_rfl)) (fun _ _ _ h => h) (Or.inl ⟨by rfl, ?_⟩) ?_ ?_
            rotate_left
            ·intro w'
             go_simp
             with_reducible rfl
            rotate_left
            ·simp only [Act.put, sT, sZ, sS, i64_w, i32_w]
             rfl
            refine pure_ (i := 36) (N := some 86) (v := ?_) (a' := ?_) #[true, true, true, true, true, true, true, true, true, true, true, true, true, true, true, true, true, true, true, true, true, true, true, true, true, true, true, true, true, true, true, true, true, true, true, true, true, false, false, false, false, false, false, false, false, false, false, false, false, false, false, false, false, false, false, false, false, false] rfl rfl (any_of HT_.out (by kernel_rfl)) (fun _ _ _ h => h) (Or.inl ⟨by rfl, ?_⟩) ?_ ?_
            rotate_left
            ·intro w'
             go_simp
             with_reducible rfl
            rotate_left
            ·simp only [Act.put, sT, sZ, sS, i64_w, i32_w]
             rfl
            refine pure_ (i := 37) (N := some 87) (v := ?_) (a' := ?_) #[true, true, true, true, true, true, true, true, true, true, true, true, true, true, true, true, true, true, true, true, true, true, true, true, true, true, true, true, true, true, true, true, true, true, true, true, true, true, false, false, false, false, false, false, false, false, false, false, false, false, false, false, false, false, false, false, false, false] rfl rfl (any_of HT_.out (by kernel_rfl)) (fun _ _ _ h => h) (Or.inl ⟨by rfl, ?_⟩) ?_ ?_
            rotate_left
            ·intro w'
             go_simp
             with_reducible rfl
            rotate_left
            ·simp only [Act.put, sT, sZ, sS, i64_w, i32_w]
             rfl
            refine pure_ (i := 38) (N := some 88) (v := ?_) (a' := ?_) #[true, true, true, true, true, true, true, true, true, true, true, true, true, true, true, true, true, true, true, true, true, true, true, true, true, true, true, true, true, true, true, true, true, true, true, true, true, true, true, false, false, false, false, false, false, false, false, false, false, false, false, false, false, false, false, false, false, false] rfl rfl (any_of HT_.out (by kernel_rfl)) (fun _ _ _ h => h) (Or.inl ⟨by rfl, ?_⟩) ?_ ?_
            rotate_left
            ·intro w'
             go_simp
             with_reducible rfl
            rotate_left
            ·simp only [Act.put, sT, sZ, sS, i64_w, i32_w]
             rfl
            refine pure_ (i := 39) (N := some 89) (v := ?_) (a' := ?_) #[true, true, true, true, true, true, true, true, true, true, true, true, true, true, true, true, true, true, true, true, true, true, true, true, true, true, true, true, true, true, true, true, true, true, true, true, true, true, true, true, false, false, false, false, false, false, false, false, false, false, false, false, false, false, false, false, false, false] rfl rfl (any_of HT_.out (by kernel_rfl)) (fun _ _ _ h => h) (Or.inl ⟨by rfl, ?_⟩) ?_ ?_
            rotate_left
            ·intro w'
             go_simp
             with_reducible rfl
            rotate_left
            ·simp only [Act.put, sT, sZ, sS, i64_w, i32_w]
             rfl
            refine pure_ (i := 40) (N := some 90) (v := ?_) (a' := ?_) #[true, true, true, true, true, true, true, true, true, true, true, true, true, true, true, true, true, true, true, true, true, true, true, true, true, true, true, true, true, true, true, true, true, true, true, true, true, true, true, true, true, false, false, false, false, false, false, false, false, false, false, false, false, false, false, false, false, false] rfl rfl (any_of HT_.out (by kernel_rfl)) (fun _ _ _ h => h) (Or.inl ⟨by rfl, ?_⟩) ?_ ?_
            rotate_left
            ·intro w'
             go_simp
             with_reducible rfl
            rotate_left
            ·simp only [Act.put, sT, sZ, sS, i64_w, i32_w]
             rfl
            refine pure_ (i := 41) (N := some 91) (v := ?_) (a' := ?_) #[true, true, true, true, true, true, true, true, true, true, true, true, true, true, true, true, true, true, true, true, true, true, true, true, true, true, true, true, true, true, true, true, true, true, true, true, true, true, true, true, true, true, false, false, false, false, false, false, false, false, false, false, false, false, false, false, false, false] rfl rfl (any_of HT_.out (by kernel_rfl)) (fun _ _ _ h => h) (Or.inl ⟨by rfl, ?_⟩) ?_ ?_
            rotate_left
            ·intro w'
             go_simp
             with_reducible rfl
            rotate_left
            ·simp only [Act.put, sT, sZ, sS, i64_w, i32_w]
             rfl
            refine pure_ (i := 42) (N := some 92) (v := ?_) (a' := ?_) #[true, true, true, true, true, true, true, true, true, true, true, true, true, true, true, true, true, true, true, true, true, true, true, true, true, true, true, true, true, true, true, true, true, true, true, true, true, true, true, true, true, true, true, false, false, false, false, false, false, false, false, false, false, false, false, false, false, false] rfl rfl (any_of HT_.out (by kernel_rfl)) (fun _ _ _ h => h) (Or.inl ⟨by rfl, ?_⟩) ?_ ?_
            rotate_left
            ·intro w'
             go_simp
             with_reducible rfl
            rotate_left
            ·simp only [Act.put, sT, sZ, sS, i64_w, i32_w]
             rfl
            refine pure_ (i := 43) (N := some 93) (v := ?_) (a' := ?_) #[true, true, true, true, true, true, true, true, true, true, true, true, true, true, true, true, true, true, true, true, true, true, true, true, true, true, true, true, true, true, true, true, true, true, true, true, true, true, true, true, true, true, true, true, false, false, false, false, false, false, false, false, false, false, false, false, false, false] rfl rfl (any_of HT_.out (by kernel_rfl)) (fun _ _ _ h => h) (Or.inl ⟨by rfl, ?_⟩) ?_ ?_
            rotate_left
            ·intro w'
             go_simp
             with_reducible rfl
            rotate_left
            ·simp only [Act.put, sT, sZ, sS, i64_w, i32_w]
             rfl
            refine pure_ (i := 44) (N := some 94) (v := ?_) (a' := ?_) #[true, true, true, true, true, true, true, true, true, true, true, true, true, true, true, true, true, true, true, true, true, true, true, true, true, true, true, true, true, true, true, true, true, true, true, true, true, true, true, true, true, true, true, true, true, false, false, false, false, false, false, false, false, false, false, false, false, false] rfl rfl (any_of HT_.out (by kernel_rfl)) (fun _ _ _ h => h) (Or.inl ⟨by rfl, ?_⟩) ?_ ?_
            rotate_left
            ·intro w'
             go_simp
             with_reducible rfl
            rotate_left
            ·simp only [Act.put, sT, sZ, sS, i64_w, i32_w]
             rfl
            refine pure_ (i := 45) (N := some 95) (v := ?_) (a' := ?_) #[true, true, true, true, true, true, true, true, true, true, true, true, true, true, true, true, true, true, true, true, true, true, true, true, true, true, true, true, true, true, true, true, true, true, true, true, true, true, true, true, true, true, true, true, true, true, false, false, false, false, false, false, false, false, false, false, false, false] rfl rfl (any_of HT_.out (by kernel_rfl)) (fun _ _ _ h => h) (Or.inl ⟨by rfl, ?_⟩) ?_ ?_
            rotate_left
            ·intro w'
             go_simp
             with_reducible rfl
            rotate_left
            ·simp only [Act.put, sT, sZ, sS, i64_w, i32_w]
             rfl
            refine pure_ (i := 47) (N := some 97) (v := ?_) (a' := ?_) #[true, true, true, true, true, true, true, true, true, true, true, true, true, true, true, true, true, true, true, true, true, true, true, true, true, true, true, true, true, true, true, true, true, true, true, true, true, true, true, true, true, true, true, true, true, true, false, true, false, false, false, false, false, false, false, false, false, false] rfl rfl (any_of HT_.out (by kernel_rfl)) (fun _ _ _ h => h) (Or.inl ⟨by rfl, ?_⟩) ?_ ?_
            rotate_left
            ·intro w'
             go_simp
             with_reducible rfl
            rotate_left
            ·simp only [Act.put, sT, sZ, sS, i64_w, i32_w]
             rfl
            refine pure_ (i := 50) (N := some 100) (v := ?_) (a' := ?_) #[true, true, true, true, true, true, true, true, true, true, true, true, true, true, true, true, true, true, true, true, true, true, true, true, true, true, true, true, true, true, true, true, true, true, true, true, true, true, true, true, true, true, true, true, true, true, false, true, false, false, true, false, false, false, false, false, false, false] rfl rfl (any_of HT_.out (by kernel_rfl)) (fun _ _ _ h => h) (Or.inl ⟨by rfl, ?_⟩) ?_ ?_
            rotate_left
            ·intro w'
             go_simp
             with_reducible rfl
            rotate_left
            ·simp only [Act.put, sT, sZ, sS, i64_w, i32_w]
             rfl
            refine take_ (i := 46) (N := some 96) (v := ?_) (a' := ?_) #[true, true, true, true, true, true, true, true, true, true, true, true, true, true, true, true, true, true, true, true, true, true, true, true, true, true, true, true, true, true, true, true, true, true, true, true, true, true, true, true, true, true, true, true, true, true, true, true, false, false, true, false, false, false, false, false, false, false] rfl rfl (take_ofW HT_.out HW_.out (by kernel_rfl)) (fun _ _ _ h => h) (Or.inl ⟨by rfl, ?_⟩) hHeld ?_ ?_
            rotate_left
            ·rintro w' ⟨s0, s1, s2, s3, s4, s5⟩
             go_simp
             with_reducible rfl
            rotate_left
            ·simp only [Act.put, sT, sZ, sS, i64_w, i32_w]
             rfl
            refine take_ (i := 49) (N := some 99) (v := ?_) (a' := ?_) #[true, true, true, true, true, true, true, true, true, true, true, true, true, true, true, true, true, true, true, true, true, true, true, true, true, true, true, true, true, true, true, true, true, true, true, true, true, true, true, true, true, true, true, true, true, true, true, true, false, true, true, false, false, false, false, false, false, false] rfl rfl (take_ofW HT_.out HW_.out (by kernel_rfl)) (fun _ _ _ h => h) (Or.inl ⟨by rfl, ?_⟩) hHeld ?_ ?_
            rotate_left
            ·rintro w' ⟨s0, s1, s2, s3, s4, s5⟩
             go_simp
             with_reducible rfl
            rotate_left
            ·simp only [Act.put, sT, sZ, sS, i64_w, i32_w]
             rfl
            refine one_ (i := 48) (N := some 98) #[true, true, true, true, true, true, true, true, true, true, true, true, true, true, true, true, true, true, true, true, true, true, true, true, true, true, true, true, true, true, true, true, true, true, true, true, true, true, true, true, true, true, true, true, true, true, true, true, true, true, true, false, false, false, false, false, false, false] rfl rfl (one_of HT_.out (by kernel_rfl)) (by decide) (fun K hK => ?_)
            refine goes_ Try.func22 (by kernel_rfl) rfl #[.agg #[.int .i64 a0_0, .int .i64 a0_1, .bool a0_2, .bool a0_3, .int .i64 a0_4, .int .i64 a0_5], .int .i64 a2] (by rfl) rfl rfl (by (try simp only [List.map_toArray, List.map_cons, List.map_nil]); first | done | rfl | (simp only [List.length_drop, List.length_take]; rfl)) ?_
            with_reducible refine (sig_Mean.calls a0_0 a0_1 a0_2 a0_3 a0_4 a0_5 a2 t329 _ A28.out).mono ?_
            rintro e w57 ⟨rfl, hb⟩
            refine ⟨_, rfl, ?_⟩
            have n0_ := aM (Kd.R_below (by (with_reducible repeat (first | apply rA | apply rN | apply rW)); exact HO304.out) hb)
            have n1_ := aM (Kd.R_below (by (with_reducible repeat (first | apply rA | apply rN | apply rW)); exact HO307.out) hb)
            have n2_ := aM (Kd.R_below (by (with_reducible repeat (first | apply rA | apply rN | apply rW)); exact HO311.out) hb)
            have n3_ := aM (Kd.R_below (by (with_reducible repeat (first | apply rA | apply rN | apply rW)); exact HO323.out) hb)
            have n4_ := aM (Kd.R_below (by (with_reducible repeat (first | apply rA | apply rN | apply rW)); exact HO326.out) hb)
            have n5_ := aM (blk_below (g := gb296) (o := .cells #[.int .i64 a0_0, .int .i64 a0_1, .bool a0_2, .bool a0_3, .int .i64 a0_4, .int .i64 a0_5] 23 (0, 0)) (by (with_reducible repeat (first | refine bN ?_ _ | refine bW ?_ | refine bA ?_ _)); exact BK296.out) hb)
            have n6_ := aM (lT (by repeat (first | (with_reducible first | exact HB.out | apply lA | apply lN | apply lW | refine lS ?_ GE296.out) | exact HB.out)) hb)
            clear HO304
            clear HO307
            clear HO311
            clear HO323
            clear HO326
            clear BK296
            clear HB
            have HO304 := n0_
            have HO307 := n1_
            have HO311 := n2_
            have HO323 := n3_
            have HO326 := n4_
            have BK296 := n5_
            have HB := n6_
            clear n0_ n1_ n2_ n3_ n4_ n5_ n6_
            (try clear hb)
            (try clear hb2)
            (try clear hk)
            (try clear hi)
            refine hK.out _ _ ⟨(bC BK296.out 0).trans rfl, (bC BK296.out 1).trans rfl, (bC BK296.out 2).trans rfl, (bC BK296.out 3).trans rfl, (bC BK296.out 4).trans rfl, (bC BK296.out 5).trans rfl⟩ (fun hHeld => ?_)
            clear hK K
            refine norm_ (a' := ?_) ?_ ?_
            rotate_left
            ·show Act.put _ (some 98) _ = _
             simp only [Act.put, sT, sZ, sS, i64_w, i32_w]
             rfl
            refine one_ (i := 51) (N := some 101) #[true, true, true, true, true, true, true, true, true, true, true, true, true, true, true, true, true, true, true, true, true, true, true, true, true, true, true, true, true, true, true, true, true, true, true, true, true, true, true, true, true, true, true, true, true, true, true, true, true, true, true, true, false, false, false, false, false, false] rfl rfl (one_of HT_.out (by kernel_rfl)) (by decide) (fun K hK => ?_)
            refine goes_ Try.func23 (by kernel_rfl) rfl #[.agg #[.int .i64 a0_0, .int .i64 a0_1, .bool a0_2, .bool a0_3, .int .i64 a0_4, .int .i64 a0_5], .int .i64 a2] (by rfl) rfl rfl (by (try simp only [List.map_toArray, List.map_cons, List.map_nil]); first | done | rfl | (simp only [List.length_drop, List.length_take]; rfl)) ?_
            with_reducible refine (phaetonref15_Mean.calls k a0_0 a0_1 a0_2 a0_3 a0_4 a0_5 a2 t330 _ A29.out).mono ?_
            rintro e w58 ⟨rfl, hb⟩
            refine ⟨_, rfl, ?_⟩
            have n0_ := aM (Kd.R_below (by (with_reducible repeat (first | apply rA | apply rN | apply rW)); exact HO304.out) hb)
            have n1_ := aM (Kd.R_below (by (with_reducible repeat (first | apply rA | apply rN | apply rW)); exact HO307.out) hb)
            have n2_ := aM (Kd.R_below (by (with_reducible repeat (first | apply rA | apply rN | apply rW)); exact HO311.out) hb)
            have n3_ := aM (Kd.R_below (by (with_reducible repeat (first | apply rA | apply rN | apply rW)); exact HO323.out) hb)
            have n4_ := aM (Kd.R_below (by (with_reducible repeat (first | apply rA | apply rN | apply rW)); exact HO326.out) hb)
            have n5_ := aM (blk_below (g := gb296) (o := .cells #[.int .i64 a0_0, .int .i64 a0_1, .bool a0_2, .bool a0_3, .int .i64 a0_4, .int .i64 a0_5] 23 (0, 0)) (by (with_reducible repeat (first | refine bN ?_ _ | refine bW ?_ | refine bA ?_ _)); exact BK296.out) hb)
            have n6_ := aM (lT (by repeat (first | (with_reducible first | exact HB.out | apply lA | apply lN | apply lW | refine lS ?_ GE296.out) | exact HB.out)) hb)
            clear HO304
            clear HO307
            clear HO311
            clear HO323
            clear HO326
            clear BK296
            clear HB
            have HO304 := n0_
            have HO307 := n1_
            have HO311 := n2_
            have HO323 := n3_
            have HO326 := n4_
            have BK296 := n5_
            have HB := n6_
            clear n0_ n1_ n2_ n3_ n4_ n5_ n6_
            (try clear hb)
            (try clear hb2)
            (try clear hk)
            (try clear hi)
            refine hK.out _ _ ⟨(bC BK296.out 0).trans rfl, (bC BK296.out 1).trans rfl, (bC BK296.out 2).trans rfl, (bC BK296.out 3).trans rfl, (bC BK296.out 4).trans rfl, (bC BK296.out 5).trans rfl⟩ (fun hHeld => ?_)
            clear hK K
            refine norm_ (a' := ?_) ?_ ?_
            rotate_left
            ·show Act.put _ (some 101) _ = _
             simp only [Act.put, sT, sZ, sS, i64_w, i32_w]
             rfl
            refine pure_ (i := 52) (N := some 102) (v := ?_) (a' := ?_) #[true, true, true, true, true, true, true, true, true, true, true, true, true, true, true, true, true, true, true, true, true, true, true, true, true, true, true, true, true, true, true, true, true, true, true, true, true, true, true, true, true, true, true, true, true, true, true, true, true, true, true, true, true, false, false, false, false, false] rfl rfl (any_of HT_.out (by kernel_rfl)) (fun _ _ _ h => h) (Or.inl ⟨by rfl, ?_⟩) ?_ ?_
            rotate_left
            ·intro w'
             go_simp
             with_reducible rfl
            rotate_left
            ·simp only [Act.put, sT, sZ, sS, i64_w, i32_w]
             rfl
            refine pure_ (i := 53) (N := some 103) (v := ?_) (a' := ?_) #[true, true, true, true, true, true, true, true, true, true, true, true, true, true, true, true, true, true, true, true, true, true, true, true, true, true, true, true, true, true, true, true, true, true, true, true, true, true, true, true, true, true, true, true, true, true, true, true, true, true, true, true, true, true, false, false, false, false] rfl rfl (any_of HT_.out (by kernel_rfl)) (fun _ _ _ h => h) (Or.inl ⟨by rfl, ?_⟩) ?_ ?_
            rotate_left
            ·intro w'
             go_simp
             with_reducible rfl
            rotate_left
            ·simp only [Act.put, sT, sZ, sS, i64_w, i32_w]
             rfl
            refine pure_ (i := 54) (N := some 104) (v := ?_) (a' := ?_) #[true, true, true, true, true, true, true, true, true, true, true, true, true, true, true, true, true, true, true, true, true, true, true, true, true, true, true, true, true, true, true, true, true, true, true, true, true, true, true, true, true, true, true, true, true, true, true, true, true, true, true, true, true, true, true, false, false, false] rfl rfl (any_of HT_.out (by kernel_rfl)) (fun _ _ _ h => h) (Or.inl ⟨by rfl, ?_⟩) ?_ ?_
            rotate_left
            ·intro w'
             go_simp
             with_reducible rfl
            rotate_left
            ·simp only [Act.put, sT, sZ, sS, i64_w, i32_w]
             rfl
            refine pure_ (i := 55) (N := some 105) (v := ?_) (a' := ?_) #[true, true, true, true, true, true, true, true, true, true, true, true, true, true, true, true, true, true, true, true, true, true, true, true, true, true, true, true, true, true, true, true, true, true, true, true, true, true, true, true, true, true, true, true, true, true, true, true, true, true, true, true, true, true, true, true, false, false] rfl rfl (any_of HT_.out (by kernel_rfl)) (fun _ _ _ h => h) (Or.inl ⟨by rfl, ?_⟩) ?_ ?_
            rotate_left
            ·intro w'
             go_simp
             with_reducible rfl
            rotate_left
            ·simp only [Act.put, sT, sZ, sS, i64_w, i32_w]
             rfl
            refine pure_ (i := 56) (N := some 106) (v := ?_) (a' := ?_) #[true, true, true, true, true, true, true, true, true, true, true, true, true, true, true, true, true, true, true, true, true, true, true, true, true, true, true, true, true, true, true, true, true, true, true, true, true, true, true, true, true, true, true, true, true, true, true, true, true, true, true, true, true, true, true, true, true, false] rfl rfl (any_of HT_.out (by kernel_rfl)) (fun _ _ _ h => h) (Or.inl ⟨by rfl, ?_⟩) ?_ ?_
            rotate_left
            ·intro w'
             go_simp
             with_reducible rfl
            rotate_left
            ·simp only [Act.put, sT, sZ, sS, i64_w, i32_w]
             rfl
            refine pure_ (i := 57) (N := some 6) (v := ?_) (a' := ?_) #[true, true, true, true, true, true, true, true, true, true, true, true, true, true, true, true, true, true, true, true, true, true, true, true, true, true, true, true, true, true, true, true, true, true, true, true, true, true, true, true, true, true, true, true, true, true, true, true, true, true, true, true, true, true, true, true, true, true] rfl rfl (any_of HT_.out (by kernel_rfl)) (fun _ _ _ h => h) (Or.inl ⟨by rfl, ?_⟩) ?_ ?_
            rotate_left
            ·intro w'
             go_simp
             with_reducible rfl
            rotate_left
            ·simp only [Act.put, sT, sZ, sS, i64_w, i32_w]
             rfl
            refine done_ (done_of HT_.out (by kernel_rfl)) ?_
            try go_wp2
            go_ret
            exact ⟨by first | rfl | (simp [errW_none, errW_some] <;> rfl) | (simp only [← hji5]; first | rfl | (simp [errW_none, errW_some] <;> rfl)) | (simp [*, errW_none, errW_some] <;> rfl), by repeat (first | (with_reducible first | exact HB.out | apply lA | apply lN | apply lW | refine lS ?_ GE296.out) | exact HB.out)⟩
           ·rw [if_neg c30] at H
            have c30b0 : (t329 == t330) = false := nF c30
            have c30b1 : (t329 != t330) = true := nT c30
            exact absurd H (by simp)
          ·rw [if_neg c27] at H
           have c27b0 : (t314 == t316) = false := by simpa using c27
           (try (have c27b1 : decide (t314 = t316) = false := by simpa using c27))
           (try (have c27b2 : (t314 == t316) = false := by simpa using c27))
           (try (have c27b3 : ¬ (t314 = t316) := by simpa using c27))
           clear c27
           exact absurd H (by simp)
         ·rw [if_neg c26] at H
          have c26b0 : (t313 == t315) = false := nF c26
          have c26b1 : (t313 != t315) = true := nT c26
          exact absurd H (by simp)
        ·rw [if_neg c25] at H
         have c25b0 : (t308 == t312) = false := by simpa using c25
         (try (have c25b1 : decide (t308 = t312) = false := by simpa using c25))
         (try (have c25b2 : (t308 == t312) = false := by simpa using c25))
         (try (have c25b3 : ¬ (t308 = t312) := by simpa using c25))
         clear c25
         exact absurd H (by simp)
       ·replace c24 := Bool.eq_false_iff.mpr c24
        subst c24
        have H1 : (none) = some r := by rw [if_neg (show ¬ (false = true) by decide)] at H; exact H
        clear H
        have H := H1
        clear H1
        exact absurd H (by simp)
      ·replace c22 := Bool.eq_false_iff.mpr c22
       subst c22
       have H1 : (none) = some r := by rw [if_neg (show ¬ (false = true) by decide)] at H; exact H
       clear H
       have H := H1
       clear H1
       exact absurd H (by simp)
     ·rw [if_neg c18] at H
      have c18b0 : (t319 == t320) = false := by simpa using c18
      (try (have c18b1 : decide (t319 = t320) = false := by simpa using c18))
      (try (have c18b2 : (t319 == t320) = false := by simpa using c18))
      (try (have c18b3 : ¬ (t319 = t320) := by simpa using c18))
      clear c18
      exact absurd H (by simp)
    ·rw [if_neg c15] at H
     have c15b0 : (t317 == t318) = false := by simpa using c15
     (try (have c15b1 : decide (t317 = t318) = false := by simpa using c15))
     (try (have c15b2 : (t317 == t318) = false := by simpa using c15))
     (try (have c15b3 : ¬ (t317 = t318) := by simpa using c15))
     clear c15
     exact absurd H (by simp)
   ·rw [if_neg c8] at H
    exact absurd H (by simp)
  ·rw [if_neg c7] at H
   exact absurd H (by simp)
 ·rw [if_neg c6] at H
  exact absurd H (by simp)

end Go.Proofs.Ytcgkkjimonfhbaa.P

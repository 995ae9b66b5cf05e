/- Go functions that the laws of this seat reach, each as a Lean function, and a proof that a call of the Go code comes to its answers; written by a program (the kit's print, turned in a few places). Conditions: each theorem's own premises. -/
import Derived.Test.YtpcabeefahldlaaPx0
import Derived.Test.YtpcabeefahldlaaPx4
import Derived.Test.YtpcabeefahldlaaPx6
import Derived.Test.YtpcabeefahldlaaPx8
import Derived.Test.YtpcabeefahldlaaPx9
import Derived.Test.YtpcabeefahldlaaPx11
import Derived.Test.YtpcabeefahldlaaPx13
import Derived.Test.YtpcabeefahldlaaGMade
namespace Go.Proofs.Ytpcabeefahldlaa.P
open Go.RowKit Go.Proofs.YtpcabeefahldlaaW.PrintWords Go.Proofs.YtpcabeefahldlaaW.PrintLast Go.Proofs.YtpcabeefahldlaaW.PrintMore
attribute [local go_sem] max2_int min2_int max_two min_two max_three min_three max_four min_four   -- for this text's walks alone
set_option linter.unusedVariables false
set_option linter.unusedSimpArgs false

/-! ### phaetonlaw12_RouteSame: function 7 -/
mutual
def phaetonlaw12_RouteSame.l0 : Nat → List (S45) → Bool → Int → List (S38) → Int → Bool → Int → Bool → Int → List Int → Option (Bool)
 | 0, _, _, _, _, _, _, _, _, _, _ => none
 | k + 1, x0, x5, x7, x8, x9, x302000, x302001, x302002, x302003, x302004 => if x9 < (x8.length : Int) then (if 0 ≤ x9 then (phaetonlaw12_RouteSame.l1 k x0 x5 x7 x8 x9 (((rd_T38 x8 x9).f1.f1) == x302001) 0 x302000 x302001 x302002 x302003 x302004 ((rd_T38 x8 x9).f1.f0) ((rd_T38 x8 x9).f1.f1) ((rd_T38 x8 x9).f1.f2) ((rd_T38 x8 x9).f1.f3) ((rd_T38 x8 x9).f1.f4)) else (none)) else (some x5)
def phaetonlaw12_RouteSame.l1 : Nat → List (S45) → Bool → Int → List (S38) → Int → Bool → Int → Bool → Int → Bool → Int → List Int → Bool → Int → Bool → Int → List Int → Option (Bool)
 | 0, _, _, _, _, _, _, _, _, _, _, _, _, _, _, _, _, _ => none
 | k + 1, x0, x5, x7, x8, x9, x11, x12, x302000, x302001, x302002, x302003, x302004, x320000, x320001, x320002, x320003, x320004 => if x12 < (x0.length : Int) then (if x11 = true then (phaetonlaw12_RouteSame.l1 k x0 x5 x7 x8 x9 true (wrap64 (x12 + 1)) x302000 x302001 x302002 x302003 x302004 x320000 x320001 x320002 x320003 x320004) else (if 0 ≤ x12 then (phaetonlaw12_RouteSame.l1 k x0 x5 x7 x8 x9 (x320001 == ((rd_T45 x0 x12).f3)) (wrap64 (x12 + 1)) x302000 x302001 x302002 x302003 x302004 x320000 x320001 x320002 x320003 x320004) else (none))) else (if x11 = true then ((phaetonref04_Same.f x320000 x320001 x320002 x320003 x320004 x302000 x320001 x302002 x302003 x302004).bind fun t321 => (if t321 = true then ((phaetonref04_Right.f k x320000 x320001 x320002 x320003 x320004).bind fun t322 => (if t322 = true then (if 0 ≤ x9 then (if x9 < (x8.length : Int) then (if ((rd_T38 x8 x9).f0) < 0 then (none) else (if ((rd_T38 x8 x9).f0) > 3 then (none) else (if ((rd_T38 x8 x9).f0) = x7 then (none) else (phaetonlaw12_RouteSame.l0 k x0 x5 x7 x8 (wrap64 (x9 + 1)) x302000 x302001 x302002 x302003 x302004)))) else (none)) else (none)) else (none))) else (none))) else (none))
end
def phaetonlaw12_RouteSame.f (k : Nat) (l0 : List (S45)) (a1_0 : Int) (a1_1 : Bool) (a1_2 : Int) (a1_3 : Bool) (a1_4 : Int) (l1_5 : List Int) : Option (Bool) := (phaetonlaw12_head.f k).bind fun t290 => ((phaetonlaw12_Cut.f k l0 10).bind fun t291 => ((phaetonref06_Made.f a1_1 a1_2 a1_3 a1_4 l1_5).bind fun bt294 => ((some (([] : List (S38)) : List (S38))).bind fun y302 => ((route_Hops.f k t291 (Go.bits .and .i64 a1_0 3) bt294.1 bt294.2.1 bt294.2.2.1 bt294.2.2.2.1 bt294.2.2.2.2).bind fun t305 => (if y302.length + t305.length < 2199023255552 then ((some (y302 ++ t305 : List (S38))).bind fun y308 => ((route_Reach.f k t291 4 (Go.bits .and .i64 a1_0 3) bt294.1 bt294.2.1 bt294.2.2.1 bt294.2.2.2.1 bt294.2.2.2.2).bind fun t311 => (if y308.length + t311.length < 2199023255552 then (phaetonlaw12_RouteSame.l0 k t291 t290 (Go.bits .and .i64 a1_0 3) (y308 ++ t311) 0 bt294.1 bt294.2.1 bt294.2.2.1 bt294.2.2.2.1 bt294.2.2.2.2) else (none)))) else (none))))))
theorem phaetonlaw12_RouteSame.mono_l : ∀ k, (∀ y0 y1 y2 y3 y4 y5 y6 y7 y8 y9, LeO (phaetonlaw12_RouteSame.l0 k y0 y1 y2 y3 y4 y5 y6 y7 y8 y9) (phaetonlaw12_RouteSame.l0 (k + 1) y0 y1 y2 y3 y4 y5 y6 y7 y8 y9)) ∧ (∀ y0 y1 y2 y3 y4 y5 y6 y7 y8 y9 y10 y11 y12 y13 y14 y15 y16, LeO (phaetonlaw12_RouteSame.l1 k y0 y1 y2 y3 y4 y5 y6 y7 y8 y9 y10 y11 y12 y13 y14 y15 y16) (phaetonlaw12_RouteSame.l1 (k + 1) y0 y1 y2 y3 y4 y5 y6 y7 y8 y9 y10 y11 y12 y13 y14 y15 y16))
 | 0 => ⟨fun _ _ _ _ _ _ _ _ _ _ r h => by simp [phaetonlaw12_RouteSame.l0] at h, fun _ _ _ _ _ _ _ _ _ _ _ _ _ _ _ _ _ r h => by simp [phaetonlaw12_RouteSame.l1] at h⟩
 | k + 1 => by
  obtain ⟨ih0, ih1⟩ := phaetonlaw12_RouteSame.mono_l k
  refine ⟨?_, ?_⟩
  ·intro y0 y1 y2 y3 y4 y5 y6 y7 y8 y9
   unfold phaetonlaw12_RouteSame.l0
   repeat' first
   | (with_reducible exact ih0 _ _ _ _ _ _ _ _ _ _)
   | (with_reducible exact ih1 _ _ _ _ _ _ _ _ _ _ _ _ _ _ _ _ _)
   | (with_reducible exact phaetonlaw12_Cut.mono _ _ _)
   | (with_reducible exact phaetonlaw12_head.mono _)
   | (with_reducible exact phaetonref04_Right.mono _ _ _ _ _ _)
   | (with_reducible exact route_Hops.mono _ _ _ _ _ _ _ _)
   | (with_reducible exact route_Reach.mono _ _ _ _ _ _ _ _ _)
   | (with_reducible exact LeO.refl _)
   | (with_reducible exact LeO.none _)
   | (with_reducible refine LeO.ite ?_ ?_)
   | (with_reducible refine LeO.bind ?_ (fun _ => ?_))
   | exact ih0 _ _ _ _ _ _ _ _ _ _
   | exact ih1 _ _ _ _ _ _ _ _ _ _ _ _ _ _ _ _ _
   | exact phaetonlaw12_Cut.mono _ _ _
   | exact phaetonlaw12_head.mono _
   | exact phaetonref04_Right.mono _ _ _ _ _ _
   | exact route_Hops.mono _ _ _ _ _ _ _ _
   | exact route_Reach.mono _ _ _ _ _ _ _ _ _
   | exact LeO.none _
   | refine LeO.ite ?_ ?_
   | refine LeO.bind ?_ (fun _ => ?_)
  ·intro y0 y1 y2 y3 y4 y5 y6 y7 y8 y9 y10 y11 y12 y13 y14 y15 y16
   unfold phaetonlaw12_RouteSame.l1
   repeat' first
   | (with_reducible exact ih0 _ _ _ _ _ _ _ _ _ _)
   | (with_reducible exact ih1 _ _ _ _ _ _ _ _ _ _ _ _ _ _ _ _ _)
   | (with_reducible exact phaetonlaw12_Cut.mono _ _ _)
   | (with_reducible exact phaetonlaw12_head.mono _)
   | (with_reducible exact phaetonref04_Right.mono _ _ _ _ _ _)
   | (with_reducible exact route_Hops.mono _ _ _ _ _ _ _ _)
   | (with_reducible exact route_Reach.mono _ _ _ _ _ _ _ _ _)
   | (with_reducible exact LeO.refl _)
   | (with_reducible exact LeO.none _)
   | (with_reducible refine LeO.ite ?_ ?_)
   | (with_reducible refine LeO.bind ?_ (fun _ => ?_))
   | exact ih0 _ _ _ _ _ _ _ _ _ _
   | exact ih1 _ _ _ _ _ _ _ _ _ _ _ _ _ _ _ _ _
   | exact phaetonlaw12_Cut.mono _ _ _
   | exact phaetonlaw12_head.mono _
   | exact phaetonref04_Right.mono _ _ _ _ _ _
   | exact route_Hops.mono _ _ _ _ _ _ _ _
   | exact route_Reach.mono _ _ _ _ _ _ _ _ _
   | exact LeO.none _
   | refine LeO.ite ?_ ?_
   | refine LeO.bind ?_ (fun _ => ?_)
theorem phaetonlaw12_RouteSame.mono : ∀ a0 a1 a2 a3 a4 a5 a6 k, LeO (phaetonlaw12_RouteSame.f k a0 a1 a2 a3 a4 a5 a6) (phaetonlaw12_RouteSame.f (k + 1) a0 a1 a2 a3 a4 a5 a6) := by
 intro a0 a1 a2 a3 a4 a5 a6 k
 obtain ⟨ih0, ih1⟩ := phaetonlaw12_RouteSame.mono_l k
 unfold phaetonlaw12_RouteSame.f
 repeat' first
   | (with_reducible exact ih0 _ _ _ _ _ _ _ _ _ _)
   | (with_reducible exact ih1 _ _ _ _ _ _ _ _ _ _ _ _ _ _ _ _ _)
   | (with_reducible exact phaetonlaw12_Cut.mono _ _ _)
   | (with_reducible exact phaetonlaw12_head.mono _)
   | (with_reducible exact phaetonref04_Right.mono _ _ _ _ _ _)
   | (with_reducible exact route_Hops.mono _ _ _ _ _ _ _ _)
   | (with_reducible exact route_Reach.mono _ _ _ _ _ _ _ _ _)
   | (with_reducible exact LeO.refl _)
   | (with_reducible exact LeO.none _)
   | (with_reducible refine LeO.ite ?_ ?_)
   | (with_reducible refine LeO.bind ?_ (fun _ => ?_))
   | exact ih0 _ _ _ _ _ _ _ _ _ _
   | exact ih1 _ _ _ _ _ _ _ _ _ _ _ _ _ _ _ _ _
   | exact phaetonlaw12_Cut.mono _ _ _
   | exact phaetonlaw12_head.mono _
   | exact phaetonref04_Right.mono _ _ _ _ _ _
   | exact route_Hops.mono _ _ _ _ _ _ _ _
   | exact route_Reach.mono _ _ _ _ _ _ _ _ _
   | exact LeO.none _
   | refine LeO.ite ?_ ?_
   | refine LeO.bind ?_ (fun _ => ?_)
def phaetonlaw12_RouteSame.T10 : Bool × List (List Nat × List Nat) := (true, [([], []), ([], []), ([0, 1], [0, 1]), ([2], [2]), ([3], [3]), ([], []), ([], []), ([5, 6], [5, 6]), ([7], [7]), ([8], [8]), ([9], [9]), ([], []), ([11], [11]), ([10, 12], [10, 12]), ([], []), ([14, 4, 0, 1, 2, 3, 4, 14], [4, 14]), ([13, 15, 0, 1, 2, 3, 4, 5, 6, 7, 8, 9, 10, 11, 12, 13, 14, 15], [13])])
def phaetonlaw12_RouteSame.B10 : List Nat := [0, 0, 3, 7, 15, 0, 0, 96, 224, 480, 992, 0, 2048, 8160, 0, 16415, 65535]
theorem phaetonlaw12_RouteSame.tab10 : rtab .any (opsOf Try.f7 10) = phaetonlaw12_RouteSame.T10 := by kernel_rfl
theorem phaetonlaw12_RouteSame.bits10 : waitsOk phaetonlaw12_RouteSame.T10.2 phaetonlaw12_RouteSame.B10 = true := by kernel_rfl
def phaetonlaw12_RouteSame.T14 : Bool × List (List Nat × List Nat) := (true, [([], []), ([0], [0]), ([1], [1]), ([2, 1], [1, 2]), ([1], [1]), ([1], [1]), ([4, 5, 1], [1, 4, 5]), ([6, 1], [1, 6]), ([7, 1], [1, 7]), ([3, 8, 1], [1, 3, 8]), ([1, 9], [1, 9]), ([10, 1, 0, 1, 2, 3, 4, 5, 6, 7, 8, 9, 10], [0, 10])])
def phaetonlaw12_RouteSame.B14 : List Nat := [0, 1, 3, 7, 3, 3, 51, 115, 243, 511, 1023, 2047]
theorem phaetonlaw12_RouteSame.tab14 : rtab .any (opsOf Try.f7 14) = phaetonlaw12_RouteSame.T14 := by kernel_rfl
theorem phaetonlaw12_RouteSame.bits14 : waitsOk phaetonlaw12_RouteSame.T14.2 phaetonlaw12_RouteSame.B14 = true := by kernel_rfl
set_option maxHeartbeats 8000000 in
set_option maxRecDepth 100000 in
theorem phaetonlaw12_RouteSame.calls (k : Nat) (A0 : Option Addr) (c0 : Nat) (l0 : List (S45)) (a1_0 : Int) (a1_1 : Bool) (a1_2 : Int) (a1_3 : Bool) (a1_4 : Int) (A1_5 : Option Addr) (c1_5 : Nat) (l1_5 : List Int) (r : Bool) (w : World) (hr0 : Kd.C k45 w A0 l0.length l0) (hc0 : l0.length ≤ c0) (hr1_5 : Kd.C (Kd.int .u8) w A1_5 l1_5.length l1_5) (hc1_5 : l1_5.length ≤ c1_5) (h : phaetonlaw12_RouteSame.f k l0 a1_0 a1_1 a1_2 a1_3 a1_4 l1_5 = some r) :
  Calls Try.prog 7 #[.slice A0 l0.length c0, .agg #[.int .i64 a1_0, .bool a1_1, .int .i64 a1_2, .bool a1_3, .int .i64 a1_4, .slice A1_5 l1_5.length c1_5]] w fun e w' => e = .returned (.bool r) ∧ Below w.heap.size w w' := by
 have hu27 := Try.underlying27
 have hu25 := Try.underlying25
 have HR0 := aM hr0
 have HC0 := aM hc0
 clear hr0 hc0
 have HR1_5 := aM hr1_5
 have HC1_5 := aM hc1_5
 clear hr1_5 hc1_5
 have HB := aM (Below.refl w.heap.size w)
 have H : ((phaetonlaw12_head.f k).bind fun t290 => ((phaetonlaw12_Cut.f k l0 10).bind fun t291 => ((phaetonref06_Made.f a1_1 a1_2 a1_3 a1_4 l1_5).bind fun bt294 => ((some (([] : List (S38)) : List (S38))).bind fun y302 => ((route_Hops.f k t291 (Go.bits .and .i64 a1_0 3) bt294.1 bt294.2.1 bt294.2.2.1 bt294.2.2.2.1 bt294.2.2.2.2).bind fun t305 => (if y302.length + t305.length < 2199023255552 then ((some (y302 ++ t305 : List (S38))).bind fun y308 => ((route_Reach.f k t291 4 (Go.bits .and .i64 a1_0 3) bt294.1 bt294.2.1 bt294.2.2.1 bt294.2.2.2.1 bt294.2.2.2.2).bind fun t311 => (if y308.length + t311.length < 2199023255552 then (phaetonlaw12_RouteSame.l0 k t291 t290 (Go.bits .and .i64 a1_0 3) (y308 ++ t311) 0 bt294.1 bt294.2.1 bt294.2.2.1 bt294.2.2.2.1 bt294.2.2.2.2) else (none)))) else (none))))))) = some r := h
 clear h
 replace H := Option.bind_eq_some_iff.mp H
 obtain ⟨t290, A30, H⟩ := H
 replace H : ((phaetonlaw12_Cut.f k l0 10).bind fun t291 => ((phaetonref06_Made.f a1_1 a1_2 a1_3 a1_4 l1_5).bind fun bt294 => ((some (([] : List (S38)) : List (S38))).bind fun y302 => ((route_Hops.f k t291 (Go.bits .and .i64 a1_0 3) bt294.1 bt294.2.1 bt294.2.2.1 bt294.2.2.2.1 bt294.2.2.2.2).bind fun t305 => (if y302.length + t305.length < 2199023255552 then ((some (y302 ++ t305 : List (S38))).bind fun y308 => ((route_Reach.f k t291 4 (Go.bits .and .i64 a1_0 3) bt294.1 bt294.2.1 bt294.2.2.1 bt294.2.2.2.1 bt294.2.2.2.2).bind fun t311 => (if y308.length + t311.length < 2199023255552 then (phaetonlaw12_RouteSame.l0 k t291 t290 (Go.bits .and .i64 a1_0 3) (y308 ++ t311) 0 bt294.1 bt294.2.1 bt294.2.2.1 bt294.2.2.2.1 bt294.2.2.2.2) else (none)))) else (none)))))) = some r := H
 have A3 := aM A30
 clear A30
 replace H := Option.bind_eq_some_iff.mp H
 obtain ⟨t291, A40, H⟩ := H
 replace H : ((phaetonref06_Made.f a1_1 a1_2 a1_3 a1_4 l1_5).bind fun bt294 => ((some (([] : List (S38)) : List (S38))).bind fun y302 => ((route_Hops.f k t291 (Go.bits .and .i64 a1_0 3) bt294.1 bt294.2.1 bt294.2.2.1 bt294.2.2.2.1 bt294.2.2.2.2).bind fun t305 => (if y302.length + t305.length < 2199023255552 then ((some (y302 ++ t305 : List (S38))).bind fun y308 => ((route_Reach.f k t291 4 (Go.bits .and .i64 a1_0 3) bt294.1 bt294.2.1 bt294.2.2.1 bt294.2.2.2.1 bt294.2.2.2.2).bind fun t311 => (if y308.length + t311.length < 2199023255552 then (phaetonlaw12_RouteSame.l0 k t291 t290 (Go.bits .and .i64 a1_0 3) (y308 ++ t311) 0 bt294.1 bt294.2.1 bt294.2.2.1 bt294.2.2.2.1 bt294.2.2.2.2) else (none)))) else (none))))) = some r := H
 have A4 := aM A40
 clear A40
 replace H := Option.bind_eq_some_iff.mp H
 obtain ⟨⟨t294, t295, t296, t297, t298⟩, A50, H⟩ := H
 replace H : ((some (([] : List (S38)) : List (S38))).bind fun y302 => ((route_Hops.f k t291 (Go.bits .and .i64 a1_0 3) t294 t295 t296 t297 t298).bind fun t305 => (if y302.length + t305.length < 2199023255552 then ((some (y302 ++ t305 : List (S38))).bind fun y308 => ((route_Reach.f k t291 4 (Go.bits .and .i64 a1_0 3) t294 t295 t296 t297 t298).bind fun t311 => (if y308.length + t311.length < 2199023255552 then (phaetonlaw12_RouteSame.l0 k t291 t290 (Go.bits .and .i64 a1_0 3) (y308 ++ t311) 0 t294 t295 t296 t297 t298) else (none)))) else (none)))) = some r := H
 have A5 := aM A50
 clear A50
 obtain ⟨y302, hy302⟩ : ∃ y_ : List (S38), y_ = (([] : List (S38))) := ⟨_, rfl⟩
 replace H : ((route_Hops.f k t291 (Go.bits .and .i64 a1_0 3) t294 t295 t296 t297 t298).bind fun t305 => (if y302.length + t305.length < 2199023255552 then ((some (y302 ++ t305 : List (S38))).bind fun y308 => ((route_Reach.f k t291 4 (Go.bits .and .i64 a1_0 3) t294 t295 t296 t297 t298).bind fun t311 => (if y308.length + t311.length < 2199023255552 then (phaetonlaw12_RouteSame.l0 k t291 t290 (Go.bits .and .i64 a1_0 3) (y308 ++ t311) 0 t294 t295 t296 t297 t298) else (none)))) else (none))) = some r := by first | (rw [hy302]; with_reducible exact H) | (have H2_ := (Option.bind_some _ _).symm.trans H; rw [hy302]; with_reducible exact H2_) | (have H2_ := (Option.bind_some _ _).symm.trans H; with_reducible exact H2_) | with_reducible exact H | (rw [hy302]; exact H) | exact H
 have Ny302 := aM hy302
 clear hy302
 replace H := Option.bind_eq_some_iff.mp H
 obtain ⟨t305, A60, H⟩ := H
 replace H : (if y302.length + t305.length < 2199023255552 then ((some (y302 ++ t305 : List (S38))).bind fun y308 => ((route_Reach.f k t291 4 (Go.bits .and .i64 a1_0 3) t294 t295 t296 t297 t298).bind fun t311 => (if y308.length + t311.length < 2199023255552 then (phaetonlaw12_RouteSame.l0 k t291 t290 (Go.bits .and .i64 a1_0 3) (y308 ++ t311) 0 t294 t295 t296 t297 t298) else (none)))) else (none)) = some r := H
 have A6 := aM A60
 clear A60
 by_cases c7 : y302.length + t305.length < 2199023255552
 ·rw [if_pos c7] at H
  have LMc7 := aM c7
  clear c7
  obtain ⟨y308, hy308⟩ : ∃ y_ : List (S38), y_ = (y302 ++ t305) := ⟨_, rfl⟩
  replace H : ((route_Reach.f k t291 4 (Go.bits .and .i64 a1_0 3) t294 t295 t296 t297 t298).bind fun t311 => (if y308.length + t311.length < 2199023255552 then (phaetonlaw12_RouteSame.l0 k t291 t290 (Go.bits .and .i64 a1_0 3) (y308 ++ t311) 0 t294 t295 t296 t297 t298) else (none))) = some r := by first | (rw [hy308]; with_reducible exact H) | (have H2_ := (Option.bind_some _ _).symm.trans H; rw [hy308]; with_reducible exact H2_) | (have H2_ := (Option.bind_some _ _).symm.trans H; with_reducible exact H2_) | with_reducible exact H | (rw [hy308]; exact H) | exact H
  have Ny308 := aM hy308
  clear hy308
  replace H := Option.bind_eq_some_iff.mp H
  obtain ⟨t311, A80, H⟩ := H
  replace H : (if y308.length + t311.length < 2199023255552 then (phaetonlaw12_RouteSame.l0 k t291 t290 (Go.bits .and .i64 a1_0 3) (y308 ++ t311) 0 t294 t295 t296 t297 t298) else (none)) = some r := H
  have A8 := aM A80
  clear A80
  by_cases c9 : y308.length + t311.length < 2199023255552
  ·rw [if_pos c9] at H
   have LMc9 := aM c9
   clear c9
   obtain ⟨y314, hy314⟩ : ∃ y_ : List (S38), y_ = (y308 ++ t311) := ⟨_, rfl⟩
   replace H : (phaetonlaw12_RouteSame.l0 k t291 t290 (Go.bits .and .i64 a1_0 3) y314 0 t294 t295 t296 t297 t298) = some r := by first | (rw [hy314]; with_reducible exact H) | (have H2_ := (Option.bind_some _ _).symm.trans H; rw [hy314]; with_reducible exact H2_) | (have H2_ := (Option.bind_some _ _).symm.trans H; with_reducible exact H2_) | with_reducible exact H | (rw [hy314]; exact H) | exact H
   have Ny314 := aM hy314
   clear hy314
   have H' := aM H
   clear H
   go_enter Try.func7, Try.ntmps7
   go_upto_region 5 with (first | ((with_reducible refine gate_dst (N := 3) rfl ?_); refine box_event ?hg (N := 3) ?hd (cs := #[.int .i64 a1_0, .bool a1_1, .int .i64 a1_2, .bool a1_3, .int .i64 a1_4, .slice A1_5 l1_5.length c1_5]) (t := 27) ?hr ?_; (case hd => rfl); (case hg => rfl); (case hr => first | (go_simp; done) | (go_simp; rfl)); intro gb289 hg w10 hbox hb; have n0_ := aM (lT (by repeat (first | (with_reducible first | exact HB.out | apply lA | apply lN | apply lW) | exact HB.out)) hb); have n1_ := aM (hbox); have n2_ := aM ((by rw [hg]; exact (lZ (by repeat (first | (with_reducible first | exact HB.out | apply lA | apply lN | apply lW) | exact HB.out))) : w.heap.size ≤ gb289)); have n3_ := aM ((by rw [hg]; exact (lZ (by repeat (first | (with_reducible first | exact HB.out | apply lA | apply lN | apply lW) | exact HB.out))) : w.heap.size ≤ gb289)); clear HB; have HB := n0_; have BK289 := n1_; have GW289 := n2_; have GE289 := n3_; clear n0_ n1_ n2_ n3_; clear hb hbox hg) | ((with_reducible refine gate_callee (f := 10) rfl ?_); refine goesL_ (some 14) rfl rfl Try.func10 (by kernel_rfl) rfl #[] rfl (by (try simp only [List.map_toArray, List.map_cons, List.map_nil]); first | done | rfl | (simp only [List.length_drop, List.length_take]; rfl)) ?_; (with_reducible refine (phaetonlaw12_head.calls k  t290 _ A3.out).mono ?_); rintro e w11 ⟨rfl, hb⟩; refine ⟨_, rfl, ?_⟩; have n0_ := aM (blk_below (g := gb289) (o := .cells #[.int .i64 a1_0, .bool a1_1, .int .i64 a1_2, .bool a1_3, .int .i64 a1_4, .slice A1_5 l1_5.length c1_5] 27 (0, 0)) (by (with_reducible repeat (first | refine bN ?_ _ | refine bW ?_ | refine bA ?_ _)); exact BK289.out) hb); have n1_ := aM (lT (by repeat (first | (with_reducible first | exact HB.out | apply lA | apply lN | apply lW | refine lS ?_ GE289.out) | exact HB.out)) hb); clear BK289; clear HB; have BK289 := n0_; have HB := n1_; clear n0_ n1_; (try clear hb); (try clear hb2); (try clear hk); (try clear hi)) | ((with_reducible refine gate_callee (f := 16) rfl ?_); refine goesL_ (some 16) rfl rfl Try.func16 (by kernel_rfl) rfl #[.slice A0 l0.length c0, .int .i64 10] rfl (by (try simp only [List.map_toArray, List.map_cons, List.map_nil]); first | done | rfl | (simp only [List.length_drop, List.length_take]; rfl)) ?_; (with_reducible refine (phaetonlaw12_Cut.calls k _ _ l0 10 t291 _ ?side1 ?side2 A4.out).mono ?_); (case side1 => repeat (first | exact (Kd.C_below HR0.out HB.out) | (with_reducible refine Kd.C_alloc ?_ _) | (with_reducible refine Kd.C_drewN ?_ _) | (with_reducible refine Kd.C_drew ?_))); (case side2 => exact HC0.out); rintro e w12 ⟨v292, rfl, ho0, hb⟩; refine ⟨_, rfl, ?_⟩; have n0_ := aM (Kd.R_lower ho0 (lZ (by repeat (first | (with_reducible first | exact HB.out | apply lA | apply lN | apply lW | refine lS ?_ GE289.out) | exact HB.out)))); have n1_ := aM (blk_below (g := gb289) (o := .cells #[.int .i64 a1_0, .bool a1_1, .int .i64 a1_2, .bool a1_3, .int .i64 a1_4, .slice A1_5 l1_5.length c1_5] 27 (0, 0)) (by (with_reducible repeat (first | refine bN ?_ _ | refine bW ?_ | refine bA ?_ _)); exact BK289.out) hb); have n2_ := aM (lT (by repeat (first | (with_reducible first | exact HB.out | apply lA | apply lN | apply lW | refine lS ?_ GE289.out) | exact HB.out)) hb); clear BK289; clear HB; have HO293 := n0_; have BK289 := n1_; have HB := n2_; clear n0_ n1_ n2_; (try clear hb); (try clear hb2); (try clear hk); (try clear hi); (try clear ho0); have hcz13_0 : w12.cell? ⟨gb289, 0, none⟩ = some (.int .i64 a1_0) := (bC BK289.out 0).trans rfl; have hcz13_1 : w12.cell? ⟨gb289, 1, none⟩ = some (.bool a1_1) := (bC BK289.out 1).trans rfl; have hcz13_2 : w12.cell? ⟨gb289, 2, none⟩ = some (.int .i64 a1_2) := (bC BK289.out 2).trans rfl; have hcz13_3 : w12.cell? ⟨gb289, 3, none⟩ = some (.bool a1_3) := (bC BK289.out 3).trans rfl; have hcz13_4 : w12.cell? ⟨gb289, 4, none⟩ = some (.int .i64 a1_4) := (bC BK289.out 4).trans rfl; have hcz13_5 : w12.cell? ⟨gb289, 5, none⟩ = some (.slice A1_5 l1_5.length c1_5) := (bC BK289.out 5).trans rfl; have hfz13_0 := bF BK289.out 0; have hfz13_1 := bF BK289.out 1; have hfz13_2 := bF BK289.out 2; have hfz13_3 := bF BK289.out 3; have hfz13_4 := bF BK289.out 4; have hfz13_5 := bF BK289.out 5) | ((with_reducible refine gate_callee (f := 11) rfl ?_); refine goesL_ (some 19) rfl rfl Try.func11 (by kernel_rfl) rfl #[.agg #[.bool a1_1, .int .i64 a1_2, .bool a1_3, .int .i64 a1_4, .slice A1_5 l1_5.length c1_5]] rfl (by (try simp only [List.map_toArray, List.map_cons, List.map_nil]); first | done | rfl | (simp only [List.length_drop, List.length_take]; rfl)) ?_; (with_reducible refine (phaetonref06_Made.calls a1_1 a1_2 a1_3 a1_4 _ _ l1_5 t294 t295 t296 t297 t298 _ ?side1 ?side2 A5.out).mono ?_); (case side1 => repeat (first | exact (Kd.C_below HR1_5.out HB.out) | (with_reducible refine Kd.C_alloc ?_ _) | (with_reducible refine Kd.C_drewN ?_ _) | (with_reducible refine Kd.C_drew ?_))); (case side2 => exact HC1_5.out); rintro e w14 ⟨v299, rfl, ho0, hb⟩; refine ⟨_, rfl, ?_⟩; have n0_ := aM (Kd.R_below (by (with_reducible repeat (first | apply rA | apply rN | apply rW)); exact HO293.out) hb); have n1_ := aM (Kd.R_lower ho0 (lZ (by repeat (first | (with_reducible first | exact HB.out | apply lA | apply lN | apply lW | refine lS ?_ GE289.out) | exact HB.out)))); have n2_ := aM (blk_below (g := gb289) (o := .cells #[.int .i64 a1_0, .bool a1_1, .int .i64 a1_2, .bool a1_3, .int .i64 a1_4, .slice A1_5 l1_5.length c1_5] 27 (0, 0)) (by (with_reducible repeat (first | refine bN ?_ _ | refine bW ?_ | refine bA ?_ _)); exact BK289.out) hb); have n3_ := aM (lT (by repeat (first | (with_reducible first | exact HB.out | apply lA | apply lN | apply lW | refine lS ?_ GE289.out) | exact HB.out)) hb); clear HO293; clear BK289; clear HB; have HO293 := n0_; have HO300 := n1_; have BK289 := n2_; have HB := n3_; clear n0_ n1_ n2_ n3_; (try clear hb); (try clear hb2); (try clear hk); (try clear hi); (try clear ho0)) | ((with_reducible refine gate_dst (N := 6) rfl ?_); refine box_event ?hg (N := 6) ?hd (cs := #[.bool false, .int .i64 0, .bool false, .int .i64 0, .slice none 0 0]) (t := 25) ?hr ?_; (case hd => rfl); (case hg => rfl); (case hr => first | (go_simp; done) | (go_simp; rfl)); intro gb301 hg w15 hbox hb; have n0_ := aM (Kd.R_below (by (with_reducible repeat (first | apply rA | apply rN | apply rW)); exact HO293.out) hb); have n1_ := aM (Kd.R_below (by (with_reducible repeat (first | apply rA | apply rN | apply rW)); exact HO300.out) hb); have n2_ := aM (blk_below (g := gb289) (o := .cells #[.int .i64 a1_0, .bool a1_1, .int .i64 a1_2, .bool a1_3, .int .i64 a1_4, .slice A1_5 l1_5.length c1_5] 27 (0, 0)) (by (with_reducible repeat (first | refine bN ?_ _ | refine bW ?_ | refine bA ?_ _)); exact BK289.out) hb); have n3_ := aM (lT (by repeat (first | (with_reducible first | exact HB.out | apply lA | apply lN | apply lW | refine lS ?_ GE289.out) | exact HB.out)) hb); have n4_ := aM (hbox); have n5_ := aM ((by rw [hg]; exact (lZ (by repeat (first | (with_reducible first | exact HB.out | apply lA | apply lN | apply lW | refine lS ?_ GE289.out) | exact HB.out))) : w.heap.size ≤ gb301)); have n6_ := aM ((by rw [hg]; exact (lZ (by repeat (first | (with_reducible first | exact HB.out | apply lA | apply lN | apply lW | refine lS ?_ GE289.out) | exact HB.out))) : w.heap.size ≤ gb301)); have n7_ := aM ((by rw [hg]; exact Nat.ne_of_lt (blk_lt (g := gb289) (o := .cells #[.int .i64 a1_0, .bool a1_1, .int .i64 a1_2, .bool a1_3, .int .i64 a1_4, .slice A1_5 l1_5.length c1_5] 27 (0, 0)) (by (with_reducible repeat (first | refine bN ?_ _ | refine bW ?_ | refine bA ?_ _)); exact BK289.out)) : gb289 ≠ gb301)); have n8_ := aM ((by rw [hg]; exact Nat.ne_of_gt (blk_lt (g := gb289) (o := .cells #[.int .i64 a1_0, .bool a1_1, .int .i64 a1_2, .bool a1_3, .int .i64 a1_4, .slice A1_5 l1_5.length c1_5] 27 (0, 0)) (by (with_reducible repeat (first | refine bN ?_ _ | refine bW ?_ | refine bA ?_ _)); exact BK289.out)) : gb301 ≠ gb289)); clear HO293; clear HO300; clear BK289; clear HB; have HO293 := n0_; have HO300 := n1_; have BK289 := n2_; have HB := n3_; have BK301 := n4_; have GW301 := n5_; have GE301 := n6_; have NB289_301 := n7_; have NB301_289 := n8_; clear n0_ n1_ n2_ n3_ n4_ n5_ n6_ n7_ n8_; clear hb hbox hg; have hnb16 := NB301_289.out; have hnc16 := NB289_301.out; have hcz17_0 : w15.cell? ⟨gb301, 0, none⟩ = some (.bool false) := (bC BK301.out 0).trans rfl; have hcz17_1 : w15.cell? ⟨gb301, 1, none⟩ = some (.int .i64 0) := (bC BK301.out 1).trans rfl; have hcz17_2 : w15.cell? ⟨gb301, 2, none⟩ = some (.bool false) := (bC BK301.out 2).trans rfl; have hcz17_3 : w15.cell? ⟨gb301, 3, none⟩ = some (.int .i64 0) := (bC BK301.out 3).trans rfl; have hcz17_4 : w15.cell? ⟨gb301, 4, none⟩ = some (.slice none 0 0) := (bC BK301.out 4).trans rfl; have hfz17_0 := bF BK301.out 0; have hfz17_1 := bF BK301.out 1; have hfz17_2 := bF BK301.out 2; have hfz17_3 := bF BK301.out 3; have hfz17_4 := bF BK301.out 4; obtain ⟨Ao18, co18, eo18⟩ := Kd.R_slice HO300.out; subst eo18; have hcz19_0 : w15.cell? ⟨gb289, 0, none⟩ = some (.int .i64 a1_0) := (bC BK289.out 0).trans rfl; have hcz19_1 : w15.cell? ⟨gb289, 1, none⟩ = some (.bool a1_1) := (bC BK289.out 1).trans rfl; have hcz19_2 : w15.cell? ⟨gb289, 2, none⟩ = some (.int .i64 a1_2) := (bC BK289.out 2).trans rfl; have hcz19_3 : w15.cell? ⟨gb289, 3, none⟩ = some (.bool a1_3) := (bC BK289.out 3).trans rfl; have hcz19_4 : w15.cell? ⟨gb289, 4, none⟩ = some (.int .i64 a1_4) := (bC BK289.out 4).trans rfl; have hcz19_5 : w15.cell? ⟨gb289, 5, none⟩ = some (.slice A1_5 l1_5.length c1_5) := (bC BK289.out 5).trans rfl; have hfz19_0 := bF BK289.out 0; have hfz19_1 := bF BK289.out 1; have hfz19_2 := bF BK289.out 2; have hfz19_3 := bF BK289.out 3; have hfz19_4 := bF BK289.out 4; have hfz19_5 := bF BK289.out 5))
   have n0_ := Aside0.mk (Kd.R_mono (Kd.R_far (p := ⟨gb301, 4, none⟩) (Kd.R_far (p := ⟨gb301, 3, none⟩) (Kd.R_far (p := ⟨gb301, 2, none⟩) (Kd.R_far (p := ⟨gb301, 1, none⟩) (Kd.R_far (p := ⟨gb301, 0, none⟩) (Kd.R_types HO293.out BK301.out (by decide)) (fun _ hk => hk.2) (.bool t294)) (fun _ hk => hk.2) (.int .i64 t295)) (fun _ hk => hk.2) (.bool t296)) (fun _ hk => hk.2) (.int .i64 t297)) (fun _ hk => hk.2) (.slice Ao18 t298.length co18)) (fun _ h_ => h_.1))
   have n1_ := Aside0.mk (Kd.R_mono (Kd.R_far (p := ⟨gb301, 4, none⟩) (Kd.R_far (p := ⟨gb301, 3, none⟩) (Kd.R_far (p := ⟨gb301, 2, none⟩) (Kd.R_far (p := ⟨gb301, 1, none⟩) (Kd.R_far (p := ⟨gb301, 0, none⟩) (Kd.R_types HO300.out BK301.out (by decide)) (fun _ hk => hk.2) (.bool t294)) (fun _ hk => hk.2) (.int .i64 t295)) (fun _ hk => hk.2) (.bool t296)) (fun _ hk => hk.2) (.int .i64 t297)) (fun _ hk => hk.2) (.slice Ao18 t298.length co18)) (fun _ h_ => h_.1))
   have n2_ : Aside0 ((((((w15.setCell ⟨gb301, 0, none⟩ (.bool t294)).setCell ⟨gb301, 1, none⟩ (.int .i64 t295)).setCell ⟨gb301, 2, none⟩ (.bool t296)).setCell ⟨gb301, 3, none⟩ (.int .i64 t297)).setCell ⟨gb301, 4, none⟩ (.slice Ao18 t298.length co18)).heap[gb289]? = some (.cells #[.int .i64 a1_0, .bool a1_1, .int .i64 a1_2, .bool a1_3, .int .i64 a1_4, .slice A1_5 l1_5.length c1_5] 27 (0, 0))) := ⟨by refine blk_far ?_ NB289_301.out _; refine blk_far ?_ NB289_301.out _; refine blk_far ?_ NB289_301.out _; refine blk_far ?_ NB289_301.out _; refine blk_far ?_ NB289_301.out _; exact BK289.out⟩
   have n3_ : Aside0 ((((((w15.setCell ⟨gb301, 0, none⟩ (.bool t294)).setCell ⟨gb301, 1, none⟩ (.int .i64 t295)).setCell ⟨gb301, 2, none⟩ (.bool t296)).setCell ⟨gb301, 3, none⟩ (.int .i64 t297)).setCell ⟨gb301, 4, none⟩ (.slice Ao18 t298.length co18)).heap[gb301]? = some (.cells #[.bool t294, .int .i64 t295, .bool t296, .int .i64 t297, .slice Ao18 t298.length co18] 25 (0, 0))) := ⟨by refine blk_put (cs := #[.bool t294, .int .i64 t295, .bool t296, .int .i64 t297, .slice none 0 0]) ?_ 4 _ rfl; refine blk_put (cs := #[.bool t294, .int .i64 t295, .bool t296, .int .i64 0, .slice none 0 0]) ?_ 3 _ rfl; refine blk_put (cs := #[.bool t294, .int .i64 t295, .bool false, .int .i64 0, .slice none 0 0]) ?_ 2 _ rfl; refine blk_put (cs := #[.bool t294, .int .i64 0, .bool false, .int .i64 0, .slice none 0 0]) ?_ 1 _ rfl; refine blk_put (cs := #[.bool false, .int .i64 0, .bool false, .int .i64 0, .slice none 0 0]) ?_ 0 _ rfl; exact BK301.out⟩
   have n4_ : Aside0 (Below w.heap.size w (((((w15.setCell ⟨gb301, 0, none⟩ (.bool t294)).setCell ⟨gb301, 1, none⟩ (.int .i64 t295)).setCell ⟨gb301, 2, none⟩ (.bool t296)).setCell ⟨gb301, 3, none⟩ (.int .i64 t297)).setCell ⟨gb301, 4, none⟩ (.slice Ao18 t298.length co18))) := ⟨by repeat (first | (with_reducible first | exact HB.out | refine below_set ?_ GE301.out) | exact HB.out)⟩
   (try clear HO293)
   (try clear HO300)
   (try clear BK289)
   (try clear BK301)
   (try clear HB)
   generalize (((((w15.setCell ⟨gb301, 0, none⟩ (.bool t294)).setCell ⟨gb301, 1, none⟩ (.int .i64 t295)).setCell ⟨gb301, 2, none⟩ (.bool t296)).setCell ⟨gb301, 3, none⟩ (.int .i64 t297)).setCell ⟨gb301, 4, none⟩ (.slice Ao18 t298.length co18)) = wg at n0_ n1_ n2_ n3_ n4_ ⊢
   have HO293 := n0_
   have HO300 := n1_
   have BK289 := n2_
   have BK301 := n3_
   have HB := n4_
   clear n0_ n1_ n2_ n3_ n4_
   have hcg_0 : wg.cell? ⟨gb301, 0, none⟩ = some (.bool t294) := (blk_cell BK301.out 0).trans rfl
   have hcg_1 : wg.cell? ⟨gb301, 1, none⟩ = some (.int .i64 t295) := (blk_cell BK301.out 1).trans rfl
   have hcg_2 : wg.cell? ⟨gb301, 2, none⟩ = some (.bool t296) := (blk_cell BK301.out 2).trans rfl
   have hcg_3 : wg.cell? ⟨gb301, 3, none⟩ = some (.int .i64 t297) := (blk_cell BK301.out 3).trans rfl
   have hcg_4 : wg.cell? ⟨gb301, 4, none⟩ = some (.slice Ao18 t298.length co18) := (blk_cell BK301.out 4).trans rfl
   have hfg_0 := blk_frozen BK301.out 0
   have hfg_1 := blk_frozen BK301.out 1
   have hfg_2 := blk_frozen BK301.out 2
   have hfg_3 := blk_frozen BK301.out 3
   have hfg_4 := blk_frozen BK301.out 4
   have hxg_0 : wg.cell? ⟨gb289, 0, none⟩ = some (.int .i64 a1_0) := (blk_cell BK289.out 0).trans rfl
   have hxg_1 : wg.cell? ⟨gb289, 1, none⟩ = some (.bool a1_1) := (blk_cell BK289.out 1).trans rfl
   have hxg_2 : wg.cell? ⟨gb289, 2, none⟩ = some (.int .i64 a1_2) := (blk_cell BK289.out 2).trans rfl
   have hxg_3 : wg.cell? ⟨gb289, 3, none⟩ = some (.bool a1_3) := (blk_cell BK289.out 3).trans rfl
   have hxg_4 : wg.cell? ⟨gb289, 4, none⟩ = some (.int .i64 a1_4) := (blk_cell BK289.out 4).trans rfl
   have hxg_5 : wg.cell? ⟨gb289, 5, none⟩ = some (.slice A1_5 l1_5.length c1_5) := (blk_cell BK289.out 5).trans rfl
   go_wp2_with (first | ((with_reducible refine gate_dst (N := 23) rfl ?_); refine Kd.N_lit k38 _ 38 ?hg (N' := 23) ?hd (xs := ([] : List (S38))) (inner := []) (ok := (fun k_ => some k_ ≠ (v292 : Value).ownBlock ∧ some k_ ≠ (.slice Ao18 t298.length co18 : Value).ownBlock ∧ k_ ≠ gb289 ∧ k_ ≠ gb301)) (okp := (fun k_ => some k_ ≠ (v292 : Value).ownBlock ∧ some k_ ≠ (.slice Ao18 t298.length co18 : Value).ownBlock ∧ k_ ≠ gb289 ∧ k_ ≠ gb301)) ?hr ?hp (fun _ hk => hk) ((show ∀ k_, wg.heap.size ≤ k_ → (fun k_ => some k_ ≠ (v292 : Value).ownBlock ∧ some k_ ≠ (.slice Ao18 t298.length co18 : Value).ownBlock ∧ k_ ≠ gb289 ∧ k_ ≠ gb301) k_ from fun k_ hk => ⟨Kd.fresh' (Kd.R_lt (by (with_reducible repeat (first | apply rA | apply rN | apply rW)); exact (Kd.R_mono (Kd.R_types HO293.out BK301.out (by decide)) (fun _ h_ => h_.1)))) k_ hk, Kd.fresh' (Kd.R_lt (by (with_reducible repeat (first | apply rA | apply rN | apply rW)); exact (Kd.R_mono (Kd.R_types HO300.out BK301.out (by decide)) (fun _ h_ => h_.1)))) k_ hk, Kd.freshB (g := gb289) (o := .cells #[.int .i64 a1_0, .bool a1_1, .int .i64 a1_2, .bool a1_3, .int .i64 a1_4, .slice A1_5 l1_5.length c1_5] 27 (0, 0)) (by (with_reducible repeat (first | refine bN ?_ _ | refine bW ?_ | refine bA ?_ _)); exact BK289.out) k_ hk, Kd.freshB (g := gb301) (o := .cells #[.bool t294, .int .i64 t295, .bool t296, .int .i64 t297, .slice Ao18 t298.length co18] 25 (0, 0)) (by (with_reducible repeat (first | refine bN ?_ _ | refine bW ?_ | refine bA ?_ _)); exact BK301.out) k_ hk⟩) _ (Nat.le_refl _)) (Below.refl _ _) (Nat.le_refl _) (by simp) ?_; (case hd => rfl); (case hg => rfl); (case hr => first | (go_simp; done) | (go_simp; rfl)); (case hp => exact (Reps.none _ _)); intro v303 w20 ho21 hb hg_ hnew_; clear hg_ hnew_; (first | rw [← Ny302.out] at ho21 | (simp only [Int.reduceToNat] at ho21; rw [← Ny302.out] at ho21)); have n0_ := aM (Kd.R_below (by (with_reducible repeat (first | apply rA | apply rN | apply rW)); exact (Kd.R_mono (Kd.R_types HO293.out BK301.out (by decide)) (fun _ h_ => h_.1))) hb); have n1_ := aM (Kd.R_below (by (with_reducible repeat (first | apply rA | apply rN | apply rW)); exact (Kd.R_mono (Kd.R_types HO300.out BK301.out (by decide)) (fun _ h_ => h_.1))) hb); have n2_ := aM (Kd.N_lower ho21 (lZ (by repeat (first | (with_reducible first | exact HB.out | apply lA | apply lN | apply lW | refine lS ?_ GE289.out | refine lS ?_ GE301.out) | exact HB.out)))); have n3_ := aM (blk_below (g := gb289) (o := .cells #[.int .i64 a1_0, .bool a1_1, .int .i64 a1_2, .bool a1_3, .int .i64 a1_4, .slice A1_5 l1_5.length c1_5] 27 (0, 0)) (by (with_reducible repeat (first | refine bN ?_ _ | refine bW ?_ | refine bA ?_ _)); exact BK289.out) hb); have n4_ := aM (blk_below (g := gb301) (o := .cells #[.bool t294, .int .i64 t295, .bool t296, .int .i64 t297, .slice Ao18 t298.length co18] 25 (0, 0)) (by (with_reducible repeat (first | refine bN ?_ _ | refine bW ?_ | refine bA ?_ _)); exact BK301.out) hb); have n5_ := aM (lT (by repeat (first | (with_reducible first | exact HB.out | apply lA | apply lN | apply lW | refine lS ?_ GE289.out | refine lS ?_ GE301.out) | exact HB.out)) hb); clear HO293; clear HO300; clear BK289; clear BK301; clear HB; have HO293 := n0_; have HO300 := n1_; have HO304 := n2_; have BK289 := n3_; have BK301 := n4_; have HB := n5_; clear n0_ n1_ n2_ n3_ n4_ n5_; clear hb ho21; have hcz22_0 : w20.cell? ⟨gb301, 0, none⟩ = some (.bool t294) := (bC BK301.out 0).trans rfl; have hcz22_1 : w20.cell? ⟨gb301, 1, none⟩ = some (.int .i64 t295) := (bC BK301.out 1).trans rfl; have hcz22_2 : w20.cell? ⟨gb301, 2, none⟩ = some (.bool t296) := (bC BK301.out 2).trans rfl; have hcz22_3 : w20.cell? ⟨gb301, 3, none⟩ = some (.int .i64 t297) := (bC BK301.out 3).trans rfl; have hcz22_4 : w20.cell? ⟨gb301, 4, none⟩ = some (.slice Ao18 t298.length co18) := (bC BK301.out 4).trans rfl; have hfz22_0 := bF BK301.out 0; have hfz22_1 := bF BK301.out 1; have hfz22_2 := bF BK301.out 2; have hfz22_3 := bF BK301.out 3; have hfz22_4 := bF BK301.out 4; obtain ⟨Ao23, co23, eo23⟩ := Kd.R_slice HO293.out; subst eo23) | ((with_reducible refine gate_callee (f := 18) rfl ?_); refine goesL_ (some 27) rfl rfl Try.func18 (by kernel_rfl) rfl #[.slice Ao23 t291.length co23, .int .i64 (Go.bits .and .i64 a1_0 3), .agg #[.bool t294, .int .i64 t295, .bool t296, .int .i64 t297, .slice Ao18 t298.length co18]] rfl (by (try simp only [List.map_toArray, List.map_cons, List.map_nil]); first | done | rfl | (simp only [List.length_drop, List.length_take]; rfl)) ?_; (with_reducible refine (route_Hops.calls k _ _ t291 (Go.bits .and .i64 a1_0 3) t294 t295 t296 t297 (fun k_ => some k_ = (.slice Ao18 t298.length co18 : Value).ownBlock) _ _ t298 t305 _ ?side1 ?side2 ?side3 A6.out).mono ?_); (case side1 => repeat (first | exact (Kd.R_reads' HO293.out).2.2 | (with_reducible refine Kd.C_alloc ?_ _) | (with_reducible refine Kd.C_drewN ?_ _) | (with_reducible refine Kd.C_drew ?_))); (case side2 => exact (Kd.R_reads' HO293.out).2.1); (case side3 => exact Kd.R_V (Kd.R_tight rfl (Kd.R_types (Kd.R_types (Kd.R_apart' (Kd.R_apart' (HO300.out) (Kd.R_typed HO293.out) (by decide)) (Kd.N_typed HO304.out) (by decide)) BK289.out (by decide)) BK301.out (by decide)))); rintro e w24 ⟨v306, rfl, ho0, hb⟩; refine ⟨_, rfl, ?_⟩; have n0_ := aM (Kd.R_below (by (with_reducible repeat (first | apply rA | apply rN | apply rW)); exact HO293.out) hb); have n1_ := aM (Kd.R_below (by (with_reducible repeat (first | apply rA | apply rN | apply rW)); exact HO300.out) hb); have n2_ := aM (Kd.N_elder' (by (with_reducible repeat (first | apply Kd.N_alloc | apply Kd.N_drewN | apply Kd.N_drew)); exact HO304.out) (Kd.N_base ho0) hb); have n3_ := aM (Kd.N_lower (Kd.N_mono (ok' := fun k_ => some k_ ≠ (.slice Ao23 t291.length co23 : Value).ownBlock ∧ some k_ ≠ (v303 : Value).ownBlock ∧ k_ ≠ gb289 ∧ k_ ≠ gb301) ho0 (fun k_ hk_ => ⟨Or.elim hk_ (fun hs_ => ((Kd.R_types (Kd.R_types (Kd.R_apart' (Kd.R_apart' (HO300.out) (Kd.R_typed HO293.out) (by decide)) (Kd.N_typed HO304.out) (by decide)) BK289.out (by decide)) BK301.out (by decide)).1 k_ hs_.symm).1.1.1.2) (fun hn_ => (Kd.fresh' (Kd.R_lt (by (with_reducible repeat (first | apply rA | apply rN | apply rW)); exact HO293.out)) k_ hn_)), Or.elim hk_ (fun hs_ => ((Kd.R_types (Kd.R_types (Kd.R_apart' (Kd.R_apart' (HO300.out) (Kd.R_typed HO293.out) (by decide)) (Kd.N_typed HO304.out) (by decide)) BK289.out (by decide)) BK301.out (by decide)).1 k_ hs_.symm).1.1.2) (fun hn_ => (Kd.fresh' (Kd.N_lt (by (with_reducible repeat (first | apply Kd.N_alloc | apply Kd.N_drewN | apply Kd.N_drew)); exact HO304.out)) k_ hn_)), Or.elim hk_ (fun hs_ => ((Kd.R_types (Kd.R_types (Kd.R_apart' (Kd.R_apart' (HO300.out) (Kd.R_typed HO293.out) (by decide)) (Kd.N_typed HO304.out) (by decide)) BK289.out (by decide)) BK301.out (by decide)).1 k_ hs_.symm).1.2) (fun hn_ => (Kd.freshB (g := gb289) (o := .cells #[.int .i64 a1_0, .bool a1_1, .int .i64 a1_2, .bool a1_3, .int .i64 a1_4, .slice A1_5 l1_5.length c1_5] 27 (0, 0)) (by (with_reducible repeat (first | refine bN ?_ _ | refine bW ?_ | refine bA ?_ _)); exact BK289.out) k_ hn_)), Or.elim hk_ (fun hs_ => ((Kd.R_types (Kd.R_types (Kd.R_apart' (Kd.R_apart' (HO300.out) (Kd.R_typed HO293.out) (by decide)) (Kd.N_typed HO304.out) (by decide)) BK289.out (by decide)) BK301.out (by decide)).1 k_ hs_.symm).2) (fun hn_ => (Kd.freshB (g := gb301) (o := .cells #[.bool t294, .int .i64 t295, .bool t296, .int .i64 t297, .slice Ao18 t298.length co18] 25 (0, 0)) (by (with_reducible repeat (first | refine bN ?_ _ | refine bW ?_ | refine bA ?_ _)); exact BK301.out) k_ hn_))⟩)) (lZ (by repeat (first | (with_reducible first | exact HB.out | apply lA | apply lN | apply lW | refine lS ?_ GE289.out | refine lS ?_ GE301.out) | exact HB.out)))); have n4_ := aM (blk_below (g := gb289) (o := .cells #[.int .i64 a1_0, .bool a1_1, .int .i64 a1_2, .bool a1_3, .int .i64 a1_4, .slice A1_5 l1_5.length c1_5] 27 (0, 0)) (by (with_reducible repeat (first | refine bN ?_ _ | refine bW ?_ | refine bA ?_ _)); exact BK289.out) hb); have n5_ := aM (blk_below (g := gb301) (o := .cells #[.bool t294, .int .i64 t295, .bool t296, .int .i64 t297, .slice Ao18 t298.length co18] 25 (0, 0)) (by (with_reducible repeat (first | refine bN ?_ _ | refine bW ?_ | refine bA ?_ _)); exact BK301.out) hb); have n6_ := aM (lT (by repeat (first | (with_reducible first | exact HB.out | apply lA | apply lN | apply lW | refine lS ?_ GE289.out | refine lS ?_ GE301.out) | exact HB.out)) hb); clear HO293; clear HO300; clear HO304; clear BK289; clear BK301; clear HB; have HO293 := n0_; have HO300 := n1_; have HO304 := n2_; have HO307 := n3_; have BK289 := n4_; have BK301 := n5_; have HB := n6_; clear n0_ n1_ n2_ n3_ n4_ n5_ n6_; (try clear hb); (try clear hb2); (try clear hk); (try clear hi); (try clear ho0); obtain ⟨Ao26, co26, eo26⟩ := Kd.N_slice HO307.out; subst eo26) | ((with_reducible refine gate_builtin (b := .append) (xs := #[.tmp 23, .tmp 27]) rfl ?_); at_builtin; refine Kd.N_append_rows k38 (w0 := w) w.heap.size rfl (.tmp 23) (.tmp 27) 33 38 (.agg #[(.int .i64 0), (.bool false), (.int .i64 0), (.bool false), (.int .i64 0), (.slice none 0 0)]) 64 rfl Try.underlying33 info38 rfl (by decide) (by omega) v303 y302 t305 _ _ _ (fun k_ => some k_ ≠ (.slice Ao23 t291.length co23 : Value).ownBlock ∧ k_ ≠ gb289 ∧ k_ ≠ gb301) (fun k_ => ((fun k_ => some k_ ≠ (.slice Ao23 t291.length co23 : Value).ownBlock ∧ k_ ≠ gb289 ∧ k_ ≠ gb301)) k_ ∧ some k_ ≠ (v303 : Value).ownBlock) rfl rfl ?aO ?aR (fun _ hk => hk) ?aF ?aB ?aS ?aL ?_; (case aR => exact (by skip; exact Kd.N_F (Kd.N_mono (ok' := (fun k_ => ((fun k_ => some k_ ≠ (.slice Ao23 t291.length co23 : Value).ownBlock ∧ k_ ≠ gb289 ∧ k_ ≠ gb301)) k_ ∧ some k_ ≠ (v303 : Value).ownBlock)) (HO307.out) (fun k_ hk => ⟨⟨hk.1, ⟨hk.2.2.1, hk.2.2.2⟩⟩, hk.2.1⟩)))); (case aB => exact (by repeat (first | (with_reducible first | exact HB.out | apply lA | apply lN | apply lW | refine lS ?_ GE289.out | refine lS ?_ GE301.out) | exact HB.out))); (case aF => exact (fun k_ hk => ⟨Kd.fresh' (Kd.R_lt (by (with_reducible repeat (first | apply rA | apply rN | apply rW)); exact HO293.out)) k_ hk, Kd.freshB (g := gb289) (o := .cells #[.int .i64 a1_0, .bool a1_1, .int .i64 a1_2, .bool a1_3, .int .i64 a1_4, .slice A1_5 l1_5.length c1_5] 27 (0, 0)) (by (with_reducible repeat (first | refine bN ?_ _ | refine bW ?_ | refine bA ?_ _)); exact BK289.out) k_ hk, Kd.freshB (g := gb301) (o := .cells #[.bool t294, .int .i64 t295, .bool t296, .int .i64 t297, .slice Ao18 t298.length co18] 25 (0, 0)) (by (with_reducible repeat (first | refine bN ?_ _ | refine bW ?_ | refine bA ?_ _)); exact BK301.out) k_ hk⟩)); (case aO => exact (by (with_reducible repeat (first | apply Kd.N_alloc | apply Kd.N_drewN | apply Kd.N_drew)); exact Kd.N_mono HO304.out (fun _ hk => ⟨hk.1.1, ⟨hk.1.2.2.1, hk.1.2.2.2⟩⟩))); (case aS => exact (lZ (by repeat (first | (with_reducible first | exact HB.out | apply lA | apply lN | apply lW | refine lS ?_ GE289.out | refine lS ?_ GE301.out) | exact HB.out)))); (case aL => have := LMc7.out; omega); intro v309 w25 ho hb hg hat; rw [← Ny308.out] at ho; have n0_ := aM (blk_grown (g := gb289) (o := .cells #[.int .i64 a1_0, .bool a1_1, .int .i64 a1_2, .bool a1_3, .int .i64 a1_4, .slice A1_5 l1_5.length c1_5] 27 (0, 0)) (by (with_reducible repeat (first | refine bN ?_ _ | refine bW ?_ | refine bA ?_ _)); exact BK289.out) hg (Kd.N_ne HO304.out BK289.out (by decide))); have n1_ := aM (Kd.R_over' (by (with_reducible repeat (first | apply rA | apply rN | apply rW)); exact HO293.out) (Kd.N_typed (by (with_reducible repeat (first | apply Kd.N_alloc | apply Kd.N_drewN | apply Kd.N_drew)); exact HO304.out)) (by decide) hg); have n2_ := aM (Kd.R_over' (by (with_reducible repeat (first | apply rA | apply rN | apply rW)); exact HO300.out) (Kd.N_typed (by (with_reducible repeat (first | apply Kd.N_alloc | apply Kd.N_drewN | apply Kd.N_drew)); exact HO304.out)) (by decide) hg); have n3_ := aM (blk_grown (g := gb301) (o := .cells #[.bool t294, .int .i64 t295, .bool t296, .int .i64 t297, .slice Ao18 t298.length co18] 25 (0, 0)) (by (with_reducible repeat (first | refine bN ?_ _ | refine bW ?_ | refine bA ?_ _)); exact BK301.out) hg (Kd.N_ne HO304.out BK301.out (by decide))); have n4_ := aM (Kd.N_afterv (ok := (fun k_ => some k_ ≠ (.slice Ao23 t291.length co23 : Value).ownBlock ∧ k_ ≠ gb289 ∧ k_ ≠ gb301)) (by (with_reducible repeat (first | apply Kd.N_alloc | apply Kd.N_drewN | apply Kd.N_drew)); exact Kd.N_mono HO307.out (fun _ hk => ⟨⟨hk.1, ⟨hk.2.2.1, hk.2.2.2⟩⟩, hk.2.1⟩)) hg hat); have n5_ := aM (hb); have n6_ := aM (ho); clear BK289; clear HO293; clear HO300; clear BK301; clear HO307; clear HB; clear HO304; have BK289 := n0_; have HO293 := n1_; have HO300 := n2_; have BK301 := n3_; have HO307 := n4_; have HB := n5_; have HO310 := n6_; clear n0_ n1_ n2_ n3_ n4_ n5_ n6_; clear ho hb hg hat; have hcz27_0 : w25.cell? ⟨gb301, 0, none⟩ = some (.bool t294) := (bC BK301.out 0).trans rfl; have hcz27_1 : w25.cell? ⟨gb301, 1, none⟩ = some (.int .i64 t295) := (bC BK301.out 1).trans rfl; have hcz27_2 : w25.cell? ⟨gb301, 2, none⟩ = some (.bool t296) := (bC BK301.out 2).trans rfl; have hcz27_3 : w25.cell? ⟨gb301, 3, none⟩ = some (.int .i64 t297) := (bC BK301.out 3).trans rfl; have hcz27_4 : w25.cell? ⟨gb301, 4, none⟩ = some (.slice Ao18 t298.length co18) := (bC BK301.out 4).trans rfl; have hfz27_0 := bF BK301.out 0; have hfz27_1 := bF BK301.out 1; have hfz27_2 := bF BK301.out 2; have hfz27_3 := bF BK301.out 3; have hfz27_4 := bF BK301.out 4) | ((with_reducible refine gate_callee (f := 20) rfl ?_); refine goesL_ (some 33) rfl rfl Try.func20 (by kernel_rfl) rfl #[.slice Ao23 t291.length co23, .int .i64 4, .int .i64 (Go.bits .and .i64 a1_0 3), .agg #[.bool t294, .int .i64 t295, .bool t296, .int .i64 t297, .slice Ao18 t298.length co18]] rfl (by (try simp only [List.map_toArray, List.map_cons, List.map_nil]); first | done | rfl | (simp only [List.length_drop, List.length_take]; rfl)) ?_; (with_reducible refine (route_Reach.calls k _ _ t291 4 (Go.bits .and .i64 a1_0 3) t294 t295 t296 t297 (fun k_ => some k_ = (.slice Ao18 t298.length co18 : Value).ownBlock) _ _ t298 t311 _ ?side1 ?side2 ?side3 A8.out).mono ?_); (case side1 => repeat (first | exact (Kd.R_reads' HO293.out).2.2 | (with_reducible refine Kd.C_alloc ?_ _) | (with_reducible refine Kd.C_drewN ?_ _) | (with_reducible refine Kd.C_drew ?_))); (case side2 => exact (Kd.R_reads' HO293.out).2.1); (case side3 => exact Kd.R_V (Kd.R_tight rfl (Kd.R_types (Kd.R_types (Kd.R_apart' (Kd.R_apart' (Kd.R_apart' (HO300.out) (Kd.R_typed HO293.out) (by decide)) (Kd.N_typed HO307.out) (by decide)) (Kd.N_typed HO310.out) (by decide)) BK289.out (by decide)) BK301.out (by decide)))); rintro e w28 ⟨v312, rfl, ho0, hb⟩; refine ⟨_, rfl, ?_⟩; have n0_ := aM (Kd.R_below (by (with_reducible repeat (first | apply rA | apply rN | apply rW)); exact HO293.out) hb); have n1_ := aM (Kd.R_below (by (with_reducible repeat (first | apply rA | apply rN | apply rW)); exact HO300.out) hb); have n2_ := aM (Kd.N_elder' (by (with_reducible repeat (first | apply Kd.N_alloc | apply Kd.N_drewN | apply Kd.N_drew)); exact HO307.out) (Kd.N_base ho0) hb); have n3_ := aM (Kd.N_elder' (by (with_reducible repeat (first | apply Kd.N_alloc | apply Kd.N_drewN | apply Kd.N_drew)); exact HO310.out) (Kd.N_base ho0) hb); have n4_ := aM (Kd.N_lower (Kd.N_mono (ok' := fun k_ => some k_ ≠ (.slice Ao23 t291.length co23 : Value).ownBlock ∧ some k_ ≠ (.slice Ao26 t305.length co26 : Value).ownBlock ∧ some k_ ≠ (v309 : Value).ownBlock ∧ k_ ≠ gb289 ∧ k_ ≠ gb301) ho0 (fun k_ hk_ => ⟨Or.elim hk_ (fun hs_ => ((Kd.R_types (Kd.R_types (Kd.R_apart' (Kd.R_apart' (Kd.R_apart' (HO300.out) (Kd.R_typed HO293.out) (by decide)) (Kd.N_typed HO307.out) (by decide)) (Kd.N_typed HO310.out) (by decide)) BK289.out (by decide)) BK301.out (by decide)).1 k_ hs_.symm).1.1.1.1.2) (fun hn_ => (Kd.fresh' (Kd.R_lt (by (with_reducible repeat (first | apply rA | apply rN | apply rW)); exact HO293.out)) k_ hn_)), Or.elim hk_ (fun hs_ => ((Kd.R_types (Kd.R_types (Kd.R_apart' (Kd.R_apart' (Kd.R_apart' (HO300.out) (Kd.R_typed HO293.out) (by decide)) (Kd.N_typed HO307.out) (by decide)) (Kd.N_typed HO310.out) (by decide)) BK289.out (by decide)) BK301.out (by decide)).1 k_ hs_.symm).1.1.1.2) (fun hn_ => (Kd.fresh' (Kd.N_lt (by (with_reducible repeat (first | apply Kd.N_alloc | apply Kd.N_drewN | apply Kd.N_drew)); exact HO307.out)) k_ hn_)), Or.elim hk_ (fun hs_ => ((Kd.R_types (Kd.R_types (Kd.R_apart' (Kd.R_apart' (Kd.R_apart' (HO300.out) (Kd.R_typed HO293.out) (by decide)) (Kd.N_typed HO307.out) (by decide)) (Kd.N_typed HO310.out) (by decide)) BK289.out (by decide)) BK301.out (by decide)).1 k_ hs_.symm).1.1.2) (fun hn_ => (Kd.fresh' (Kd.N_lt (by (with_reducible repeat (first | apply Kd.N_alloc | apply Kd.N_drewN | apply Kd.N_drew)); exact HO310.out)) k_ hn_)), Or.elim hk_ (fun hs_ => ((Kd.R_types (Kd.R_types (Kd.R_apart' (Kd.R_apart' (Kd.R_apart' (HO300.out) (Kd.R_typed HO293.out) (by decide)) (Kd.N_typed HO307.out) (by decide)) (Kd.N_typed HO310.out) (by decide)) BK289.out (by decide)) BK301.out (by decide)).1 k_ hs_.symm).1.2) (fun hn_ => (Kd.freshB (g := gb289) (o := .cells #[.int .i64 a1_0, .bool a1_1, .int .i64 a1_2, .bool a1_3, .int .i64 a1_4, .slice A1_5 l1_5.length c1_5] 27 (0, 0)) (by (with_reducible repeat (first | refine bN ?_ _ | refine bW ?_ | refine bA ?_ _)); exact BK289.out) k_ hn_)), Or.elim hk_ (fun hs_ => ((Kd.R_types (Kd.R_types (Kd.R_apart' (Kd.R_apart' (Kd.R_apart' (HO300.out) (Kd.R_typed HO293.out) (by decide)) (Kd.N_typed HO307.out) (by decide)) (Kd.N_typed HO310.out) (by decide)) BK289.out (by decide)) BK301.out (by decide)).1 k_ hs_.symm).2) (fun hn_ => (Kd.freshB (g := gb301) (o := .cells #[.bool t294, .int .i64 t295, .bool t296, .int .i64 t297, .slice Ao18 t298.length co18] 25 (0, 0)) (by (with_reducible repeat (first | refine bN ?_ _ | refine bW ?_ | refine bA ?_ _)); exact BK301.out) k_ hn_))⟩)) (lZ (by repeat (first | (with_reducible first | exact HB.out | apply lA | apply lN | apply lW | refine lS ?_ GE289.out | refine lS ?_ GE301.out) | exact HB.out)))); have n5_ := aM (blk_below (g := gb289) (o := .cells #[.int .i64 a1_0, .bool a1_1, .int .i64 a1_2, .bool a1_3, .int .i64 a1_4, .slice A1_5 l1_5.length c1_5] 27 (0, 0)) (by (with_reducible repeat (first | refine bN ?_ _ | refine bW ?_ | refine bA ?_ _)); exact BK289.out) hb); have n6_ := aM (blk_below (g := gb301) (o := .cells #[.bool t294, .int .i64 t295, .bool t296, .int .i64 t297, .slice Ao18 t298.length co18] 25 (0, 0)) (by (with_reducible repeat (first | refine bN ?_ _ | refine bW ?_ | refine bA ?_ _)); exact BK301.out) hb); have n7_ := aM (lT (by repeat (first | (with_reducible first | exact HB.out | apply lA | apply lN | apply lW | refine lS ?_ GE289.out | refine lS ?_ GE301.out) | exact HB.out)) hb); clear HO293; clear HO300; clear HO307; clear HO310; clear BK289; clear BK301; clear HB; have HO293 := n0_; have HO300 := n1_; have HO307 := n2_; have HO310 := n3_; have HO313 := n4_; have BK289 := n5_; have BK301 := n6_; have HB := n7_; clear n0_ n1_ n2_ n3_ n4_ n5_ n6_ n7_; (try clear hb); (try clear hb2); (try clear hk); (try clear hi); (try clear ho0); obtain ⟨Ao30, co30, eo30⟩ := Kd.N_slice HO313.out; subst eo30) | ((with_reducible refine gate_builtin (b := .append) (xs := #[.tmp 29, .tmp 33]) rfl ?_); at_builtin; refine Kd.N_append_rows k38 (w0 := w) w.heap.size rfl (.tmp 29) (.tmp 33) 33 38 (.agg #[(.int .i64 0), (.bool false), (.int .i64 0), (.bool false), (.int .i64 0), (.slice none 0 0)]) 64 rfl Try.underlying33 info38 rfl (by decide) (by omega) v309 y308 t311 _ _ _ (fun k_ => some k_ ≠ (.slice Ao23 t291.length co23 : Value).ownBlock ∧ k_ ≠ gb289 ∧ k_ ≠ gb301) (fun k_ => ((fun k_ => some k_ ≠ (.slice Ao23 t291.length co23 : Value).ownBlock ∧ k_ ≠ gb289 ∧ k_ ≠ gb301)) k_ ∧ some k_ ≠ (v309 : Value).ownBlock) rfl rfl ?aO ?aR (fun _ hk => hk) ?aF ?aB ?aS ?aL ?_; (case aR => exact (by skip; exact Kd.N_F (Kd.N_mono (ok' := (fun k_ => ((fun k_ => some k_ ≠ (.slice Ao23 t291.length co23 : Value).ownBlock ∧ k_ ≠ gb289 ∧ k_ ≠ gb301)) k_ ∧ some k_ ≠ (v309 : Value).ownBlock)) (HO313.out) (fun k_ hk => ⟨⟨hk.1, ⟨hk.2.2.2.1, hk.2.2.2.2⟩⟩, hk.2.2.1⟩)))); (case aB => exact (by repeat (first | (with_reducible first | exact HB.out | apply lA | apply lN | apply lW | refine lS ?_ GE289.out | refine lS ?_ GE301.out) | exact HB.out))); (case aF => exact (fun k_ hk => ⟨Kd.fresh' (Kd.R_lt (by (with_reducible repeat (first | apply rA | apply rN | apply rW)); exact HO293.out)) k_ hk, Kd.freshB (g := gb289) (o := .cells #[.int .i64 a1_0, .bool a1_1, .int .i64 a1_2, .bool a1_3, .int .i64 a1_4, .slice A1_5 l1_5.length c1_5] 27 (0, 0)) (by (with_reducible repeat (first | refine bN ?_ _ | refine bW ?_ | refine bA ?_ _)); exact BK289.out) k_ hk, Kd.freshB (g := gb301) (o := .cells #[.bool t294, .int .i64 t295, .bool t296, .int .i64 t297, .slice Ao18 t298.length co18] 25 (0, 0)) (by (with_reducible repeat (first | refine bN ?_ _ | refine bW ?_ | refine bA ?_ _)); exact BK301.out) k_ hk⟩)); (case aO => exact (by (with_reducible repeat (first | apply Kd.N_alloc | apply Kd.N_drewN | apply Kd.N_drew)); exact Kd.N_mono HO310.out (fun _ hk => ⟨hk.1.1, ⟨hk.1.2.1, hk.1.2.2⟩⟩))); (case aS => exact (lZ (by repeat (first | (with_reducible first | exact HB.out | apply lA | apply lN | apply lW | refine lS ?_ GE289.out | refine lS ?_ GE301.out) | exact HB.out)))); (case aL => have := LMc9.out; omega); intro v315 w29 ho hb hg hat; rw [← Ny314.out] at ho; have n0_ := aM (blk_grown (g := gb289) (o := .cells #[.int .i64 a1_0, .bool a1_1, .int .i64 a1_2, .bool a1_3, .int .i64 a1_4, .slice A1_5 l1_5.length c1_5] 27 (0, 0)) (by (with_reducible repeat (first | refine bN ?_ _ | refine bW ?_ | refine bA ?_ _)); exact BK289.out) hg (Kd.N_ne HO310.out BK289.out (by decide))); have n1_ := aM (Kd.R_over' (by (with_reducible repeat (first | apply rA | apply rN | apply rW)); exact HO293.out) (Kd.N_typed (by (with_reducible repeat (first | apply Kd.N_alloc | apply Kd.N_drewN | apply Kd.N_drew)); exact HO310.out)) (by decide) hg); have n2_ := aM (Kd.R_over' (by (with_reducible repeat (first | apply rA | apply rN | apply rW)); exact HO300.out) (Kd.N_typed (by (with_reducible repeat (first | apply Kd.N_alloc | apply Kd.N_drewN | apply Kd.N_drew)); exact HO310.out)) (by decide) hg); have n3_ := aM (blk_grown (g := gb301) (o := .cells #[.bool t294, .int .i64 t295, .bool t296, .int .i64 t297, .slice Ao18 t298.length co18] 25 (0, 0)) (by (with_reducible repeat (first | refine bN ?_ _ | refine bW ?_ | refine bA ?_ _)); exact BK301.out) hg (Kd.N_ne HO310.out BK301.out (by decide))); have n4_ := aM (Kd.N_afterv (ok := (fun k_ => some k_ ≠ (.slice Ao23 t291.length co23 : Value).ownBlock ∧ some k_ ≠ (.slice Ao30 t311.length co30 : Value).ownBlock ∧ k_ ≠ gb289 ∧ k_ ≠ gb301)) (by (with_reducible repeat (first | apply Kd.N_alloc | apply Kd.N_drewN | apply Kd.N_drew)); exact Kd.N_mono HO307.out (fun _ hk => ⟨⟨hk.1.1.1, ⟨hk.2, ⟨hk.1.1.2.1, hk.1.1.2.2⟩⟩⟩, hk.1.2⟩)) hg hat); have n5_ := aM (Kd.N_afterv (ok := (fun k_ => some k_ ≠ (.slice Ao23 t291.length co23 : Value).ownBlock ∧ some k_ ≠ (.slice Ao26 t305.length co26 : Value).ownBlock ∧ k_ ≠ gb289 ∧ k_ ≠ gb301)) (by (with_reducible repeat (first | apply Kd.N_alloc | apply Kd.N_drewN | apply Kd.N_drew)); exact Kd.N_mono HO313.out (fun _ hk => ⟨⟨hk.1, ⟨hk.2.1, ⟨hk.2.2.2.1, hk.2.2.2.2⟩⟩⟩, hk.2.2.1⟩)) hg hat); have n6_ := aM (hb); have n7_ := aM (ho); clear BK289; clear HO293; clear HO300; clear BK301; clear HO307; clear HO313; clear HB; clear HO310; have BK289 := n0_; have HO293 := n1_; have HO300 := n2_; have BK301 := n3_; have HO307 := n4_; have HO313 := n5_; have HB := n6_; have HO316 := n7_; clear n0_ n1_ n2_ n3_ n4_ n5_ n6_ n7_; clear ho hb hg hat))
   go_loopg [9] k (fun kq v9 w' => ∃ (x9_1 : Int), v9 = .int .i64 x9_1 ∧ Aside0 (phaetonlaw12_RouteSame.l0 kq t291 t290 (Go.bits .and .i64 a1_0 3) y314 x9_1 t294 t295 t296 t297 t298 = some r) ∧ Aside0 (kq ≤ k) ∧ Aside0 (Kd.R k45 45 w' w.heap.size (fun _ => True) (.slice Ao23 t291.length co23) t291) ∧ Aside0 (Kd.N k38 38 w' w.heap.size (fun k_ => some k_ ≠ ((.slice Ao23 t291.length co23) : Value).ownBlock ∧ k_ ≠ gb289 ∧ k_ ≠ gb301) v315 y314) ∧ Aside0 (Kd.R (Kd.int .u8) 5 w' w.heap.size (fun _ => True) (.slice Ao18 t298.length co18) t298) ∧ Aside0 (w'.heap[gb289]? = some (.cells #[.int .i64 a1_0, .bool a1_1, .int .i64 a1_2, .bool a1_3, .int .i64 a1_4, (.slice A1_5 l1_5.length c1_5)] 27 (0, 0))) ∧ Aside0 (w'.heap[gb301]? = some (.cells #[.bool t294, .int .i64 t295, .bool t296, .int .i64 t297, (.slice Ao18 t298.length co18)] 25 (0, 0))) ∧ Aside0 (Below w.heap.size w w'))
   case atStart => exact ⟨(0), (by first | rfl | (simp; done) | (simp [*]; done)), H', ⟨Nat.le_refl _⟩, ⟨by (with_reducible repeat (first | apply rA | apply rN | apply rW)); exact HO293.out⟩, ⟨by (with_reducible repeat (first | apply Kd.N_alloc | apply Kd.N_drewN | apply Kd.N_drew)); exact HO316.out⟩, ⟨by (with_reducible repeat (first | apply rA | apply rN | apply rW)); exact HO300.out⟩, ⟨by (with_reducible repeat (first | refine bN ?_ _ | refine bW ?_ | refine bA ?_ _)); exact BK289.out⟩, ⟨by (with_reducible repeat (first | refine bN ?_ _ | refine bW ?_ | refine bA ?_ _)); exact BK301.out⟩, ⟨by repeat (first | (with_reducible first | exact HB.out | apply lA | apply lN | apply lW | refine lS ?_ GE289.out | refine lS ?_ GE301.out) | exact HB.out)⟩⟩
   case round =>
    clear H'
    try clear c1
    try clear c2
    try clear p2
    try clear c7
    try clear c9
    try clear c10
    try clear c11
    try clear c16
    try clear c18
    try clear c20
    try clear hcz13_0
    try clear hcz13_1
    try clear hcz13_2
    try clear hcz13_3
    try clear hcz13_4
    try clear hcz13_5
    try clear hcz17_0
    try clear hcz17_1
    try clear hcz17_2
    try clear hcz17_3
    try clear hcz17_4
    try clear hcz19_0
    try clear hcz19_1
    try clear hcz19_2
    try clear hcz19_3
    try clear hcz19_4
    try clear hcz19_5
    try clear hcz22_0
    try clear hcz22_1
    try clear hcz22_2
    try clear hcz22_3
    try clear hcz22_4
    try clear hcz27_0
    try clear hcz27_1
    try clear hcz27_2
    try clear hcz27_3
    try clear hcz27_4
    try clear hfz13_0
    try clear hfz13_1
    try clear hfz13_2
    try clear hfz13_3
    try clear hfz13_4
    try clear hfz13_5
    try clear hfz17_0
    try clear hfz17_1
    try clear hfz17_2
    try clear hfz17_3
    try clear hfz17_4
    try clear hfz19_0
    try clear hfz19_1
    try clear hfz19_2
    try clear hfz19_3
    try clear hfz19_4
    try clear hfz19_5
    try clear hfz22_0
    try clear hfz22_1
    try clear hfz22_2
    try clear hfz22_3
    try clear hfz22_4
    try clear hfz27_0
    try clear hfz27_1
    try clear hfz27_2
    try clear hfz27_3
    try clear hfz27_4
    obtain ⟨x9_1, rfl, HA, HK1, HO_0, HO_8, HO_302004, BK289, BK301, HB⟩ := hrel
    cases gk with
    | zero => exact absurd HA.out (by simp [phaetonlaw12_RouteSame.l0])
    | succ k1 =>
     have H := HA.out
     clear HA
     simp only [phaetonlaw12_RouteSame.l0] at H
     by_cases c31 : x9_1 < (y314.length : Int)
     ·rw [if_pos c31] at H
      have c31b0 : decide (x9_1 < (y314.length : Int)) = true := decide_eq_true c31
      clear c31
      by_cases c32 : 0 ≤ x9_1
      ·rw [if_pos c32] at H
       have c32b0 : decide (0 ≤ x9_1) = true := decide_eq_true c32
       clear c32
       have H' := aM H
       clear H
       obtain ⟨Ao33, co33, eo33⟩ := Kd.N_slice HO_8.out
       subst eo33
       try go_wp2
       have n0_ := aM (rW HO_0.out)
       have n1_ := aM (Kd.N_drew HO_8.out)
       have n2_ := aM (rW HO_302004.out)
       have n3_ := aM (bW BK289.out)
       have n4_ := aM (bW BK301.out)
       have n5_ := aM (lW HB.out)
       clear HO_0
       clear HO_8
       clear HO_302004
       clear BK289
       clear BK301
       clear HB
       have HO_0 := n0_
       have HO_8 := n1_
       have HO_302004 := n2_
       have BK289 := n3_
       have BK301 := n4_
       have HB := n5_
       clear n0_ n1_ n2_ n3_ n4_ n5_
       have p317 : 0 ≤ (x9_1 : Int) := oD (by first | (with_reducible assumption) | assumption)
       have q317 : x9_1 < (y314.length : Int) := oD (by first | (with_reducible assumption) | assumption)
       obtain ⟨ad317, A317_5, c317_5, e317, hx317_0, hx317_1, hx317_2, hx317_3, hx317_4, hx317_5, hl317_5, hi317_5⟩ := at_T38 (Kd.N_reads' HO_8.out).2.2 x9_1 p317 q317
       cases e317
       obtain ⟨ce317, hce317, hMe317, hcc317⟩ := Kd.N_get HO_8.out z38 x9_1 p317 (by first | exact q317 | exact oD (by first | (with_reducible assumption) | assumption) | (have e_ := (Kd.N_reads' HO_8.out).1; omega))
       obtain ⟨ua317_5, uc317_5, rfl, ul317_5, ge317_5⟩ := k38_openF hMe317
       have hv317_5 := hcc317 5 _ rfl
       rw [add_field _ _ 5 (by omega)] at hv317_5
       replace hv317_5 := Option.some.inj (hv317_5.symm.trans hx317_5)
       injection hv317_5 with hva_ hvn_ hvc_
       rw [hva_] at ge317_5
       rw [hvc_] at ul317_5
       have HL317_5 := aM (show Kd.V (Kd.int .u8) 5 _ w.heap.size _ _ ((rd_T38 y314 x9_1).f1.f4) from Kd.V_mk ul317_5 ge317_5)
       clear hva_ hvn_ hvc_ ge317_5 ul317_5
       clear hcc317 hce317
       have HR317_5 := aM hi317_5
       have HC317_5 := aM hl317_5
       clear hi317_5 hl317_5
       replace p317 := eq_true p317
       replace q317 := eq_true q317
       have p318 : 0 ≤ (x9_1 : Int) := oD (by first | (with_reducible assumption) | assumption)
       have q318 : x9_1 < (y314.length : Int) := oD (by first | (with_reducible assumption) | assumption)
       obtain ⟨ad318, A318_5, c318_5, e318, hx318_0, hx318_1, hx318_2, hx318_3, hx318_4, hx318_5, hl318_5, hi318_5⟩ := at_T38 (Kd.N_reads' HO_8.out).2.2 x9_1 p318 q318
       obtain rfl : ad317 = ad318 := (by injection e318)
       obtain ⟨ce318, hce318, hMe318, hcc318⟩ := Kd.N_get HO_8.out z38 x9_1 p318 (by first | exact q318 | exact oD (by first | (with_reducible assumption) | assumption) | (have e_ := (Kd.N_reads' HO_8.out).1; omega))
       obtain ⟨ua318_5, uc318_5, rfl, ul318_5, ge318_5⟩ := k38_openF hMe318
       have hv318_5 := hcc318 5 _ rfl
       rw [add_field _ _ 5 (by omega)] at hv318_5
       replace hv318_5 := Option.some.inj (hv318_5.symm.trans hx318_5)
       injection hv318_5 with hva_ hvn_ hvc_
       rw [hva_] at ge318_5
       rw [hvc_] at ul318_5
       have HL318_5 := aM (show Kd.V (Kd.int .u8) 5 _ w.heap.size _ _ ((rd_T38 y314 x9_1).f1.f4) from Kd.V_mk ul318_5 ge318_5)
       clear hva_ hvn_ hvc_ ge318_5 ul318_5
       clear hcc318 hce318
       have HR318_5 := aM hi318_5
       have HC318_5 := aM hl318_5
       clear hi318_5 hl318_5
       replace p318 := eq_true p318
       replace q318 := eq_true q318
       have ea_ := Option.some.inj (hx317_5.symm.trans hx318_5)
       injection ea_ with ea_ en_ ec_
       subst ea_
       subst ec_
       clear en_
       refine start_ (n := 17) (S := fun w' => w'.cell? ⟨gb301, 0, none⟩ = some (.bool t294) ∧ w'.cell? ⟨gb301, 1, none⟩ = some (.int .i64 t295) ∧ w'.cell? ⟨gb301, 2, none⟩ = some (.bool t296) ∧ w'.cell? ⟨gb301, 3, none⟩ = some (.int .i64 t297) ∧ w'.cell? ⟨gb301, 4, none⟩ = some (.slice Ao18 t298.length co18) ∧ w'.cell? (ad317.add ((x9_1).toNat * 6)) = some (.int .i64 ((rd_T38 y314 x9_1).f0)) ∧ w'.cell? ⟨(ad317.add ((x9_1).toNat * 6)).block, (ad317.add ((x9_1).toNat * 6)).off + 1, none⟩ = some (.bool ((rd_T38 y314 x9_1).f1.f0)) ∧ w'.cell? ⟨(ad317.add ((x9_1).toNat * 6)).block, (ad317.add ((x9_1).toNat * 6)).off + 2, none⟩ = some (.int .i64 ((rd_T38 y314 x9_1).f1.f1)) ∧ w'.cell? ⟨(ad317.add ((x9_1).toNat * 6)).block, (ad317.add ((x9_1).toNat * 6)).off + 3, none⟩ = some (.bool ((rd_T38 y314 x9_1).f1.f2)) ∧ w'.cell? ⟨(ad317.add ((x9_1).toNat * 6)).block, (ad317.add ((x9_1).toNat * 6)).off + 4, none⟩ = some (.int .i64 ((rd_T38 y314 x9_1).f1.f3)) ∧ w'.cell? ⟨(ad317.add ((x9_1).toNat * 6)).block, (ad317.add ((x9_1).toNat * 6)).off + 5, none⟩ = some (.slice A317_5 ((rd_T38 y314 x9_1).f1.f4).length c317_5) ∧ w'.cell? (ad317.add ((x9_1).toNat * 6)) = some (.int .i64 ((rd_T38 y314 x9_1).f0)) ∧ w'.cell? ⟨(ad317.add ((x9_1).toNat * 6)).block, (ad317.add ((x9_1).toNat * 6)).off + 1, none⟩ = some (.bool ((rd_T38 y314 x9_1).f1.f0)) ∧ w'.cell? ⟨(ad317.add ((x9_1).toNat * 6)).block, (ad317.add ((x9_1).toNat * 6)).off + 2, none⟩ = some (.int .i64 ((rd_T38 y314 x9_1).f1.f1)) ∧ w'.cell? ⟨(ad317.add ((x9_1).toNat * 6)).block, (ad317.add ((x9_1).toNat * 6)).off + 3, none⟩ = some (.bool ((rd_T38 y314 x9_1).f1.f2)) ∧ w'.cell? ⟨(ad317.add ((x9_1).toNat * 6)).block, (ad317.add ((x9_1).toNat * 6)).off + 4, none⟩ = some (.int .i64 ((rd_T38 y314 x9_1).f1.f3)) ∧ w'.cell? ⟨(ad317.add ((x9_1).toNat * 6)).block, (ad317.add ((x9_1).toNat * 6)).off + 5, none⟩ = some (.slice A317_5 ((rd_T38 y314 x9_1).f1.f4).length c317_5)) (ds := []) #[false, false, false, false, false, false, false, false, false, false, false, false, false, false, false, false, false] (by kernel_rfl) rfl rfl ⟨(bC BK301.out 0).trans rfl, (bC BK301.out 1).trans rfl, (bC BK301.out 2).trans rfl, (bC BK301.out 3).trans rfl, (bC BK301.out 4).trans rfl, hx317_0, hx317_1, hx317_2, hx317_3, hx317_4, hx317_5, hx318_0, hx318_1, hx318_2, hx318_3, hx318_4, hx318_5⟩ (fun hHeld => ?_); refine with_tabW phaetonlaw12_RouteSame.tab10 phaetonlaw12_RouteSame.bits10 (fun HT_ HW_ => ?_)
       generalize wr.drew = w34 at HO_0 HO_8 HO_302004 BK289 BK301 HB HL317_5 HL318_5 HR317_5 HR318_5 hx317_0 hx317_1 hx317_2 hx317_3 hx317_4 hx317_5 hx318_0 hx318_1 hx318_2 hx318_3 hx318_4 hx318_5 hHeld ⊢
       refine pure_ (i := 0) (N := some 41) (v := ?_) (a' := ?_) #[true, false, false, false, false, false, false, false, false, false, false, false, false, false, false, false, false] rfl rfl (any_of HT_.out (by kernel_rfl)) (fun _ _ _ h => h) (Or.inl ⟨by rfl, ?_⟩) ?_ ?_
       rotate_left
       ·intro w'
        go_simp
        with_reducible rfl
       rotate_left
       ·simp only [Act.put, sT, sZ, sS, i64_w, i32_w]
        rfl
       refine pure_ (i := 1) (N := some 42) (v := ?_) (a' := ?_) #[true, true, false, false, false, false, false, false, false, false, false, false, false, false, false, false, false] rfl rfl (any_of HT_.out (by kernel_rfl)) (fun _ _ _ h => h) (Or.inl ⟨by rfl, ?_⟩) ?_ ?_
       rotate_left
       ·intro w'
        go_simp
        with_reducible rfl
       rotate_left
       ·simp only [Act.put, sT, sZ, sS, i64_w, i32_w]
        rfl
       refine pure_ (i := 2) (N := some 43) (v := ?_) (a' := ?_) #[true, true, true, false, false, false, false, false, false, false, false, false, false, false, false, false, false] rfl rfl (any_of HT_.out (by kernel_rfl)) (fun _ _ _ h => h) (Or.inl ⟨by rfl, ?_⟩) ?_ ?_
       rotate_left
       ·intro w'
        go_simp
        with_reducible rfl
       rotate_left
       ·simp only [Act.put, sT, sZ, sS, i64_w, i32_w]
        rfl
       refine pure_ (i := 3) (N := some 44) (v := ?_) (a' := ?_) #[true, true, true, true, false, false, false, false, false, false, false, false, false, false, false, false, false] rfl rfl (any_of HT_.out (by kernel_rfl)) (fun _ _ _ h => h) (Or.inl ⟨by rfl, ?_⟩) ?_ ?_
       rotate_left
       ·intro w'
        go_simp
        with_reducible rfl
       rotate_left
       ·simp only [Act.put, sT, sZ, sS, i64_w, i32_w]
        rfl
       refine pure_ (i := 5) (N := some 46) (v := ?_) (a' := ?_) #[true, true, true, true, false, true, false, false, false, false, false, false, false, false, false, false, false] rfl rfl (any_of HT_.out (by kernel_rfl)) (fun _ _ _ h => h) (Or.inl ⟨by rfl, ?_⟩) ?_ ?_
       rotate_left
       ·intro w'
        go_simp
        with_reducible rfl
       rotate_left
       ·simp only [Act.put, sT, sZ, sS, i64_w, i32_w]
        rfl
       refine pure_ (i := 6) (N := some 47) (v := ?_) (a' := ?_) #[true, true, true, true, false, true, true, false, false, false, false, false, false, false, false, false, false] rfl rfl (any_of HT_.out (by kernel_rfl)) (fun _ _ _ h => h) (Or.inl ⟨by rfl, ?_⟩) ?_ ?_
       rotate_left
       ·intro w'
        go_simp
        with_reducible rfl
       rotate_left
       ·simp only [Act.put, sT, sZ, sS, i64_w, i32_w]
        rfl
       refine pure_ (i := 7) (N := some 48) (v := ?_) (a' := ?_) #[true, true, true, true, false, true, true, true, false, false, false, false, false, false, false, false, false] rfl rfl (any_of HT_.out (by kernel_rfl)) (fun _ _ _ h => h) (Or.inl ⟨by rfl, ?_⟩) ?_ ?_
       rotate_left
       ·intro w'
        go_simp
        with_reducible rfl
       rotate_left
       ·simp only [Act.put, sT, sZ, sS, i64_w, i32_w]
        rfl
       refine pure_ (i := 8) (N := some 49) (v := ?_) (a' := ?_) #[true, true, true, true, false, true, true, true, true, false, false, false, false, false, false, false, false] rfl rfl (any_of HT_.out (by kernel_rfl)) (fun _ _ _ h => h) (Or.inl ⟨by rfl, ?_⟩) ?_ ?_
       rotate_left
       ·intro w'
        go_simp
        with_reducible rfl
       rotate_left
       ·simp only [Act.put, sT, sZ, sS, i64_w, i32_w]
        rfl
       refine pure_ (i := 9) (N := some 50) (v := ?_) (a' := ?_) #[true, true, true, true, false, true, true, true, true, true, false, false, false, false, false, false, false] rfl rfl (any_of HT_.out (by kernel_rfl)) (fun _ _ _ h => h) (Or.inl ⟨by rfl, ?_⟩) ?_ ?_
       rotate_left
       ·intro w'
        go_simp
        with_reducible rfl
       rotate_left
       ·simp only [Act.put, sT, sZ, sS, i64_w, i32_w]
        rfl
       refine pure_ (i := 11) (N := some 52) (v := ?_) (a' := ?_) #[true, true, true, true, false, true, true, true, true, true, false, true, false, false, false, false, false] rfl rfl (any_of HT_.out (by kernel_rfl)) (fun _ _ _ h => h) (Or.inl ⟨by rfl, ?_⟩) ?_ ?_
       rotate_left
       ·intro w'
        go_simp
        with_reducible rfl
       rotate_left
       ·simp only [Act.put, sT, sZ, sS, i64_w, i32_w]
        rfl
       refine take_ (i := 4) (N := some 45) (v := ?_) (a' := ?_) #[true, true, true, true, true, true, true, true, true, true, false, true, false, false, false, false, false] rfl rfl (take_ofW HT_.out HW_.out (by kernel_rfl)) (fun _ _ _ h => h) (Or.inl ⟨by rfl, ?_⟩) hHeld ?_ ?_
       rotate_left
       ·rintro w' ⟨s0, s1, s2, s3, s4, s5, s6, s7, s8, s9, s10, s11, s12, s13, s14, s15, s16⟩
        go_simp
        with_reducible rfl
       rotate_left
       ·simp only [Act.put, sT, sZ, sS, i64_w, i32_w]
        rfl
       refine take_ (i := 10) (N := some 51) (v := ?_) (a' := ?_) #[true, true, true, true, true, true, true, true, true, true, true, true, false, false, false, false, false] rfl rfl (take_ofW HT_.out HW_.out (by kernel_rfl)) (fun _ _ _ h => h) (Or.inl ⟨by rfl, ?_⟩) hHeld ?_ ?_
       rotate_left
       ·rintro w' ⟨s0, s1, s2, s3, s4, s5, s6, s7, s8, s9, s10, s11, s12, s13, s14, s15, s16⟩
        go_simp
        with_reducible rfl
       rotate_left
       ·simp only [Act.put, sT, sZ, sS, i64_w, i32_w]
        rfl
       refine take_ (i := 12) (N := some 53) (v := ?_) (a' := ?_) #[true, true, true, true, true, true, true, true, true, true, true, true, true, false, false, false, false] rfl rfl (take_ofW HT_.out HW_.out (by kernel_rfl)) (fun _ _ _ h => h) (Or.inl ⟨by rfl, ?_⟩) hHeld ?_ ?_
       rotate_left
       ·rintro w' ⟨s0, s1, s2, s3, s4, s5, s6, s7, s8, s9, s10, s11, s12, s13, s14, s15, s16⟩
        go_simp
        with_reducible rfl
       rotate_left
       ·simp only [Act.put, sT, sZ, sS, i64_w, i32_w]
        rfl
       refine pure_ (i := 13) (N := some 54) (v := ?_) (a' := ?_) #[true, true, true, true, true, true, true, true, true, true, true, true, true, true, false, false, false] rfl rfl (any_of HT_.out (by kernel_rfl)) (fun _ _ _ h => h) (Or.inl ⟨by rfl, ?_⟩) ?_ ?_
       rotate_left
       ·intro w'
        go_simp
        with_reducible rfl
       rotate_left
       ·simp only [Act.put, sT, sZ, sS, i64_w, i32_w]
        rfl
       refine one_ (i := 14) (N := some 10) #[true, true, true, true, true, true, true, true, true, true, true, true, true, true, true, false, false] rfl rfl (one_of HT_.out (by kernel_rfl)) (by decide) (fun K hK => ?_)
       refine box_step ?hg (N := 10) ?hd (cs := #[.bool false, .int .i64 0, .bool false, .int .i64 0, .slice none 0 0]) (t := 25) ?hr ?_; (case hd => rfl); (case hg => rfl); (case hr => first | (go_simp; done) | (go_simp; rfl))
       intro gb319 hg w35 hbox hb
       have HS5_ := (hb.cell (wl _ _ (hHeld.2.2.2.2.2.1))).trans (hHeld.2.2.2.2.2.1)
       have HS6_ := (hb.cell (wl _ _ (hHeld.2.2.2.2.2.2.1))).trans (hHeld.2.2.2.2.2.2.1)
       have HS7_ := (hb.cell (wl _ _ (hHeld.2.2.2.2.2.2.2.1))).trans (hHeld.2.2.2.2.2.2.2.1)
       have HS8_ := (hb.cell (wl _ _ (hHeld.2.2.2.2.2.2.2.2.1))).trans (hHeld.2.2.2.2.2.2.2.2.1)
       have HS9_ := (hb.cell (wl _ _ (hHeld.2.2.2.2.2.2.2.2.2.1))).trans (hHeld.2.2.2.2.2.2.2.2.2.1)
       have HS10_ := (hb.cell (wl _ _ (hHeld.2.2.2.2.2.2.2.2.2.2.1))).trans (hHeld.2.2.2.2.2.2.2.2.2.2.1)
       have HS11_ := (hb.cell (wl _ _ (hHeld.2.2.2.2.2.2.2.2.2.2.2.1))).trans (hHeld.2.2.2.2.2.2.2.2.2.2.2.1)
       have HS12_ := (hb.cell (wl _ _ (hHeld.2.2.2.2.2.2.2.2.2.2.2.2.1))).trans (hHeld.2.2.2.2.2.2.2.2.2.2.2.2.1)
       have HS13_ := (hb.cell (wl _ _ (hHeld.2.2.2.2.2.2.2.2.2.2.2.2.2.1))).trans (hHeld.2.2.2.2.2.2.2.2.2.2.2.2.2.1)
       have HS14_ := (hb.cell (wl _ _ (hHeld.2.2.2.2.2.2.2.2.2.2.2.2.2.2.1))).trans (hHeld.2.2.2.2.2.2.2.2.2.2.2.2.2.2.1)
       have HS15_ := (hb.cell (wl _ _ (hHeld.2.2.2.2.2.2.2.2.2.2.2.2.2.2.2.1))).trans (hHeld.2.2.2.2.2.2.2.2.2.2.2.2.2.2.2.1)
       have HS16_ := (hb.cell (wl _ _ (hHeld.2.2.2.2.2.2.2.2.2.2.2.2.2.2.2.2))).trans (hHeld.2.2.2.2.2.2.2.2.2.2.2.2.2.2.2.2)
       have n0_ := aM (Kd.R_below (by (with_reducible repeat (first | apply rA | apply rN | apply rW)); exact HO_0.out) hb)
       have n1_ := aM (Kd.N_below (Kd.N_elderB (by (with_reducible repeat (first | apply Kd.N_alloc | apply Kd.N_drewN | apply Kd.N_drew)); exact HO_8.out) gb319 (Nat.le_of_eq hg.symm)) hb)
       have n2_ := aM (Kd.R_below (by (with_reducible repeat (first | apply rA | apply rN | apply rW)); exact HO_302004.out) hb)
       have n3_ := aM (Kd.V_below (Kd.V_elderB (by (with_reducible repeat (first | apply Kd.V_alloc | apply Kd.V_drewN | apply Kd.V_drew)); exact HL317_5.out) gb319 (Nat.le_of_eq hg.symm)) hb)
       have n4_ := aM (Kd.V_below (Kd.V_elderB (by (with_reducible repeat (first | apply Kd.V_alloc | apply Kd.V_drewN | apply Kd.V_drew)); exact HL318_5.out) gb319 (Nat.le_of_eq hg.symm)) hb)
       have n5_ := aM (blk_below (g := gb289) (o := .cells #[.int .i64 a1_0, .bool a1_1, .int .i64 a1_2, .bool a1_3, .int .i64 a1_4, .slice A1_5 l1_5.length c1_5] 27 (0, 0)) (by (with_reducible repeat (first | refine bN ?_ _ | refine bW ?_ | refine bA ?_ _)); exact BK289.out) hb)
       have n6_ := aM (blk_below (g := gb301) (o := .cells #[.bool t294, .int .i64 t295, .bool t296, .int .i64 t297, .slice Ao18 t298.length co18] 25 (0, 0)) (by (with_reducible repeat (first | refine bN ?_ _ | refine bW ?_ | refine bA ?_ _)); exact BK301.out) hb)
       have n7_ := aM (Kd.C_below (by repeat (first | (with_reducible exact HR317_5.out) | (with_reducible refine Kd.C_alloc ?_ _) | (with_reducible refine Kd.C_drewN ?_ _) | (with_reducible refine Kd.C_drew ?_) | exact HR317_5.out)) hb)
       have n8_ := aM (Kd.C_below (by repeat (first | (with_reducible exact HR318_5.out) | (with_reducible refine Kd.C_alloc ?_ _) | (with_reducible refine Kd.C_drewN ?_ _) | (with_reducible refine Kd.C_drew ?_) | exact HR318_5.out)) hb)
       have n9_ := aM (lT (by repeat (first | (with_reducible first | exact HB.out | apply lA | apply lN | apply lW | refine lS ?_ GE289.out | refine lS ?_ GE301.out) | exact HB.out)) hb)
       have n10_ := aM (hbox)
       have n11_ := aM ((by rw [hg]; exact (lZ (by repeat (first | (with_reducible first | exact HB.out | apply lA | apply lN | apply lW | refine lS ?_ GE289.out | refine lS ?_ GE301.out) | exact HB.out))) : w.heap.size ≤ gb319))
       have n12_ := aM ((by rw [hg]; exact (lZ (by repeat (first | (with_reducible first | exact HB.out | apply lA | apply lN | apply lW | refine lS ?_ GE289.out | refine lS ?_ GE301.out) | exact HB.out))) : w.heap.size ≤ gb319))
       have n13_ := aM ((by rw [hg]; exact Nat.ne_of_lt (blk_lt (g := gb289) (o := .cells #[.int .i64 a1_0, .bool a1_1, .int .i64 a1_2, .bool a1_3, .int .i64 a1_4, .slice A1_5 l1_5.length c1_5] 27 (0, 0)) (by (with_reducible repeat (first | refine bN ?_ _ | refine bW ?_ | refine bA ?_ _)); exact BK289.out)) : gb289 ≠ gb319))
       have n14_ := aM ((by rw [hg]; exact Nat.ne_of_gt (blk_lt (g := gb289) (o := .cells #[.int .i64 a1_0, .bool a1_1, .int .i64 a1_2, .bool a1_3, .int .i64 a1_4, .slice A1_5 l1_5.length c1_5] 27 (0, 0)) (by (with_reducible repeat (first | refine bN ?_ _ | refine bW ?_ | refine bA ?_ _)); exact BK289.out)) : gb319 ≠ gb289))
       have n15_ := aM ((by rw [hg]; exact Nat.ne_of_lt (blk_lt (g := gb301) (o := .cells #[.bool t294, .int .i64 t295, .bool t296, .int .i64 t297, .slice Ao18 t298.length co18] 25 (0, 0)) (by (with_reducible repeat (first | refine bN ?_ _ | refine bW ?_ | refine bA ?_ _)); exact BK301.out)) : gb301 ≠ gb319))
       have n16_ := aM ((by rw [hg]; exact Nat.ne_of_gt (blk_lt (g := gb301) (o := .cells #[.bool t294, .int .i64 t295, .bool t296, .int .i64 t297, .slice Ao18 t298.length co18] 25 (0, 0)) (by (with_reducible repeat (first | refine bN ?_ _ | refine bW ?_ | refine bA ?_ _)); exact BK301.out)) : gb319 ≠ gb301))
       clear HO_0
       clear HO_8
       clear HO_302004
       clear HL317_5
       clear HL318_5
       clear BK289
       clear BK301
       clear HR317_5
       clear HR318_5
       clear HB
       have HO_0 := n0_
       have HO_8 := n1_
       have HO_302004 := n2_
       have HL317_5 := n3_
       have HL318_5 := n4_
       have BK289 := n5_
       have BK301 := n6_
       have HR317_5 := n7_
       have HR318_5 := n8_
       have HB := n9_
       have BK319 := n10_
       have GW319 := n11_
       have GE319 := n12_
       have NB289_319 := n13_
       have NB319_289 := n14_
       have NB301_319 := n15_
       have NB319_301 := n16_
       clear n0_ n1_ n2_ n3_ n4_ n5_ n6_ n7_ n8_ n9_ n10_ n11_ n12_ n13_ n14_ n15_ n16_
       clear hb hbox hg
       refine hK.out _ _ ⟨(bC BK301.out 0).trans rfl, (bC BK301.out 1).trans rfl, (bC BK301.out 2).trans rfl, (bC BK301.out 3).trans rfl, (bC BK301.out 4).trans rfl, HS5_, HS6_, HS7_, HS8_, HS9_, HS10_, HS11_, HS12_, HS13_, HS14_, HS15_, HS16_⟩ (fun hHeld => ?_)
       clear hK K
       refine norm_ (a' := ?_) ?_ ?_
       rotate_left
       ·show Act.put _ (some 10) _ = _
        simp only [Act.put, sT, sZ, sS, i64_w, i32_w]
        rfl
       refine one_ (i := 15) (N := none) #[true, true, true, true, true, true, true, true, true, true, true, true, true, true, true, true, false] rfl rfl (one_of HT_.out (by kernel_rfl)) (by decide) (fun K hK => ?_)
       have hs36 : w35.cell? ⟨gb319, 0, none⟩ = some (.bool false) := (bC BK319.out 0).trans rfl
       have hfs36 := bF BK319.out 0
       have hns36_0 := NB289_319.out
       have hns36_1 := NB301_319.out
       have hms36_0 := NB319_289.out
       have hms36_1 := NB319_301.out
       have hs37 : w35.cell? ⟨gb319, 1, none⟩ = some (.int .i64 0) := (bC BK319.out 1).trans rfl
       have hfs37 := bF BK319.out 1
       have hns37_0 := NB289_319.out
       have hns37_1 := NB301_319.out
       have hms37_0 := NB319_289.out
       have hms37_1 := NB319_301.out
       have hs38 : w35.cell? ⟨gb319, 2, none⟩ = some (.bool false) := (bC BK319.out 2).trans rfl
       have hfs38 := bF BK319.out 2
       have hns38_0 := NB289_319.out
       have hns38_1 := NB301_319.out
       have hms38_0 := NB319_289.out
       have hms38_1 := NB319_301.out
       have hs39 : w35.cell? ⟨gb319, 3, none⟩ = some (.int .i64 0) := (bC BK319.out 3).trans rfl
       have hfs39 := bF BK319.out 3
       have hns39_0 := NB289_319.out
       have hns39_1 := NB301_319.out
       have hms39_0 := NB319_289.out
       have hms39_1 := NB319_301.out
       have hs40 : w35.cell? ⟨gb319, 4, none⟩ = some (.slice none 0 0) := (bC BK319.out 4).trans rfl
       have hfs40 := bF BK319.out 4
       have hns40_0 := NB289_319.out
       have hns40_1 := NB301_319.out
       have hms40_0 := NB319_289.out
       have hms40_1 := NB319_301.out
       refine skip_ (w1 := ?_) (by rfl) rfl ?_ ?_
       rotate_left
       ·go_simp
        rfl
       refine hK.out _ _ ⟨((cell_far (p := ⟨gb319, _, none⟩) NB301_319.out _).trans (((cell_far (p := ⟨gb319, _, none⟩) NB301_319.out _).trans (((cell_far (p := ⟨gb319, _, none⟩) NB301_319.out _).trans (((cell_far (p := ⟨gb319, _, none⟩) NB301_319.out _).trans (((cell_far (p := ⟨gb319, _, none⟩) NB301_319.out _).trans (hHeld.1)))))))))), ((cell_far (p := ⟨gb319, _, none⟩) NB301_319.out _).trans (((cell_far (p := ⟨gb319, _, none⟩) NB301_319.out _).trans (((cell_far (p := ⟨gb319, _, none⟩) NB301_319.out _).trans (((cell_far (p := ⟨gb319, _, none⟩) NB301_319.out _).trans (((cell_far (p := ⟨gb319, _, none⟩) NB301_319.out _).trans (hHeld.2.1)))))))))), ((cell_far (p := ⟨gb319, _, none⟩) NB301_319.out _).trans (((cell_far (p := ⟨gb319, _, none⟩) NB301_319.out _).trans (((cell_far (p := ⟨gb319, _, none⟩) NB301_319.out _).trans (((cell_far (p := ⟨gb319, _, none⟩) NB301_319.out _).trans (((cell_far (p := ⟨gb319, _, none⟩) NB301_319.out _).trans (hHeld.2.2.1)))))))))), ((cell_far (p := ⟨gb319, _, none⟩) NB301_319.out _).trans (((cell_far (p := ⟨gb319, _, none⟩) NB301_319.out _).trans (((cell_far (p := ⟨gb319, _, none⟩) NB301_319.out _).trans (((cell_far (p := ⟨gb319, _, none⟩) NB301_319.out _).trans (((cell_far (p := ⟨gb319, _, none⟩) NB301_319.out _).trans (hHeld.2.2.2.1)))))))))), ((cell_far (p := ⟨gb319, _, none⟩) NB301_319.out _).trans (((cell_far (p := ⟨gb319, _, none⟩) NB301_319.out _).trans (((cell_far (p := ⟨gb319, _, none⟩) NB301_319.out _).trans (((cell_far (p := ⟨gb319, _, none⟩) NB301_319.out _).trans (((cell_far (p := ⟨gb319, _, none⟩) NB301_319.out _).trans (hHeld.2.2.2.2.1)))))))))), ((cell_far (p := ⟨gb319, _, none⟩) (by first | exact Kd.own_blk (Kd.N_away HO_8.out (fun _ hk => hk.2)) | (rw [aB]; exact Kd.own_blk (Kd.N_away HO_8.out (fun _ hk => hk.2))) | (show (Addr.add _ _).block ≠ _; rw [aB]; exact Kd.own_blk (Kd.N_away HO_8.out (fun _ hk => hk.2))) | (dsimp only; exact Kd.own_blk (Kd.N_away HO_8.out (fun _ hk => hk.2)))) _).trans (((cell_far (p := ⟨gb319, _, none⟩) (by first | exact Kd.own_blk (Kd.N_away HO_8.out (fun _ hk => hk.2)) | (rw [aB]; exact Kd.own_blk (Kd.N_away HO_8.out (fun _ hk => hk.2))) | (show (Addr.add _ _).block ≠ _; rw [aB]; exact Kd.own_blk (Kd.N_away HO_8.out (fun _ hk => hk.2))) | (dsimp only; exact Kd.own_blk (Kd.N_away HO_8.out (fun _ hk => hk.2)))) _).trans (((cell_far (p := ⟨gb319, _, none⟩) (by first | exact Kd.own_blk (Kd.N_away HO_8.out (fun _ hk => hk.2)) | (rw [aB]; exact Kd.own_blk (Kd.N_away HO_8.out (fun _ hk => hk.2))) | (show (Addr.add _ _).block ≠ _; rw [aB]; exact Kd.own_blk (Kd.N_away HO_8.out (fun _ hk => hk.2))) | (dsimp only; exact Kd.own_blk (Kd.N_away HO_8.out (fun _ hk => hk.2)))) _).trans (((cell_far (p := ⟨gb319, _, none⟩) (by first | exact Kd.own_blk (Kd.N_away HO_8.out (fun _ hk => hk.2)) | (rw [aB]; exact Kd.own_blk (Kd.N_away HO_8.out (fun _ hk => hk.2))) | (show (Addr.add _ _).block ≠ _; rw [aB]; exact Kd.own_blk (Kd.N_away HO_8.out (fun _ hk => hk.2))) | (dsimp only; exact Kd.own_blk (Kd.N_away HO_8.out (fun _ hk => hk.2)))) _).trans (((cell_far (p := ⟨gb319, _, none⟩) (by first | exact Kd.own_blk (Kd.N_away HO_8.out (fun _ hk => hk.2)) | (rw [aB]; exact Kd.own_blk (Kd.N_away HO_8.out (fun _ hk => hk.2))) | (show (Addr.add _ _).block ≠ _; rw [aB]; exact Kd.own_blk (Kd.N_away HO_8.out (fun _ hk => hk.2))) | (dsimp only; exact Kd.own_blk (Kd.N_away HO_8.out (fun _ hk => hk.2)))) _).trans (hHeld.2.2.2.2.2.1)))))))))), ((cell_far (p := ⟨gb319, _, none⟩) (by first | exact Kd.own_blk (Kd.N_away HO_8.out (fun _ hk => hk.2)) | (rw [aB]; exact Kd.own_blk (Kd.N_away HO_8.out (fun _ hk => hk.2))) | (show (Addr.add _ _).block ≠ _; rw [aB]; exact Kd.own_blk (Kd.N_away HO_8.out (fun _ hk => hk.2))) | (dsimp only; exact Kd.own_blk (Kd.N_away HO_8.out (fun _ hk => hk.2)))) _).trans (((cell_far (p := ⟨gb319, _, none⟩) (by first | exact Kd.own_blk (Kd.N_away HO_8.out (fun _ hk => hk.2)) | (rw [aB]; exact Kd.own_blk (Kd.N_away HO_8.out (fun _ hk => hk.2))) | (show (Addr.add _ _).block ≠ _; rw [aB]; exact Kd.own_blk (Kd.N_away HO_8.out (fun _ hk => hk.2))) | (dsimp only; exact Kd.own_blk (Kd.N_away HO_8.out (fun _ hk => hk.2)))) _).trans (((cell_far (p := ⟨gb319, _, none⟩) (by first | exact Kd.own_blk (Kd.N_away HO_8.out (fun _ hk => hk.2)) | (rw [aB]; exact Kd.own_blk (Kd.N_away HO_8.out (fun _ hk => hk.2))) | (show (Addr.add _ _).block ≠ _; rw [aB]; exact Kd.own_blk (Kd.N_away HO_8.out (fun _ hk => hk.2))) | (dsimp only; exact Kd.own_blk (Kd.N_away HO_8.out (fun _ hk => hk.2)))) _).trans (((cell_far (p := ⟨gb319, _, none⟩) (by first | exact Kd.own_blk (Kd.N_away HO_8.out (fun _ hk => hk.2)) | (rw [aB]; exact Kd.own_blk (Kd.N_away HO_8.out (fun _ hk => hk.2))) | (show (Addr.add _ _).block ≠ _; rw [aB]; exact Kd.own_blk (Kd.N_away HO_8.out (fun _ hk => hk.2))) | (dsimp only; exact Kd.own_blk (Kd.N_away HO_8.out (fun _ hk => hk.2)))) _).trans (((cell_far (p := ⟨gb319, _, none⟩) (by first | exact Kd.own_blk (Kd.N_away HO_8.out (fun _ hk => hk.2)) | (rw [aB]; exact Kd.own_blk (Kd.N_away HO_8.out (fun _ hk => hk.2))) | (show (Addr.add _ _).block ≠ _; rw [aB]; exact Kd.own_blk (Kd.N_away HO_8.out (fun _ hk => hk.2))) | (dsimp only; exact Kd.own_blk (Kd.N_away HO_8.out (fun _ hk => hk.2)))) _).trans (hHeld.2.2.2.2.2.2.1)))))))))), ((cell_far (p := ⟨gb319, _, none⟩) (by first | exact Kd.own_blk (Kd.N_away HO_8.out (fun _ hk => hk.2)) | (rw [aB]; exact Kd.own_blk (Kd.N_away HO_8.out (fun _ hk => hk.2))) | (show (Addr.add _ _).block ≠ _; rw [aB]; exact Kd.own_blk (Kd.N_away HO_8.out (fun _ hk => hk.2))) | (dsimp only; exact Kd.own_blk (Kd.N_away HO_8.out (fun _ hk => hk.2)))) _).trans (((cell_far (p := ⟨gb319, _, none⟩) (by first | exact Kd.own_blk (Kd.N_away HO_8.out (fun _ hk => hk.2)) | (rw [aB]; exact Kd.own_blk (Kd.N_away HO_8.out (fun _ hk => hk.2))) | (show (Addr.add _ _).block ≠ _; rw [aB]; exact Kd.own_blk (Kd.N_away HO_8.out (fun _ hk => hk.2))) | (dsimp only; exact Kd.own_blk (Kd.N_away HO_8.out (fun _ hk => hk.2)))) _).trans (((cell_far (p := ⟨gb319, _, none⟩) (by first | exact Kd.own_blk (Kd.N_away HO_8.out (fun _ hk => hk.2)) | (rw [aB]; exact Kd.own_blk (Kd.N_away HO_8.out (fun _ hk => hk.2))) | (show (Addr.add _ _).block ≠ _; rw [aB]; exact Kd.own_blk (Kd.N_away HO_8.out (fun _ hk => hk.2))) | (dsimp only; exact Kd.own_blk (Kd.N_away HO_8.out (fun _ hk => hk.2)))) _).trans (((cell_far (p := ⟨gb319, _, none⟩) (by first | exact Kd.own_blk (Kd.N_away HO_8.out (fun _ hk => hk.2)) | (rw [aB]; exact Kd.own_blk (Kd.N_away HO_8.out (fun _ hk => hk.2))) | (show (Addr.add _ _).block ≠ _; rw [aB]; exact Kd.own_blk (Kd.N_away HO_8.out (fun _ hk => hk.2))) | (dsimp only; exact Kd.own_blk (Kd.N_away HO_8.out (fun _ hk => hk.2)))) _).trans (((cell_far (p := ⟨gb319, _, none⟩) (by first | exact Kd.own_blk (Kd.N_away HO_8.out (fun _ hk => hk.2)) | (rw [aB]; exact Kd.own_blk (Kd.N_away HO_8.out (fun _ hk => hk.2))) | (show (Addr.add _ _).block ≠ _; rw [aB]; exact Kd.own_blk (Kd.N_away HO_8.out (fun _ hk => hk.2))) | (dsimp only; exact Kd.own_blk (Kd.N_away HO_8.out (fun _ hk => hk.2)))) _).trans (hHeld.2.2.2.2.2.2.2.1)))))))))), ((cell_far (p := ⟨gb319, _, none⟩) (by first | exact Kd.own_blk (Kd.N_away HO_8.out (fun _ hk => hk.2)) | (rw [aB]; exact Kd.own_blk (Kd.N_away HO_8.out (fun _ hk => hk.2))) | (show (Addr.add _ _).block ≠ _; rw [aB]; exact Kd.own_blk (Kd.N_away HO_8.out (fun _ hk => hk.2))) | (dsimp only; exact Kd.own_blk (Kd.N_away HO_8.out (fun _ hk => hk.2)))) _).trans (((cell_far (p := ⟨gb319, _, none⟩) (by first | exact Kd.own_blk (Kd.N_away HO_8.out (fun _ hk => hk.2)) | (rw [aB]; exact Kd.own_blk (Kd.N_away HO_8.out (fun _ hk => hk.2))) | (show (Addr.add _ _).block ≠ _; rw [aB]; exact Kd.own_blk (Kd.N_away HO_8.out (fun _ hk => hk.2))) | (dsimp only; exact Kd.own_blk (Kd.N_away HO_8.out (fun _ hk => hk.2)))) _).trans (((cell_far (p := ⟨gb319, _, none⟩) (by first | exact Kd.own_blk (Kd.N_away HO_8.out (fun _ hk => hk.2)) | (rw [aB]; exact Kd.own_blk (Kd.N_away HO_8.out (fun _ hk => hk.2))) | (show (Addr.add _ _).block ≠ _; rw [aB]; exact Kd.own_blk (Kd.N_away HO_8.out (fun _ hk => hk.2))) | (dsimp only; exact Kd.own_blk (Kd.N_away HO_8.out (fun _ hk => hk.2)))) _).trans (((cell_far (p := ⟨gb319, _, none⟩) (by first | exact Kd.own_blk (Kd.N_away HO_8.out (fun _ hk => hk.2)) | (rw [aB]; exact Kd.own_blk (Kd.N_away HO_8.out (fun _ hk => hk.2))) | (show (Addr.add _ _).block ≠ _; rw [aB]; exact Kd.own_blk (Kd.N_away HO_8.out (fun _ hk => hk.2))) | (dsimp only; exact Kd.own_blk (Kd.N_away HO_8.out (fun _ hk => hk.2)))) _).trans (((cell_far (p := ⟨gb319, _, none⟩) (by first | exact Kd.own_blk (Kd.N_away HO_8.out (fun _ hk => hk.2)) | (rw [aB]; exact Kd.own_blk (Kd.N_away HO_8.out (fun _ hk => hk.2))) | (show (Addr.add _ _).block ≠ _; rw [aB]; exact Kd.own_blk (Kd.N_away HO_8.out (fun _ hk => hk.2))) | (dsimp only; exact Kd.own_blk (Kd.N_away HO_8.out (fun _ hk => hk.2)))) _).trans (hHeld.2.2.2.2.2.2.2.2.1)))))))))), ((cell_far (p := ⟨gb319, _, none⟩) (by first | exact Kd.own_blk (Kd.N_away HO_8.out (fun _ hk => hk.2)) | (rw [aB]; exact Kd.own_blk (Kd.N_away HO_8.out (fun _ hk => hk.2))) | (show (Addr.add _ _).block ≠ _; rw [aB]; exact Kd.own_blk (Kd.N_away HO_8.out (fun _ hk => hk.2))) | (dsimp only; exact Kd.own_blk (Kd.N_away HO_8.out (fun _ hk => hk.2)))) _).trans (((cell_far (p := ⟨gb319, _, none⟩) (by first | exact Kd.own_blk (Kd.N_away HO_8.out (fun _ hk => hk.2)) | (rw [aB]; exact Kd.own_blk (Kd.N_away HO_8.out (fun _ hk => hk.2))) | (show (Addr.add _ _).block ≠ _; rw [aB]; exact Kd.own_blk (Kd.N_away HO_8.out (fun _ hk => hk.2))) | (dsimp only; exact Kd.own_blk (Kd.N_away HO_8.out (fun _ hk => hk.2)))) _).trans (((cell_far (p := ⟨gb319, _, none⟩) (by first | exact Kd.own_blk (Kd.N_away HO_8.out (fun _ hk => hk.2)) | (rw [aB]; exact Kd.own_blk (Kd.N_away HO_8.out (fun _ hk => hk.2))) | (show (Addr.add _ _).block ≠ _; rw [aB]; exact Kd.own_blk (Kd.N_away HO_8.out (fun _ hk => hk.2))) | (dsimp only; exact Kd.own_blk (Kd.N_away HO_8.out (fun _ hk => hk.2)))) _).trans (((cell_far (p := ⟨gb319, _, none⟩) (by first | exact Kd.own_blk (Kd.N_away HO_8.out (fun _ hk => hk.2)) | (rw [aB]; exact Kd.own_blk (Kd.N_away HO_8.out (fun _ hk => hk.2))) | (show (Addr.add _ _).block ≠ _; rw [aB]; exact Kd.own_blk (Kd.N_away HO_8.out (fun _ hk => hk.2))) | (dsimp only; exact Kd.own_blk (Kd.N_away HO_8.out (fun _ hk => hk.2)))) _).trans (((cell_far (p := ⟨gb319, _, none⟩) (by first | exact Kd.own_blk (Kd.N_away HO_8.out (fun _ hk => hk.2)) | (rw [aB]; exact Kd.own_blk (Kd.N_away HO_8.out (fun _ hk => hk.2))) | (show (Addr.add _ _).block ≠ _; rw [aB]; exact Kd.own_blk (Kd.N_away HO_8.out (fun _ hk => hk.2))) | (dsimp only; exact Kd.own_blk (Kd.N_away HO_8.out (fun _ hk => hk.2)))) _).trans (hHeld.2.2.2.2.2.2.2.2.2.1)))))))))), ((cell_far (p := ⟨gb319, _, none⟩) (by first | exact Kd.own_blk (Kd.N_away HO_8.out (fun _ hk => hk.2)) | (rw [aB]; exact Kd.own_blk (Kd.N_away HO_8.out (fun _ hk => hk.2))) | (show (Addr.add _ _).block ≠ _; rw [aB]; exact Kd.own_blk (Kd.N_away HO_8.out (fun _ hk => hk.2))) | (dsimp only; exact Kd.own_blk (Kd.N_away HO_8.out (fun _ hk => hk.2)))) _).trans (((cell_far (p := ⟨gb319, _, none⟩) (by first | exact Kd.own_blk (Kd.N_away HO_8.out (fun _ hk => hk.2)) | (rw [aB]; exact Kd.own_blk (Kd.N_away HO_8.out (fun _ hk => hk.2))) | (show (Addr.add _ _).block ≠ _; rw [aB]; exact Kd.own_blk (Kd.N_away HO_8.out (fun _ hk => hk.2))) | (dsimp only; exact Kd.own_blk (Kd.N_away HO_8.out (fun _ hk => hk.2)))) _).trans (((cell_far (p := ⟨gb319, _, none⟩) (by first | exact Kd.own_blk (Kd.N_away HO_8.out (fun _ hk => hk.2)) | (rw [aB]; exact Kd.own_blk (Kd.N_away HO_8.out (fun _ hk => hk.2))) | (show (Addr.add _ _).block ≠ _; rw [aB]; exact Kd.own_blk (Kd.N_away HO_8.out (fun _ hk => hk.2))) | (dsimp only; exact Kd.own_blk (Kd.N_away HO_8.out (fun _ hk => hk.2)))) _).trans (((cell_far (p := ⟨gb319, _, none⟩) (by first | exact Kd.own_blk (Kd.N_away HO_8.out (fun _ hk => hk.2)) | (rw [aB]; exact Kd.own_blk (Kd.N_away HO_8.out (fun _ hk => hk.2))) | (show (Addr.add _ _).block ≠ _; rw [aB]; exact Kd.own_blk (Kd.N_away HO_8.out (fun _ hk => hk.2))) | (dsimp only; exact Kd.own_blk (Kd.N_away HO_8.out (fun _ hk => hk.2)))) _).trans (((cell_far (p := ⟨gb319, _, none⟩) (by first | exact Kd.own_blk (Kd.N_away HO_8.out (fun _ hk => hk.2)) | (rw [aB]; exact Kd.own_blk (Kd.N_away HO_8.out (fun _ hk => hk.2))) | (show (Addr.add _ _).block ≠ _; rw [aB]; exact Kd.own_blk (Kd.N_away HO_8.out (fun _ hk => hk.2))) | (dsimp only; exact Kd.own_blk (Kd.N_away HO_8.out (fun _ hk => hk.2)))) _).trans (hHeld.2.2.2.2.2.2.2.2.2.2.1)))))))))), ((cell_far (p := ⟨gb319, _, none⟩) (by first | exact Kd.own_blk (Kd.N_away HO_8.out (fun _ hk => hk.2)) | (rw [aB]; exact Kd.own_blk (Kd.N_away HO_8.out (fun _ hk => hk.2))) | (show (Addr.add _ _).block ≠ _; rw [aB]; exact Kd.own_blk (Kd.N_away HO_8.out (fun _ hk => hk.2))) | (dsimp only; exact Kd.own_blk (Kd.N_away HO_8.out (fun _ hk => hk.2)))) _).trans (((cell_far (p := ⟨gb319, _, none⟩) (by first | exact Kd.own_blk (Kd.N_away HO_8.out (fun _ hk => hk.2)) | (rw [aB]; exact Kd.own_blk (Kd.N_away HO_8.out (fun _ hk => hk.2))) | (show (Addr.add _ _).block ≠ _; rw [aB]; exact Kd.own_blk (Kd.N_away HO_8.out (fun _ hk => hk.2))) | (dsimp only; exact Kd.own_blk (Kd.N_away HO_8.out (fun _ hk => hk.2)))) _).trans (((cell_far (p := ⟨gb319, _, none⟩) (by first | exact Kd.own_blk (Kd.N_away HO_8.out (fun _ hk => hk.2)) | (rw [aB]; exact Kd.own_blk (Kd.N_away HO_8.out (fun _ hk => hk.2))) | (show (Addr.add _ _).block ≠ _; rw [aB]; exact Kd.own_blk (Kd.N_away HO_8.out (fun _ hk => hk.2))) | (dsimp only; exact Kd.own_blk (Kd.N_away HO_8.out (fun _ hk => hk.2)))) _).trans (((cell_far (p := ⟨gb319, _, none⟩) (by first | exact Kd.own_blk (Kd.N_away HO_8.out (fun _ hk => hk.2)) | (rw [aB]; exact Kd.own_blk (Kd.N_away HO_8.out (fun _ hk => hk.2))) | (show (Addr.add _ _).block ≠ _; rw [aB]; exact Kd.own_blk (Kd.N_away HO_8.out (fun _ hk => hk.2))) | (dsimp only; exact Kd.own_blk (Kd.N_away HO_8.out (fun _ hk => hk.2)))) _).trans (((cell_far (p := ⟨gb319, _, none⟩) (by first | exact Kd.own_blk (Kd.N_away HO_8.out (fun _ hk => hk.2)) | (rw [aB]; exact Kd.own_blk (Kd.N_away HO_8.out (fun _ hk => hk.2))) | (show (Addr.add _ _).block ≠ _; rw [aB]; exact Kd.own_blk (Kd.N_away HO_8.out (fun _ hk => hk.2))) | (dsimp only; exact Kd.own_blk (Kd.N_away HO_8.out (fun _ hk => hk.2)))) _).trans (hHeld.2.2.2.2.2.2.2.2.2.2.2.1)))))))))), ((cell_far (p := ⟨gb319, _, none⟩) (by first | exact Kd.own_blk (Kd.N_away HO_8.out (fun _ hk => hk.2)) | (rw [aB]; exact Kd.own_blk (Kd.N_away HO_8.out (fun _ hk => hk.2))) | (show (Addr.add _ _).block ≠ _; rw [aB]; exact Kd.own_blk (Kd.N_away HO_8.out (fun _ hk => hk.2))) | (dsimp only; exact Kd.own_blk (Kd.N_away HO_8.out (fun _ hk => hk.2)))) _).trans (((cell_far (p := ⟨gb319, _, none⟩) (by first | exact Kd.own_blk (Kd.N_away HO_8.out (fun _ hk => hk.2)) | (rw [aB]; exact Kd.own_blk (Kd.N_away HO_8.out (fun _ hk => hk.2))) | (show (Addr.add _ _).block ≠ _; rw [aB]; exact Kd.own_blk (Kd.N_away HO_8.out (fun _ hk => hk.2))) | (dsimp only; exact Kd.own_blk (Kd.N_away HO_8.out (fun _ hk => hk.2)))) _).trans (((cell_far (p := ⟨gb319, _, none⟩) (by first | exact Kd.own_blk (Kd.N_away HO_8.out (fun _ hk => hk.2)) | (rw [aB]; exact Kd.own_blk (Kd.N_away HO_8.out (fun _ hk => hk.2))) | (show (Addr.add _ _).block ≠ _; rw [aB]; exact Kd.own_blk (Kd.N_away HO_8.out (fun _ hk => hk.2))) | (dsimp only; exact Kd.own_blk (Kd.N_away HO_8.out (fun _ hk => hk.2)))) _).trans (((cell_far (p := ⟨gb319, _, none⟩) (by first | exact Kd.own_blk (Kd.N_away HO_8.out (fun _ hk => hk.2)) | (rw [aB]; exact Kd.own_blk (Kd.N_away HO_8.out (fun _ hk => hk.2))) | (show (Addr.add _ _).block ≠ _; rw [aB]; exact Kd.own_blk (Kd.N_away HO_8.out (fun _ hk => hk.2))) | (dsimp only; exact Kd.own_blk (Kd.N_away HO_8.out (fun _ hk => hk.2)))) _).trans (((cell_far (p := ⟨gb319, _, none⟩) (by first | exact Kd.own_blk (Kd.N_away HO_8.out (fun _ hk => hk.2)) | (rw [aB]; exact Kd.own_blk (Kd.N_away HO_8.out (fun _ hk => hk.2))) | (show (Addr.add _ _).block ≠ _; rw [aB]; exact Kd.own_blk (Kd.N_away HO_8.out (fun _ hk => hk.2))) | (dsimp only; exact Kd.own_blk (Kd.N_away HO_8.out (fun _ hk => hk.2)))) _).trans (hHeld.2.2.2.2.2.2.2.2.2.2.2.2.1)))))))))), ((cell_far (p := ⟨gb319, _, none⟩) (by first | exact Kd.own_blk (Kd.N_away HO_8.out (fun _ hk => hk.2)) | (rw [aB]; exact Kd.own_blk (Kd.N_away HO_8.out (fun _ hk => hk.2))) | (show (Addr.add _ _).block ≠ _; rw [aB]; exact Kd.own_blk (Kd.N_away HO_8.out (fun _ hk => hk.2))) | (dsimp only; exact Kd.own_blk (Kd.N_away HO_8.out (fun _ hk => hk.2)))) _).trans (((cell_far (p := ⟨gb319, _, none⟩) (by first | exact Kd.own_blk (Kd.N_away HO_8.out (fun _ hk => hk.2)) | (rw [aB]; exact Kd.own_blk (Kd.N_away HO_8.out (fun _ hk => hk.2))) | (show (Addr.add _ _).block ≠ _; rw [aB]; exact Kd.own_blk (Kd.N_away HO_8.out (fun _ hk => hk.2))) | (dsimp only; exact Kd.own_blk (Kd.N_away HO_8.out (fun _ hk => hk.2)))) _).trans (((cell_far (p := ⟨gb319, _, none⟩) (by first | exact Kd.own_blk (Kd.N_away HO_8.out (fun _ hk => hk.2)) | (rw [aB]; exact Kd.own_blk (Kd.N_away HO_8.out (fun _ hk => hk.2))) | (show (Addr.add _ _).block ≠ _; rw [aB]; exact Kd.own_blk (Kd.N_away HO_8.out (fun _ hk => hk.2))) | (dsimp only; exact Kd.own_blk (Kd.N_away HO_8.out (fun _ hk => hk.2)))) _).trans (((cell_far (p := ⟨gb319, _, none⟩) (by first | exact Kd.own_blk (Kd.N_away HO_8.out (fun _ hk => hk.2)) | (rw [aB]; exact Kd.own_blk (Kd.N_away HO_8.out (fun _ hk => hk.2))) | (show (Addr.add _ _).block ≠ _; rw [aB]; exact Kd.own_blk (Kd.N_away HO_8.out (fun _ hk => hk.2))) | (dsimp only; exact Kd.own_blk (Kd.N_away HO_8.out (fun _ hk => hk.2)))) _).trans (((cell_far (p := ⟨gb319, _, none⟩) (by first | exact Kd.own_blk (Kd.N_away HO_8.out (fun _ hk => hk.2)) | (rw [aB]; exact Kd.own_blk (Kd.N_away HO_8.out (fun _ hk => hk.2))) | (show (Addr.add _ _).block ≠ _; rw [aB]; exact Kd.own_blk (Kd.N_away HO_8.out (fun _ hk => hk.2))) | (dsimp only; exact Kd.own_blk (Kd.N_away HO_8.out (fun _ hk => hk.2)))) _).trans (hHeld.2.2.2.2.2.2.2.2.2.2.2.2.2.1)))))))))), ((cell_far (p := ⟨gb319, _, none⟩) (by first | exact Kd.own_blk (Kd.N_away HO_8.out (fun _ hk => hk.2)) | (rw [aB]; exact Kd.own_blk (Kd.N_away HO_8.out (fun _ hk => hk.2))) | (show (Addr.add _ _).block ≠ _; rw [aB]; exact Kd.own_blk (Kd.N_away HO_8.out (fun _ hk => hk.2))) | (dsimp only; exact Kd.own_blk (Kd.N_away HO_8.out (fun _ hk => hk.2)))) _).trans (((cell_far (p := ⟨gb319, _, none⟩) (by first | exact Kd.own_blk (Kd.N_away HO_8.out (fun _ hk => hk.2)) | (rw [aB]; exact Kd.own_blk (Kd.N_away HO_8.out (fun _ hk => hk.2))) | (show (Addr.add _ _).block ≠ _; rw [aB]; exact Kd.own_blk (Kd.N_away HO_8.out (fun _ hk => hk.2))) | (dsimp only; exact Kd.own_blk (Kd.N_away HO_8.out (fun _ hk => hk.2)))) _).trans (((cell_far (p := ⟨gb319, _, none⟩) (by first | exact Kd.own_blk (Kd.N_away HO_8.out (fun _ hk => hk.2)) | (rw [aB]; exact Kd.own_blk (Kd.N_away HO_8.out (fun _ hk => hk.2))) | (show (Addr.add _ _).block ≠ _; rw [aB]; exact Kd.own_blk (Kd.N_away HO_8.out (fun _ hk => hk.2))) | (dsimp only; exact Kd.own_blk (Kd.N_away HO_8.out (fun _ hk => hk.2)))) _).trans (((cell_far (p := ⟨gb319, _, none⟩) (by first | exact Kd.own_blk (Kd.N_away HO_8.out (fun _ hk => hk.2)) | (rw [aB]; exact Kd.own_blk (Kd.N_away HO_8.out (fun _ hk => hk.2))) | (show (Addr.add _ _).block ≠ _; rw [aB]; exact Kd.own_blk (Kd.N_away HO_8.out (fun _ hk => hk.2))) | (dsimp only; exact Kd.own_blk (Kd.N_away HO_8.out (fun _ hk => hk.2)))) _).trans (((cell_far (p := ⟨gb319, _, none⟩) (by first | exact Kd.own_blk (Kd.N_away HO_8.out (fun _ hk => hk.2)) | (rw [aB]; exact Kd.own_blk (Kd.N_away HO_8.out (fun _ hk => hk.2))) | (show (Addr.add _ _).block ≠ _; rw [aB]; exact Kd.own_blk (Kd.N_away HO_8.out (fun _ hk => hk.2))) | (dsimp only; exact Kd.own_blk (Kd.N_away HO_8.out (fun _ hk => hk.2)))) _).trans (hHeld.2.2.2.2.2.2.2.2.2.2.2.2.2.2.1)))))))))), ((cell_far (p := ⟨gb319, _, none⟩) (by first | exact Kd.own_blk (Kd.N_away HO_8.out (fun _ hk => hk.2)) | (rw [aB]; exact Kd.own_blk (Kd.N_away HO_8.out (fun _ hk => hk.2))) | (show (Addr.add _ _).block ≠ _; rw [aB]; exact Kd.own_blk (Kd.N_away HO_8.out (fun _ hk => hk.2))) | (dsimp only; exact Kd.own_blk (Kd.N_away HO_8.out (fun _ hk => hk.2)))) _).trans (((cell_far (p := ⟨gb319, _, none⟩) (by first | exact Kd.own_blk (Kd.N_away HO_8.out (fun _ hk => hk.2)) | (rw [aB]; exact Kd.own_blk (Kd.N_away HO_8.out (fun _ hk => hk.2))) | (show (Addr.add _ _).block ≠ _; rw [aB]; exact Kd.own_blk (Kd.N_away HO_8.out (fun _ hk => hk.2))) | (dsimp only; exact Kd.own_blk (Kd.N_away HO_8.out (fun _ hk => hk.2)))) _).trans (((cell_far (p := ⟨gb319, _, none⟩) (by first | exact Kd.own_blk (Kd.N_away HO_8.out (fun _ hk => hk.2)) | (rw [aB]; exact Kd.own_blk (Kd.N_away HO_8.out (fun _ hk => hk.2))) | (show (Addr.add _ _).block ≠ _; rw [aB]; exact Kd.own_blk (Kd.N_away HO_8.out (fun _ hk => hk.2))) | (dsimp only; exact Kd.own_blk (Kd.N_away HO_8.out (fun _ hk => hk.2)))) _).trans (((cell_far (p := ⟨gb319, _, none⟩) (by first | exact Kd.own_blk (Kd.N_away HO_8.out (fun _ hk => hk.2)) | (rw [aB]; exact Kd.own_blk (Kd.N_away HO_8.out (fun _ hk => hk.2))) | (show (Addr.add _ _).block ≠ _; rw [aB]; exact Kd.own_blk (Kd.N_away HO_8.out (fun _ hk => hk.2))) | (dsimp only; exact Kd.own_blk (Kd.N_away HO_8.out (fun _ hk => hk.2)))) _).trans (((cell_far (p := ⟨gb319, _, none⟩) (by first | exact Kd.own_blk (Kd.N_away HO_8.out (fun _ hk => hk.2)) | (rw [aB]; exact Kd.own_blk (Kd.N_away HO_8.out (fun _ hk => hk.2))) | (show (Addr.add _ _).block ≠ _; rw [aB]; exact Kd.own_blk (Kd.N_away HO_8.out (fun _ hk => hk.2))) | (dsimp only; exact Kd.own_blk (Kd.N_away HO_8.out (fun _ hk => hk.2)))) _).trans (hHeld.2.2.2.2.2.2.2.2.2.2.2.2.2.2.2.1)))))))))), ((cell_far (p := ⟨gb319, _, none⟩) (by first | exact Kd.own_blk (Kd.N_away HO_8.out (fun _ hk => hk.2)) | (rw [aB]; exact Kd.own_blk (Kd.N_away HO_8.out (fun _ hk => hk.2))) | (show (Addr.add _ _).block ≠ _; rw [aB]; exact Kd.own_blk (Kd.N_away HO_8.out (fun _ hk => hk.2))) | (dsimp only; exact Kd.own_blk (Kd.N_away HO_8.out (fun _ hk => hk.2)))) _).trans (((cell_far (p := ⟨gb319, _, none⟩) (by first | exact Kd.own_blk (Kd.N_away HO_8.out (fun _ hk => hk.2)) | (rw [aB]; exact Kd.own_blk (Kd.N_away HO_8.out (fun _ hk => hk.2))) | (show (Addr.add _ _).block ≠ _; rw [aB]; exact Kd.own_blk (Kd.N_away HO_8.out (fun _ hk => hk.2))) | (dsimp only; exact Kd.own_blk (Kd.N_away HO_8.out (fun _ hk => hk.2)))) _).trans (((cell_far (p := ⟨gb319, _, none⟩) (by first | exact Kd.own_blk (Kd.N_away HO_8.out (fun _ hk => hk.2)) | (rw [aB]; exact Kd.own_blk (Kd.N_away HO_8.out (fun _ hk => hk.2))) | (show (Addr.add _ _).block ≠ _; rw [aB]; exact Kd.own_blk (Kd.N_away HO_8.out (fun _ hk => hk.2))) | (dsimp only; exact Kd.own_blk (Kd.N_away HO_8.out (fun _ hk => hk.2)))) _).trans (((cell_far (p := ⟨gb319, _, none⟩) (by first | exact Kd.own_blk (Kd.N_away HO_8.out (fun _ hk => hk.2)) | (rw [aB]; exact Kd.own_blk (Kd.N_away HO_8.out (fun _ hk => hk.2))) | (show (Addr.add _ _).block ≠ _; rw [aB]; exact Kd.own_blk (Kd.N_away HO_8.out (fun _ hk => hk.2))) | (dsimp only; exact Kd.own_blk (Kd.N_away HO_8.out (fun _ hk => hk.2)))) _).trans (((cell_far (p := ⟨gb319, _, none⟩) (by first | exact Kd.own_blk (Kd.N_away HO_8.out (fun _ hk => hk.2)) | (rw [aB]; exact Kd.own_blk (Kd.N_away HO_8.out (fun _ hk => hk.2))) | (show (Addr.add _ _).block ≠ _; rw [aB]; exact Kd.own_blk (Kd.N_away HO_8.out (fun _ hk => hk.2))) | (dsimp only; exact Kd.own_blk (Kd.N_away HO_8.out (fun _ hk => hk.2)))) _).trans (hHeld.2.2.2.2.2.2.2.2.2.2.2.2.2.2.2.2))))))))))⟩ (fun hHeld => ?_)
       clear hK K
       refine pure_ (i := 16) (N := some 11) (v := ?_) (a' := ?_) #[true, true, true, true, true, true, true, true, true, true, true, true, true, true, true, true, true] rfl rfl (any_of HT_.out (by kernel_rfl)) (fun _ _ _ h => h) (Or.inl ⟨by rfl, ?_⟩) ?_ ?_
       rotate_left
       ·intro w'
        go_simp
        with_reducible rfl
       rotate_left
       ·simp only [Act.put, sT, sZ, sS, i64_w, i32_w]
        rfl
       refine done_ (done_of HT_.out (by kernel_rfl)) ?_
       try go_wp2
       go_loopg [11, 12] k1 (fun kq v11 v12 w' => ∃ (x11_2 : Bool) (x12_2 : Int), v11 = .bool x11_2 ∧ v12 = .int .i64 x12_2 ∧ Aside0 (phaetonlaw12_RouteSame.l1 kq t291 t290 (Go.bits .and .i64 a1_0 3) y314 x9_1 x11_2 x12_2 t294 t295 t296 t297 t298 ((rd_T38 y314 x9_1).f1.f0) ((rd_T38 y314 x9_1).f1.f1) ((rd_T38 y314 x9_1).f1.f2) ((rd_T38 y314 x9_1).f1.f3) ((rd_T38 y314 x9_1).f1.f4) = some r) ∧ Aside0 (kq ≤ k1) ∧ Aside0 (Kd.R k45 45 w' w.heap.size (fun _ => True) (.slice Ao23 t291.length co23) t291) ∧ Aside0 (Kd.N k38 38 w' w.heap.size (fun k_ => some k_ ≠ ((.slice Ao23 t291.length co23) : Value).ownBlock ∧ k_ ≠ gb289 ∧ k_ ≠ gb301 ∧ k_ ≠ gb319) (.slice (some ad317) y314.length co33) y314) ∧ Aside0 (Kd.R (Kd.int .u8) 5 w' w.heap.size (fun _ => True) (.slice Ao18 t298.length co18) t298) ∧ Aside0 (w'.heap[gb289]? = some (.cells #[.int .i64 a1_0, .bool a1_1, .int .i64 a1_2, .bool a1_3, .int .i64 a1_4, (.slice A1_5 l1_5.length c1_5)] 27 (0, 0))) ∧ Aside0 (w'.heap[gb301]? = some (.cells #[.bool t294, .int .i64 t295, .bool t296, .int .i64 t297, (.slice Ao18 t298.length co18)] 25 (0, 0))) ∧ Aside0 (w'.heap[gb319]? = some (.cells #[.bool ((rd_T38 y314 x9_1).f1.f0), .int .i64 ((rd_T38 y314 x9_1).f1.f1), .bool ((rd_T38 y314 x9_1).f1.f2), .int .i64 ((rd_T38 y314 x9_1).f1.f3), (.slice A317_5 ((rd_T38 y314 x9_1).f1.f4).length c317_5)] 25 (0, 0))) ∧ Aside0 (Kd.C (Kd.int .u8) w' A317_5 ((rd_T38 y314 x9_1).f1.f4).length ((rd_T38 y314 x9_1).f1.f4)) ∧ Aside0 (Kd.C (Kd.int .u8) w' A317_5 ((rd_T38 y314 x9_1).f1.f4).length ((rd_T38 y314 x9_1).f1.f4)) ∧ Aside0 (Below w.heap.size w w'))
       case atStart => exact ⟨((((rd_T38 y314 x9_1).f1.f1) == t295)), (0), (by first | rfl | (simp; done) | (simp [*]; done)), (by first | rfl | (simp; done) | (simp [*]; done)), H', ⟨Nat.le_refl _⟩, ⟨by (with_reducible repeat (first | apply rA | apply rN | apply rW)); exact Kd.R_mono (Kd.R_far (p := ⟨gb319, 4, none⟩) (Kd.R_far (p := ⟨gb319, 3, none⟩) (Kd.R_far (p := ⟨gb319, 2, none⟩) (Kd.R_far (p := ⟨gb319, 1, none⟩) (Kd.R_far (p := ⟨gb319, 0, none⟩) (Kd.R_types HO_0.out BK319.out (by decide)) (fun _ hk => hk.2) (.bool ((rd_T38 y314 x9_1).f1.f0))) (fun _ hk => hk.2) (.int .i64 ((rd_T38 y314 x9_1).f1.f1))) (fun _ hk => hk.2) (.bool ((rd_T38 y314 x9_1).f1.f2))) (fun _ hk => hk.2) (.int .i64 ((rd_T38 y314 x9_1).f1.f3))) (fun _ hk => hk.2) (.slice A317_5 ((rd_T38 y314 x9_1).f1.f4).length c317_5)) (fun _ hk => trivial)⟩, ⟨by (with_reducible repeat (first | apply Kd.N_alloc | apply Kd.N_drewN | apply Kd.N_drew)); exact Kd.N_mono (Kd.N_far (p := ⟨gb319, 4, none⟩) (Kd.N_far (p := ⟨gb319, 3, none⟩) (Kd.N_far (p := ⟨gb319, 2, none⟩) (Kd.N_far (p := ⟨gb319, 1, none⟩) (Kd.N_far (p := ⟨gb319, 0, none⟩) (Kd.N_mono HO_8.out (fun k_ hk => (⟨hk, hk.2⟩ : _ ∧ k_ ≠ gb319))) (fun _ hk => hk.2) (.bool ((rd_T38 y314 x9_1).f1.f0))) (fun _ hk => hk.2) (.int .i64 ((rd_T38 y314 x9_1).f1.f1))) (fun _ hk => hk.2) (.bool ((rd_T38 y314 x9_1).f1.f2))) (fun _ hk => hk.2) (.int .i64 ((rd_T38 y314 x9_1).f1.f3))) (fun _ hk => hk.2) (.slice A317_5 ((rd_T38 y314 x9_1).f1.f4).length c317_5)) (fun _ hk => ⟨hk.1.1.1, ⟨hk.1.1.2.1, ⟨hk.1.1.2.2, hk.1.2⟩⟩⟩)⟩, ⟨by (with_reducible repeat (first | apply rA | apply rN | apply rW)); exact Kd.R_mono (Kd.R_far (p := ⟨gb319, 4, none⟩) (Kd.R_far (p := ⟨gb319, 3, none⟩) (Kd.R_far (p := ⟨gb319, 2, none⟩) (Kd.R_far (p := ⟨gb319, 1, none⟩) (Kd.R_far (p := ⟨gb319, 0, none⟩) (Kd.R_types HO_302004.out BK319.out (by decide)) (fun _ hk => hk.2) (.bool ((rd_T38 y314 x9_1).f1.f0))) (fun _ hk => hk.2) (.int .i64 ((rd_T38 y314 x9_1).f1.f1))) (fun _ hk => hk.2) (.bool ((rd_T38 y314 x9_1).f1.f2))) (fun _ hk => hk.2) (.int .i64 ((rd_T38 y314 x9_1).f1.f3))) (fun _ hk => hk.2) (.slice A317_5 ((rd_T38 y314 x9_1).f1.f4).length c317_5)) (fun _ hk => trivial)⟩, ⟨by (with_reducible repeat (first | refine bN ?_ _ | refine bW ?_ | refine bA ?_ _)); refine blk_far ?_ NB289_319.out _; (with_reducible repeat (first | refine bN ?_ _ | refine bW ?_ | refine bA ?_ _)); refine blk_far ?_ NB289_319.out _; (with_reducible repeat (first | refine bN ?_ _ | refine bW ?_ | refine bA ?_ _)); refine blk_far ?_ NB289_319.out _; (with_reducible repeat (first | refine bN ?_ _ | refine bW ?_ | refine bA ?_ _)); refine blk_far ?_ NB289_319.out _; (with_reducible repeat (first | refine bN ?_ _ | refine bW ?_ | refine bA ?_ _)); refine blk_far ?_ NB289_319.out _; (with_reducible repeat (first | refine bN ?_ _ | refine bW ?_ | refine bA ?_ _)); exact BK289.out⟩, ⟨by (with_reducible repeat (first | refine bN ?_ _ | refine bW ?_ | refine bA ?_ _)); refine blk_far ?_ NB301_319.out _; (with_reducible repeat (first | refine bN ?_ _ | refine bW ?_ | refine bA ?_ _)); refine blk_far ?_ NB301_319.out _; (with_reducible repeat (first | refine bN ?_ _ | refine bW ?_ | refine bA ?_ _)); refine blk_far ?_ NB301_319.out _; (with_reducible repeat (first | refine bN ?_ _ | refine bW ?_ | refine bA ?_ _)); refine blk_far ?_ NB301_319.out _; (with_reducible repeat (first | refine bN ?_ _ | refine bW ?_ | refine bA ?_ _)); refine blk_far ?_ NB301_319.out _; (with_reducible repeat (first | refine bN ?_ _ | refine bW ?_ | refine bA ?_ _)); exact BK301.out⟩, ⟨by (with_reducible repeat (first | refine bN ?_ _ | refine bW ?_ | refine bA ?_ _)); refine blk_put (cs := #[.bool ((rd_T38 y314 x9_1).f1.f0), .int .i64 ((rd_T38 y314 x9_1).f1.f1), .bool ((rd_T38 y314 x9_1).f1.f2), .int .i64 ((rd_T38 y314 x9_1).f1.f3), .slice none 0 0]) ?_ 4 _ rfl; (with_reducible repeat (first | refine bN ?_ _ | refine bW ?_ | refine bA ?_ _)); refine blk_put (cs := #[.bool ((rd_T38 y314 x9_1).f1.f0), .int .i64 ((rd_T38 y314 x9_1).f1.f1), .bool ((rd_T38 y314 x9_1).f1.f2), .int .i64 0, .slice none 0 0]) ?_ 3 _ rfl; (with_reducible repeat (first | refine bN ?_ _ | refine bW ?_ | refine bA ?_ _)); refine blk_put (cs := #[.bool ((rd_T38 y314 x9_1).f1.f0), .int .i64 ((rd_T38 y314 x9_1).f1.f1), .bool false, .int .i64 0, .slice none 0 0]) ?_ 2 _ rfl; (with_reducible repeat (first | refine bN ?_ _ | refine bW ?_ | refine bA ?_ _)); refine blk_put (cs := #[.bool ((rd_T38 y314 x9_1).f1.f0), .int .i64 0, .bool false, .int .i64 0, .slice none 0 0]) ?_ 1 _ rfl; (with_reducible repeat (first | refine bN ?_ _ | refine bW ?_ | refine bA ?_ _)); refine blk_put (cs := #[.bool false, .int .i64 0, .bool false, .int .i64 0, .slice none 0 0]) ?_ 0 _ rfl; (with_reducible repeat (first | refine bN ?_ _ | refine bW ?_ | refine bA ?_ _)); exact BK319.out⟩, ⟨(Kd.V_reads' (by (with_reducible repeat (first | apply Kd.V_alloc | apply Kd.V_drewN | apply Kd.V_drew)); exact (Kd.V_mono (Kd.V_far (p := ⟨gb319, 4, none⟩) (Kd.V_far (p := ⟨gb319, 3, none⟩) (Kd.V_far (p := ⟨gb319, 2, none⟩) (Kd.V_far (p := ⟨gb319, 1, none⟩) (Kd.V_far (p := ⟨gb319, 0, none⟩) (Kd.V_mono HL317_5.out (fun k_ hk => (⟨hk, hk.2⟩ : _ ∧ k_ ≠ gb319))) (fun _ hk => hk.2) (.bool ((rd_T38 y314 x9_1).f1.f0))) (fun _ hk => hk.2) (.int .i64 ((rd_T38 y314 x9_1).f1.f1))) (fun _ hk => hk.2) (.bool ((rd_T38 y314 x9_1).f1.f2))) (fun _ hk => hk.2) (.int .i64 ((rd_T38 y314 x9_1).f1.f3))) (fun _ hk => hk.2) (.slice A317_5 ((rd_T38 y314 x9_1).f1.f4).length c317_5)) (fun _ h_ => h_.1)))).2.2⟩, ⟨(Kd.V_reads' (by (with_reducible repeat (first | apply Kd.V_alloc | apply Kd.V_drewN | apply Kd.V_drew)); exact (Kd.V_mono (Kd.V_far (p := ⟨gb319, 4, none⟩) (Kd.V_far (p := ⟨gb319, 3, none⟩) (Kd.V_far (p := ⟨gb319, 2, none⟩) (Kd.V_far (p := ⟨gb319, 1, none⟩) (Kd.V_far (p := ⟨gb319, 0, none⟩) (Kd.V_mono HL318_5.out (fun k_ hk => (⟨hk, hk.2⟩ : _ ∧ k_ ≠ gb319))) (fun _ hk => hk.2) (.bool ((rd_T38 y314 x9_1).f1.f0))) (fun _ hk => hk.2) (.int .i64 ((rd_T38 y314 x9_1).f1.f1))) (fun _ hk => hk.2) (.bool ((rd_T38 y314 x9_1).f1.f2))) (fun _ hk => hk.2) (.int .i64 ((rd_T38 y314 x9_1).f1.f3))) (fun _ hk => hk.2) (.slice A317_5 ((rd_T38 y314 x9_1).f1.f4).length c317_5)) (fun _ h_ => h_.1)))).2.2⟩, ⟨by repeat (first | (with_reducible first | exact HB.out | apply lA | apply lN | apply lW | refine lS ?_ GE289.out | refine lS ?_ GE301.out | refine lS ?_ GE319.out) | exact HB.out)⟩⟩
       case round =>
        clear H'
        try clear c1
        try clear c2
        try clear p2
        try clear c3
        try clear p3
        try clear q3
        try clear hx3
        try clear c7
        try clear c9
        try clear c10
        try clear c11
        try clear c16
        try clear c18
        try clear c20
        try clear c31
        try clear c31b0
        try clear p31
        try clear q31
        try clear hx31
        try clear c32
        try clear c32b0
        try clear hcz13_0
        try clear hcz13_1
        try clear hcz13_2
        try clear hcz13_3
        try clear hcz13_4
        try clear hcz13_5
        try clear hcz17_0
        try clear hcz17_1
        try clear hcz17_2
        try clear hcz17_3
        try clear hcz17_4
        try clear hcz19_0
        try clear hcz19_1
        try clear hcz19_2
        try clear hcz19_3
        try clear hcz19_4
        try clear hcz19_5
        try clear hcz22_0
        try clear hcz22_1
        try clear hcz22_2
        try clear hcz22_3
        try clear hcz22_4
        try clear hcz27_0
        try clear hcz27_1
        try clear hcz27_2
        try clear hcz27_3
        try clear hcz27_4
        try clear hfz13_0
        try clear hfz13_1
        try clear hfz13_2
        try clear hfz13_3
        try clear hfz13_4
        try clear hfz13_5
        try clear hfz17_0
        try clear hfz17_1
        try clear hfz17_2
        try clear hfz17_3
        try clear hfz17_4
        try clear hfz19_0
        try clear hfz19_1
        try clear hfz19_2
        try clear hfz19_3
        try clear hfz19_4
        try clear hfz19_5
        try clear hfz22_0
        try clear hfz22_1
        try clear hfz22_2
        try clear hfz22_3
        try clear hfz22_4
        try clear hfz27_0
        try clear hfz27_1
        try clear hfz27_2
        try clear hfz27_3
        try clear hfz27_4
        try clear hx317_0
        try clear hx317_1
        try clear hx317_2
        try clear hx317_3
        try clear hx317_4
        try clear hx317_5
        try clear hx318_0
        try clear hx318_1
        try clear hx318_2
        try clear hx318_3
        try clear hx318_4
        try clear hx318_5
        try clear p2
        try clear p317
        try clear p318
        try clear q317
        try clear q318
        obtain ⟨x11_2, x12_2, rfl, rfl, HA, HK2, HO_0, HO_8, HO_302004, BK289, BK301, BK319, HR317_5, HR318_5, HB⟩ := hrel
        cases gk with
        | zero => exact absurd HA.out (by simp [phaetonlaw12_RouteSame.l1])
        | succ k2 =>
         have H := HA.out
         clear HA
         simp only [phaetonlaw12_RouteSame.l1] at H
         by_cases c41 : x12_2 < (t291.length : Int)
         ·rw [if_pos c41] at H
          have c41b0 : decide (x12_2 < (t291.length : Int)) = true := decide_eq_true c41
          clear c41
          by_cases c42 : x11_2 = true
          ·subst c42
           have H1 : (phaetonlaw12_RouteSame.l1 k2 t291 t290 (Go.bits .and .i64 a1_0 3) y314 x9_1 true (wrap64 (x12_2 + 1)) t294 t295 t296 t297 t298 ((rd_T38 y314 x9_1).f1.f0) ((rd_T38 y314 x9_1).f1.f1) ((rd_T38 y314 x9_1).f1.f2) ((rd_T38 y314 x9_1).f1.f3) ((rd_T38 y314 x9_1).f1.f4)) = some r := by rw [if_pos rfl] at H; exact H
           clear H
           have H := H1
           clear H1
           have H' := aM H
           clear H
           try go_wp2
           have n0_ := aM (rW HO_0.out)
           have n1_ := aM (Kd.N_drew HO_8.out)
           have n2_ := aM (rW HO_302004.out)
           have n3_ := aM (bW BK289.out)
           have n4_ := aM (bW BK301.out)
           have n5_ := aM (bW BK319.out)
           have n6_ := aM (Kd.C_drew HR317_5.out)
           have n7_ := aM (Kd.C_drew HR318_5.out)
           have n8_ := aM (lW HB.out)
           clear HO_0
           clear HO_8
           clear HO_302004
           clear BK289
           clear BK301
           clear BK319
           clear HR317_5
           clear HR318_5
           clear HB
           have HO_0 := n0_
           have HO_8 := n1_
           have HO_302004 := n2_
           have BK289 := n3_
           have BK301 := n4_
           have BK319 := n5_
           have HR317_5 := n6_
           have HR318_5 := n7_
           have HB := n8_
           clear n0_ n1_ n2_ n3_ n4_ n5_ n6_ n7_ n8_
           refine start_ (n := 12) (S := fun w' => True) (ds := []) #[false, false, false, false, false, false, false, false, false, false, false, false] (by kernel_rfl) rfl rfl trivial (fun hHeld => ?_); refine with_tabW phaetonlaw12_RouteSame.tab14 phaetonlaw12_RouteSame.bits14 (fun HT_ HW_ => ?_)
           generalize wr.drew = w43 at HO_0 HO_8 HO_302004 BK289 BK301 BK319 HR317_5 HR318_5 HB hHeld ⊢
           refine pure_ (i := 0) (N := some 61) (v := ?_) (a' := ?_) #[true, false, false, false, false, false, false, false, false, false, false, false] rfl rfl (any_of HT_.out (by kernel_rfl)) (fun _ _ _ h => h) (Or.inl ⟨by rfl, ?_⟩) ?_ ?_
           rotate_left
           ·intro w'
            go_simp
            with_reducible rfl
           rotate_left
           ·simp only [Act.put, sT, sZ, sS, i64_w, i32_w]
            rfl
           refine pure_ (i := 1) (N := some 62) (v := ?_) (a' := ?_) #[true, true, false, false, false, false, false, false, false, false, false, false] rfl rfl (any_of HT_.out (by kernel_rfl)) (fun _ _ _ h => h) (Or.inl ⟨by rfl, ?_⟩) ?_ ?_
           rotate_left
           ·intro w'
            go_simp
            with_reducible rfl
           rotate_left
           ·simp only [Act.put, sT, sZ, sS, i64_w, i32_w]
            rfl
           refine pure_ (i := 2) (N := some 63) (v := undef) (a' := ?_) #[true, true, true, false, false, false, false, false, false, false, false, false] rfl rfl (any_of HT_.out (by kernel_rfl)) (fun _ _ _ h => h) (Or.inr ⟨by rfl, rfl⟩) ?_ ?_
           rotate_left
           ·simp only [Act.put, sT, sZ, sS, i64_w, i32_w]
            rfl
           refine pure_ (i := 3) (N := some 64) (v := undef) (a' := ?_) #[true, true, true, true, false, false, false, false, false, false, false, false] rfl rfl (any_of HT_.out (by kernel_rfl)) (fun _ _ _ h => h) (Or.inr ⟨by rfl, rfl⟩) ?_ ?_
           rotate_left
           ·simp only [Act.put, sT, sZ, sS, i64_w, i32_w]
            rfl
           refine pure_ (i := 4) (N := some 65) (v := undef) (a' := ?_) #[true, true, true, true, true, false, false, false, false, false, false, false] rfl rfl (any_of HT_.out (by kernel_rfl)) (fun _ _ _ h => h) (Or.inr ⟨by rfl, rfl⟩) ?_ ?_
           rotate_left
           ·simp only [Act.put, sT, sZ, sS, i64_w, i32_w]
            rfl
           refine pure_ (i := 5) (N := some 66) (v := undef) (a' := ?_) #[true, true, true, true, true, true, false, false, false, false, false, false] rfl rfl (any_of HT_.out (by kernel_rfl)) (fun _ _ _ h => h) (Or.inr ⟨by rfl, rfl⟩) ?_ ?_
           rotate_left
           ·simp only [Act.put, sT, sZ, sS, i64_w, i32_w]
            rfl
           refine pure_ (i := 6) (N := some 67) (v := undef) (a' := ?_) #[true, true, true, true, true, true, true, false, false, false, false, false] rfl rfl (any_of HT_.out (by kernel_rfl)) (fun _ _ _ h => h) (Or.inr ⟨by rfl, rfl⟩) ?_ ?_
           rotate_left
           ·simp only [Act.put, sT, sZ, sS, i64_w, i32_w]
            rfl
           refine pure_ (i := 7) (N := some 68) (v := undef) (a' := ?_) #[true, true, true, true, true, true, true, true, false, false, false, false] rfl rfl (any_of HT_.out (by kernel_rfl)) (fun _ _ _ h => h) (Or.inr ⟨by rfl, rfl⟩) ?_ ?_
           rotate_left
           ·simp only [Act.put, sT, sZ, sS, i64_w, i32_w]
            rfl
           refine pure_ (i := 8) (N := some 69) (v := undef) (a' := ?_) #[true, true, true, true, true, true, true, true, true, false, false, false] rfl rfl (any_of HT_.out (by kernel_rfl)) (fun _ _ _ h => h) (Or.inr ⟨by rfl, rfl⟩) ?_ ?_
           rotate_left
           ·simp only [Act.put, sT, sZ, sS, i64_w, i32_w]
            rfl
           refine pure_ (i := 9) (N := some 70) (v := undef) (a' := ?_) #[true, true, true, true, true, true, true, true, true, true, false, false] rfl rfl (any_of HT_.out (by kernel_rfl)) (fun _ _ _ h => h) (Or.inr ⟨by rfl, rfl⟩) ?_ ?_
           rotate_left
           ·simp only [Act.put, sT, sZ, sS, i64_w, i32_w]
            rfl
           refine pure_ (i := 10) (N := some 71) (v := ?_) (a' := ?_) #[true, true, true, true, true, true, true, true, true, true, true, false] rfl rfl (any_of HT_.out (by kernel_rfl)) (fun _ _ _ h => h) (Or.inl ⟨by rfl, ?_⟩) ?_ ?_
           rotate_left
           ·intro w'
            go_simp
            with_reducible rfl
           rotate_left
           ·simp only [Act.put, sT, sZ, sS, i64_w, i32_w]
            rfl
           refine pure_ (i := 11) (N := some 11) (v := ?_) (a' := ?_) #[true, true, true, true, true, true, true, true, true, true, true, true] rfl rfl (any_of HT_.out (by kernel_rfl)) (fun _ _ _ h => h) (Or.inl ⟨by rfl, ?_⟩) ?_ ?_
           rotate_left
           ·intro w'
            go_simp
            with_reducible rfl
           rotate_left
           ·simp only [Act.put, sT, sZ, sS, i64_w, i32_w]
            rfl
           refine done_ (done_of HT_.out (by kernel_rfl)) ?_
           try go_wp2
           go_roundg k2
           case measure => have := HK1.out; have := HK2.out; omega
           case rel => exact ⟨(true), (wrap64 (x12_2 + 1)), (by first | rfl | (simp; done) | (simp [*]; done)), (by first | rfl | (simp; done) | (simp [*]; done)), H', ⟨by have := HK1.out; have := HK2.out; omega⟩, ⟨by (with_reducible repeat (first | apply rA | apply rN | apply rW)); exact HO_0.out⟩, ⟨by (with_reducible repeat (first | apply Kd.N_alloc | apply Kd.N_drewN | apply Kd.N_drew)); exact HO_8.out⟩, ⟨by (with_reducible repeat (first | apply rA | apply rN | apply rW)); exact HO_302004.out⟩, ⟨by (with_reducible repeat (first | refine bN ?_ _ | refine bW ?_ | refine bA ?_ _)); exact BK289.out⟩, ⟨by (with_reducible repeat (first | refine bN ?_ _ | refine bW ?_ | refine bA ?_ _)); exact BK301.out⟩, ⟨by (with_reducible repeat (first | refine bN ?_ _ | refine bW ?_ | refine bA ?_ _)); exact BK319.out⟩, ⟨by repeat (first | (with_reducible exact HR317_5.out) | (with_reducible refine Kd.C_alloc ?_ _) | (with_reducible refine Kd.C_drewN ?_ _) | (with_reducible refine Kd.C_drew ?_) | exact HR317_5.out)⟩, ⟨by repeat (first | (with_reducible exact HR318_5.out) | (with_reducible refine Kd.C_alloc ?_ _) | (with_reducible refine Kd.C_drewN ?_ _) | (with_reducible refine Kd.C_drew ?_) | exact HR318_5.out)⟩, ⟨by repeat (first | (with_reducible first | exact HB.out | apply lA | apply lN | apply lW | refine lS ?_ GE289.out | refine lS ?_ GE301.out | refine lS ?_ GE319.out) | exact HB.out)⟩⟩
          ·replace c42 := Bool.eq_false_iff.mpr c42
           subst c42
           have H1 : (if 0 ≤ x12_2 then (phaetonlaw12_RouteSame.l1 k2 t291 t290 (Go.bits .and .i64 a1_0 3) y314 x9_1 (((rd_T38 y314 x9_1).f1.f1) == ((rd_T45 t291 x12_2).f3)) (wrap64 (x12_2 + 1)) t294 t295 t296 t297 t298 ((rd_T38 y314 x9_1).f1.f0) ((rd_T38 y314 x9_1).f1.f1) ((rd_T38 y314 x9_1).f1.f2) ((rd_T38 y314 x9_1).f1.f3) ((rd_T38 y314 x9_1).f1.f4)) else (none)) = some r := by rw [if_neg (show ¬ (false = true) by decide)] at H; exact H
           clear H
           have H := H1
           clear H1
           by_cases c44 : 0 ≤ x12_2
           ·rw [if_pos c44] at H
            have c44b0 : decide (0 ≤ x12_2) = true := decide_eq_true c44
            clear c44
            have H' := aM H
            clear H
            try go_wp2
            have n0_ := aM (rW HO_0.out)
            have n1_ := aM (Kd.N_drew HO_8.out)
            have n2_ := aM (rW HO_302004.out)
            have n3_ := aM (bW BK289.out)
            have n4_ := aM (bW BK301.out)
            have n5_ := aM (bW BK319.out)
            have n6_ := aM (Kd.C_drew HR317_5.out)
            have n7_ := aM (Kd.C_drew HR318_5.out)
            have n8_ := aM (lW HB.out)
            clear HO_0
            clear HO_8
            clear HO_302004
            clear BK289
            clear BK301
            clear BK319
            clear HR317_5
            clear HR318_5
            clear HB
            have HO_0 := n0_
            have HO_8 := n1_
            have HO_302004 := n2_
            have BK289 := n3_
            have BK301 := n4_
            have BK319 := n5_
            have HR317_5 := n6_
            have HR318_5 := n7_
            have HB := n8_
            clear n0_ n1_ n2_ n3_ n4_ n5_ n6_ n7_ n8_
            have p320 : 0 ≤ (x12_2 : Int) := oD (by first | (with_reducible assumption) | assumption)
            have q320 : x12_2 < (t291.length : Int) := oD (by first | (with_reducible assumption) | assumption)
            obtain ⟨ad320, e320, hx320_0, hx320_1, hx320_2, hx320_3, hx320_4, hx320_5⟩ := at_T45 (Kd.R_reads' HO_0.out).2.2 x12_2 p320 q320
            cases e320
            replace p320 := eq_true p320
            replace q320 := eq_true q320
            refine start_ (n := 12) (S := fun w' => w'.cell? ⟨gb319, 0, none⟩ = some (.bool ((rd_T38 y314 x9_1).f1.f0)) ∧ w'.cell? ⟨gb319, 1, none⟩ = some (.int .i64 ((rd_T38 y314 x9_1).f1.f1)) ∧ w'.cell? ⟨gb319, 2, none⟩ = some (.bool ((rd_T38 y314 x9_1).f1.f2)) ∧ w'.cell? ⟨gb319, 3, none⟩ = some (.int .i64 ((rd_T38 y314 x9_1).f1.f3)) ∧ w'.cell? ⟨gb319, 4, none⟩ = some (.slice A317_5 ((rd_T38 y314 x9_1).f1.f4).length c317_5) ∧ w'.cell? (ad320.add ((x12_2).toNat * 6)) = some (.int .i64 ((rd_T45 t291 x12_2).f0)) ∧ w'.cell? ⟨(ad320.add ((x12_2).toNat * 6)).block, (ad320.add ((x12_2).toNat * 6)).off + 1, none⟩ = some (.int .i64 ((rd_T45 t291 x12_2).f1)) ∧ w'.cell? ⟨(ad320.add ((x12_2).toNat * 6)).block, (ad320.add ((x12_2).toNat * 6)).off + 2, none⟩ = some (.bool ((rd_T45 t291 x12_2).f2.f0)) ∧ w'.cell? ⟨(ad320.add ((x12_2).toNat * 6)).block, (ad320.add ((x12_2).toNat * 6)).off + 3, none⟩ = some (.int .i64 ((rd_T45 t291 x12_2).f2.f1)) ∧ w'.cell? ⟨(ad320.add ((x12_2).toNat * 6)).block, (ad320.add ((x12_2).toNat * 6)).off + 4, none⟩ = some (.int .i64 ((rd_T45 t291 x12_2).f2.f2)) ∧ w'.cell? ⟨(ad320.add ((x12_2).toNat * 6)).block, (ad320.add ((x12_2).toNat * 6)).off + 5, none⟩ = some (.int .i64 ((rd_T45 t291 x12_2).f3))) (ds := []) #[false, false, false, false, false, false, false, false, false, false, false, false] (by kernel_rfl) rfl rfl ⟨(bC BK319.out 0).trans rfl, (bC BK319.out 1).trans rfl, (bC BK319.out 2).trans rfl, (bC BK319.out 3).trans rfl, (bC BK319.out 4).trans rfl, hx320_0, hx320_1, hx320_2, hx320_3, hx320_4, hx320_5⟩ (fun hHeld => ?_); refine with_tabW phaetonlaw12_RouteSame.tab14 phaetonlaw12_RouteSame.bits14 (fun HT_ HW_ => ?_)
            generalize wr.drew = w45 at HO_0 HO_8 HO_302004 BK289 BK301 BK319 HR317_5 HR318_5 HB hx320_0 hx320_1 hx320_2 hx320_3 hx320_4 hx320_5 hHeld ⊢
            refine pure_ (i := 0) (N := some 61) (v := ?_) (a' := ?_) #[true, false, false, false, false, false, false, false, false, false, false, false] rfl rfl (any_of HT_.out (by kernel_rfl)) (fun _ _ _ h => h) (Or.inl ⟨by rfl, ?_⟩) ?_ ?_
            rotate_left
            ·intro w'
             go_simp
             with_reducible rfl
            rotate_left
            ·simp only [Act.put, sT, sZ, sS, i64_w, i32_w]
             rfl
            refine pure_ (i := 1) (N := some 62) (v := ?_) (a' := ?_) #[true, true, false, false, false, false, false, false, false, false, false, false] rfl rfl (any_of HT_.out (by kernel_rfl)) (fun _ _ _ h => h) (Or.inl ⟨by rfl, ?_⟩) ?_ ?_
            rotate_left
            ·intro w'
             go_simp
             with_reducible rfl
            rotate_left
            ·simp only [Act.put, sT, sZ, sS, i64_w, i32_w]
             rfl
            refine pure_ (i := 2) (N := some 63) (v := ?_) (a' := ?_) #[true, true, true, false, false, false, false, false, false, false, false, false] rfl rfl (any_of HT_.out (by kernel_rfl)) (fun _ _ _ h => h) (Or.inl ⟨by rfl, ?_⟩) ?_ ?_
            rotate_left
            ·intro w'
             go_simp
             with_reducible rfl
            rotate_left
            ·simp only [Act.put, sT, sZ, sS, i64_w, i32_w]
             rfl
            refine pure_ (i := 4) (N := some 65) (v := ?_) (a' := ?_) #[true, true, true, false, true, false, false, false, false, false, false, false] rfl rfl (any_of HT_.out (by kernel_rfl)) (fun _ _ _ h => h) (Or.inl ⟨by rfl, ?_⟩) ?_ ?_
            rotate_left
            ·intro w'
             go_simp
             with_reducible rfl
            rotate_left
            ·simp only [Act.put, sT, sZ, sS, i64_w, i32_w]
             rfl
            refine pure_ (i := 5) (N := some 66) (v := ?_) (a' := ?_) #[true, true, true, false, true, true, false, false, false, false, false, false] rfl rfl (any_of HT_.out (by kernel_rfl)) (fun _ _ _ h => h) (Or.inl ⟨by rfl, ?_⟩) ?_ ?_
            rotate_left
            ·intro w'
             go_simp
             with_reducible rfl
            rotate_left
            ·simp only [Act.put, sT, sZ, sS, i64_w, i32_w]
             rfl
            refine pure_ (i := 6) (N := some 67) (v := ?_) (a' := ?_) #[true, true, true, false, true, true, true, false, false, false, false, false] rfl rfl (any_of HT_.out (by kernel_rfl)) (fun _ _ _ h => h) (Or.inl ⟨by rfl, ?_⟩) ?_ ?_
            rotate_left
            ·intro w'
             go_simp
             with_reducible rfl
            rotate_left
            ·simp only [Act.put, sT, sZ, sS, i64_w, i32_w]
             rfl
            refine pure_ (i := 7) (N := some 68) (v := ?_) (a' := ?_) #[true, true, true, false, true, true, true, true, false, false, false, false] rfl rfl (any_of HT_.out (by kernel_rfl)) (fun _ _ _ h => h) (Or.inl ⟨by rfl, ?_⟩) ?_ ?_
            rotate_left
            ·intro w'
             go_simp
             with_reducible rfl
            rotate_left
            ·simp only [Act.put, sT, sZ, sS, i64_w, i32_w]
             rfl
            refine take_ (i := 3) (N := some 64) (v := ?_) (a' := ?_) #[true, true, true, true, true, true, true, true, false, false, false, false] rfl rfl (take_ofW HT_.out HW_.out (by kernel_rfl)) (fun _ _ _ h => h) (Or.inl ⟨by rfl, ?_⟩) hHeld ?_ ?_
            rotate_left
            ·rintro w' ⟨s0, s1, s2, s3, s4, s5, s6, s7, s8, s9, s10⟩
             go_simp
             with_reducible rfl
            rotate_left
            ·simp only [Act.put, sT, sZ, sS, i64_w, i32_w]
             rfl
            refine take_ (i := 8) (N := some 69) (v := ?_) (a' := ?_) #[true, true, true, true, true, true, true, true, true, false, false, false] rfl rfl (take_ofW HT_.out HW_.out (by kernel_rfl)) (fun _ _ _ h => h) (Or.inl ⟨by rfl, ?_⟩) hHeld ?_ ?_
            rotate_left
            ·rintro w' ⟨s0, s1, s2, s3, s4, s5, s6, s7, s8, s9, s10⟩
             go_simp
             with_reducible rfl
            rotate_left
            ·simp only [Act.put, sT, sZ, sS, i64_w, i32_w]
             rfl
            refine pure_ (i := 9) (N := some 70) (v := ?_) (a' := ?_) #[true, true, true, true, true, true, true, true, true, true, false, false] rfl rfl (any_of HT_.out (by kernel_rfl)) (fun _ _ _ h => h) (Or.inl ⟨by rfl, ?_⟩) ?_ ?_
            rotate_left
            ·intro w'
             go_simp
             with_reducible rfl
            rotate_left
            ·simp only [Act.put, sT, sZ, sS, i64_w, i32_w]
             rfl
            refine pure_ (i := 10) (N := some 71) (v := ?_) (a' := ?_) #[true, true, true, true, true, true, true, true, true, true, true, false] rfl rfl (any_of HT_.out (by kernel_rfl)) (fun _ _ _ h => h) (Or.inl ⟨by rfl, ?_⟩) ?_ ?_
            rotate_left
            ·intro w'
             go_simp
             with_reducible rfl
            rotate_left
            ·simp only [Act.put, sT, sZ, sS, i64_w, i32_w]
             rfl
            refine pure_ (i := 11) (N := some 11) (v := ?_) (a' := ?_) #[true, true, true, true, true, true, true, true, true, true, true, true] rfl rfl (any_of HT_.out (by kernel_rfl)) (fun _ _ _ h => h) (Or.inl ⟨by rfl, ?_⟩) ?_ ?_
            rotate_left
            ·intro w'
             go_simp
             with_reducible rfl
            rotate_left
            ·simp only [Act.put, sT, sZ, sS, i64_w, i32_w]
             rfl
            refine done_ (done_of HT_.out (by kernel_rfl)) ?_
            try go_wp2
            go_roundg k2
            case measure => have := HK1.out; have := HK2.out; omega
            case rel => exact ⟨((((rd_T38 y314 x9_1).f1.f1) == ((rd_T45 t291 x12_2).f3))), (wrap64 (x12_2 + 1)), (by first | rfl | (simp; done) | (simp [*]; done)), (by first | rfl | (simp; done) | (simp [*]; done)), H', ⟨by have := HK1.out; have := HK2.out; omega⟩, ⟨by (with_reducible repeat (first | apply rA | apply rN | apply rW)); exact HO_0.out⟩, ⟨by (with_reducible repeat (first | apply Kd.N_alloc | apply Kd.N_drewN | apply Kd.N_drew)); exact HO_8.out⟩, ⟨by (with_reducible repeat (first | apply rA | apply rN | apply rW)); exact HO_302004.out⟩, ⟨by (with_reducible repeat (first | refine bN ?_ _ | refine bW ?_ | refine bA ?_ _)); exact BK289.out⟩, ⟨by (with_reducible repeat (first | refine bN ?_ _ | refine bW ?_ | refine bA ?_ _)); exact BK301.out⟩, ⟨by (with_reducible repeat (first | refine bN ?_ _ | refine bW ?_ | refine bA ?_ _)); exact BK319.out⟩, ⟨by repeat (first | (with_reducible exact HR317_5.out) | (with_reducible refine Kd.C_alloc ?_ _) | (with_reducible refine Kd.C_drewN ?_ _) | (with_reducible refine Kd.C_drew ?_) | exact HR317_5.out)⟩, ⟨by repeat (first | (with_reducible exact HR318_5.out) | (with_reducible refine Kd.C_alloc ?_ _) | (with_reducible refine Kd.C_drewN ?_ _) | (with_reducible refine Kd.C_drew ?_) | exact HR318_5.out)⟩, ⟨by repeat (first | (with_reducible first | exact HB.out | apply lA | apply lN | apply lW | refine lS ?_ GE289.out | refine lS ?_ GE301.out | refine lS ?_ GE319.out) | exact HB.out)⟩⟩
           ·rw [if_neg c44] at H
            exact absurd H (by simp)
         ·rw [if_neg c41] at H
          have c41b0 : decide (x12_2 < (t291.length : Int)) = false := decide_eq_false c41
          clear c41
          by_cases c46 : x11_2 = true
          ·subst c46
           have H1 : ((phaetonref04_Same.f ((rd_T38 y314 x9_1).f1.f0) ((rd_T38 y314 x9_1).f1.f1) ((rd_T38 y314 x9_1).f1.f2) ((rd_T38 y314 x9_1).f1.f3) ((rd_T38 y314 x9_1).f1.f4) t294 ((rd_T38 y314 x9_1).f1.f1) t296 t297 t298).bind fun t321 => (if t321 = true then ((phaetonref04_Right.f k2 ((rd_T38 y314 x9_1).f1.f0) ((rd_T38 y314 x9_1).f1.f1) ((rd_T38 y314 x9_1).f1.f2) ((rd_T38 y314 x9_1).f1.f3) ((rd_T38 y314 x9_1).f1.f4)).bind fun t322 => (if t322 = true then (if 0 ≤ x9_1 then (if x9_1 < (y314.length : Int) then (if ((rd_T38 y314 x9_1).f0) < 0 then (none) else (if ((rd_T38 y314 x9_1).f0) > 3 then (none) else (if ((rd_T38 y314 x9_1).f0) = (Go.bits .and .i64 a1_0 3) then (none) else (phaetonlaw12_RouteSame.l0 k2 t291 t290 (Go.bits .and .i64 a1_0 3) y314 (wrap64 (x9_1 + 1)) t294 t295 t296 t297 t298)))) else (none)) else (none)) else (none))) else (none))) = some r := by rw [if_pos rfl] at H; exact H
           clear H
           have H := H1
           clear H1
           replace H := Option.bind_eq_some_iff.mp H
           obtain ⟨t321, A470, H⟩ := H
           replace H : (if t321 = true then ((phaetonref04_Right.f k2 ((rd_T38 y314 x9_1).f1.f0) ((rd_T38 y314 x9_1).f1.f1) ((rd_T38 y314 x9_1).f1.f2) ((rd_T38 y314 x9_1).f1.f3) ((rd_T38 y314 x9_1).f1.f4)).bind fun t322 => (if t322 = true then (if 0 ≤ x9_1 then (if x9_1 < (y314.length : Int) then (if ((rd_T38 y314 x9_1).f0) < 0 then (none) else (if ((rd_T38 y314 x9_1).f0) > 3 then (none) else (if ((rd_T38 y314 x9_1).f0) = (Go.bits .and .i64 a1_0 3) then (none) else (phaetonlaw12_RouteSame.l0 k2 t291 t290 (Go.bits .and .i64 a1_0 3) y314 (wrap64 (x9_1 + 1)) t294 t295 t296 t297 t298)))) else (none)) else (none)) else (none))) else (none)) = some r := H
           have A47 := aM A470
           clear A470
           by_cases c48 : t321 = true
           ·subst c48
            have H1 : ((phaetonref04_Right.f k2 ((rd_T38 y314 x9_1).f1.f0) ((rd_T38 y314 x9_1).f1.f1) ((rd_T38 y314 x9_1).f1.f2) ((rd_T38 y314 x9_1).f1.f3) ((rd_T38 y314 x9_1).f1.f4)).bind fun t322 => (if t322 = true then (if 0 ≤ x9_1 then (if x9_1 < (y314.length : Int) then (if ((rd_T38 y314 x9_1).f0) < 0 then (none) else (if ((rd_T38 y314 x9_1).f0) > 3 then (none) else (if ((rd_T38 y314 x9_1).f0) = (Go.bits .and .i64 a1_0 3) then (none) else (phaetonlaw12_RouteSame.l0 k2 t291 t290 (Go.bits .and .i64 a1_0 3) y314 (wrap64 (x9_1 + 1)) t294 t295 t296 t297 t298)))) else (none)) else (none)) else (none))) = some r := by rw [if_pos rfl] at H; exact H
            clear H
            have H := H1
            clear H1
            replace H := Option.bind_eq_some_iff.mp H
            obtain ⟨t322, A490, H⟩ := H
            replace H : (if t322 = true then (if 0 ≤ x9_1 then (if x9_1 < (y314.length : Int) then (if ((rd_T38 y314 x9_1).f0) < 0 then (none) else (if ((rd_T38 y314 x9_1).f0) > 3 then (none) else (if ((rd_T38 y314 x9_1).f0) = (Go.bits .and .i64 a1_0 3) then (none) else (phaetonlaw12_RouteSame.l0 k2 t291 t290 (Go.bits .and .i64 a1_0 3) y314 (wrap64 (x9_1 + 1)) t294 t295 t296 t297 t298)))) else (none)) else (none)) else (none)) = some r := H
            have A49 := aM A490
            clear A490
            by_cases c50 : t322 = true
            ·subst c50
             have H1 : (if 0 ≤ x9_1 then (if x9_1 < (y314.length : Int) then (if ((rd_T38 y314 x9_1).f0) < 0 then (none) else (if ((rd_T38 y314 x9_1).f0) > 3 then (none) else (if ((rd_T38 y314 x9_1).f0) = (Go.bits .and .i64 a1_0 3) then (none) else (phaetonlaw12_RouteSame.l0 k2 t291 t290 (Go.bits .and .i64 a1_0 3) y314 (wrap64 (x9_1 + 1)) t294 t295 t296 t297 t298)))) else (none)) else (none)) = some r := by rw [if_pos rfl] at H; exact H
             clear H
             have H := H1
             clear H1
             by_cases c51 : 0 ≤ x9_1
             ·rw [if_pos c51] at H
              have c51b0 : decide (0 ≤ x9_1) = true := decide_eq_true c51
              clear c51
              by_cases c52 : x9_1 < (y314.length : Int)
              ·rw [if_pos c52] at H
               have c52b0 : decide (x9_1 < (y314.length : Int)) = true := decide_eq_true c52
               clear c52
               by_cases c53 : ((rd_T38 y314 x9_1).f0) < 0
               ·rw [if_pos c53] at H
                exact absurd H (by simp)
               ·rw [if_neg c53] at H
                have c53b0 : decide (((rd_T38 y314 x9_1).f0) < 0) = false := decide_eq_false c53
                clear c53
                by_cases c54 : ((rd_T38 y314 x9_1).f0) > 3
                ·rw [if_pos c54] at H
                 exact absurd H (by simp)
                ·rw [if_neg c54] at H
                 have c54b0 : decide (3 < ((rd_T38 y314 x9_1).f0)) = false := decide_eq_false c54
                 clear c54
                 by_cases c55 : ((rd_T38 y314 x9_1).f0) = (Go.bits .and .i64 a1_0 3)
                 ·rw [if_pos c55] at H
                  exact absurd H (by simp)
                 ·rw [if_neg c55] at H
                  have c55b0 : (((rd_T38 y314 x9_1).f0) == (Go.bits .and .i64 a1_0 3)) = false := nF c55
                  have c55b1 : (((rd_T38 y314 x9_1).f0) != (Go.bits .and .i64 a1_0 3)) = true := nT c55
                  have H' := aM H
                  clear H
                  have hnb56 := NB301_289.out
                  have hnc56 := NB289_301.out
                  have hnb57 := NB301_319.out
                  have hnc57 := NB319_301.out
                  have hcz58_0 : wr.cell? ⟨gb301, 0, none⟩ = some (.bool t294) := (bC BK301.out 0).trans rfl
                  have hcz58_1 : wr.cell? ⟨gb301, 1, none⟩ = some (.int .i64 t295) := (bC BK301.out 1).trans rfl
                  have hcz58_2 : wr.cell? ⟨gb301, 2, none⟩ = some (.bool t296) := (bC BK301.out 2).trans rfl
                  have hcz58_3 : wr.cell? ⟨gb301, 3, none⟩ = some (.int .i64 t297) := (bC BK301.out 3).trans rfl
                  have hcz58_4 : wr.cell? ⟨gb301, 4, none⟩ = some (.slice Ao18 t298.length co18) := (bC BK301.out 4).trans rfl
                  have hfz58_0 := bF BK301.out 0
                  have hfz58_1 := bF BK301.out 1
                  have hfz58_2 := bF BK301.out 2
                  have hfz58_3 := bF BK301.out 3
                  have hfz58_4 := bF BK301.out 4
                  have hnb59 := NB319_289.out
                  have hnc59 := NB289_319.out
                  have hcz60_0 : wr.cell? ⟨gb319, 0, none⟩ = some (.bool ((rd_T38 y314 x9_1).f1.f0)) := (bC BK319.out 0).trans rfl
                  have hcz60_1 : wr.cell? ⟨gb319, 1, none⟩ = some (.int .i64 ((rd_T38 y314 x9_1).f1.f1)) := (bC BK319.out 1).trans rfl
                  have hcz60_2 : wr.cell? ⟨gb319, 2, none⟩ = some (.bool ((rd_T38 y314 x9_1).f1.f2)) := (bC BK319.out 2).trans rfl
                  have hcz60_3 : wr.cell? ⟨gb319, 3, none⟩ = some (.int .i64 ((rd_T38 y314 x9_1).f1.f3)) := (bC BK319.out 3).trans rfl
                  have hcz60_4 : wr.cell? ⟨gb319, 4, none⟩ = some (.slice A317_5 ((rd_T38 y314 x9_1).f1.f4).length c317_5) := (bC BK319.out 4).trans rfl
                  have hfz60_0 := bF BK319.out 0
                  have hfz60_1 := bF BK319.out 1
                  have hfz60_2 := bF BK319.out 2
                  have hfz60_3 := bF BK319.out 3
                  have hfz60_4 := bF BK319.out 4
                  have lt_BK301 := blk_lt BK301.out
                  have lt_BK319 := blk_lt BK319.out
                  have lt_BK289 := blk_lt BK289.out
                  go_wp2_with (first | (go_at_call 22; (with_reducible refine (phaetonref04_Same.calls ((rd_T38 y314 x9_1).f1.f0) ((rd_T38 y314 x9_1).f1.f1) ((rd_T38 y314 x9_1).f1.f2) ((rd_T38 y314 x9_1).f1.f3) _ _ ((rd_T38 y314 x9_1).f1.f4) t294 ((rd_T38 y314 x9_1).f1.f1) t296 t297 _ _ t298 true _ ?side1 ?side2 ?side3 ?side4 A47.out).mono ?_); (case side1 => repeat (first | (with_reducible exact HR317_5.out) | (with_reducible refine Kd.C_alloc ?_ _) | (with_reducible refine Kd.C_drewN ?_ _) | (with_reducible refine Kd.C_drew ?_))); (case side2 => exact HC317_5.out); (case side3 => repeat (first | (with_reducible exact (Kd.R_reads' HO_302004.out).2.2) | (with_reducible refine Kd.C_alloc ?_ _) | (with_reducible refine Kd.C_drewN ?_ _) | (with_reducible refine Kd.C_drew ?_))); (case side4 => exact (Kd.R_reads' HO_302004.out).2.1); rintro e w61 ⟨rfl, hb⟩; have n0_ := aM (Kd.R_below (by (with_reducible repeat (first | apply rA | apply rN | apply rW)); exact HO_0.out) hb); have n1_ := aM (Kd.N_below (by (with_reducible repeat (first | apply Kd.N_alloc | apply Kd.N_drewN | apply Kd.N_drew)); exact HO_8.out) hb); have n2_ := aM (Kd.R_below (by (with_reducible repeat (first | apply rA | apply rN | apply rW)); exact HO_302004.out) hb); have n3_ := aM (blk_below (g := gb289) (o := .cells #[.int .i64 a1_0, .bool a1_1, .int .i64 a1_2, .bool a1_3, .int .i64 a1_4, .slice A1_5 l1_5.length c1_5] 27 (0, 0)) (by (with_reducible repeat (first | refine bN ?_ _ | refine bW ?_ | refine bA ?_ _)); exact BK289.out) hb); have n4_ := aM (blk_below (g := gb301) (o := .cells #[.bool t294, .int .i64 t295, .bool t296, .int .i64 t297, .slice Ao18 t298.length co18] 25 (0, 0)) (by (with_reducible repeat (first | refine bN ?_ _ | refine bW ?_ | refine bA ?_ _)); exact BK301.out) hb); have n5_ := aM (blk_below (g := gb319) (o := .cells #[.bool ((rd_T38 y314 x9_1).f1.f0), .int .i64 ((rd_T38 y314 x9_1).f1.f1), .bool ((rd_T38 y314 x9_1).f1.f2), .int .i64 ((rd_T38 y314 x9_1).f1.f3), .slice A317_5 ((rd_T38 y314 x9_1).f1.f4).length c317_5] 25 (0, 0)) (by (with_reducible repeat (first | refine bN ?_ _ | refine bW ?_ | refine bA ?_ _)); exact BK319.out) hb); have n6_ := aM (Kd.C_below (Kd.C_alloc HR317_5.out _) hb); have n7_ := aM (Kd.C_below (Kd.C_alloc HR318_5.out _) hb); have n8_ := aM (lT (by repeat (first | (with_reducible first | exact HB.out | apply lA | apply lN | apply lW | refine lS ?_ GE289.out | refine lS ?_ GE301.out | refine lS ?_ GE319.out) | exact HB.out)) hb); clear HO_0; clear HO_8; clear HO_302004; clear BK289; clear BK301; clear BK319; clear HR317_5; clear HR318_5; clear HB; have HO_0 := n0_; have HO_8 := n1_; have HO_302004 := n2_; have BK289 := n3_; have BK301 := n4_; have BK319 := n5_; have HR317_5 := n6_; have HR318_5 := n7_; have HB := n8_; clear n0_ n1_ n2_ n3_ n4_ n5_ n6_ n7_ n8_; (try clear hb); (try clear hb2); (try clear hk); (try clear hi); have hcz62_0 : w61.cell? ⟨gb319, 0, none⟩ = some (.bool ((rd_T38 y314 x9_1).f1.f0)) := (bC BK319.out 0).trans rfl; have hcz62_1 : w61.cell? ⟨gb319, 1, none⟩ = some (.int .i64 ((rd_T38 y314 x9_1).f1.f1)) := (bC BK319.out 1).trans rfl; have hcz62_2 : w61.cell? ⟨gb319, 2, none⟩ = some (.bool ((rd_T38 y314 x9_1).f1.f2)) := (bC BK319.out 2).trans rfl; have hcz62_3 : w61.cell? ⟨gb319, 3, none⟩ = some (.int .i64 ((rd_T38 y314 x9_1).f1.f3)) := (bC BK319.out 3).trans rfl; have hcz62_4 : w61.cell? ⟨gb319, 4, none⟩ = some (.slice A317_5 ((rd_T38 y314 x9_1).f1.f4).length c317_5) := (bC BK319.out 4).trans rfl; have hfz62_0 := bF BK319.out 0; have hfz62_1 := bF BK319.out 1; have hfz62_2 := bF BK319.out 2; have hfz62_3 := bF BK319.out 3; have hfz62_4 := bF BK319.out 4) | (go_at_call 23; (with_reducible refine (phaetonref04_Right.calls k2 ((rd_T38 y314 x9_1).f1.f0) ((rd_T38 y314 x9_1).f1.f1) ((rd_T38 y314 x9_1).f1.f2) ((rd_T38 y314 x9_1).f1.f3) _ _ ((rd_T38 y314 x9_1).f1.f4) true _ ?side1 ?side2 A49.out).mono ?_); (case side1 => repeat (first | (with_reducible exact HR317_5.out) | (with_reducible refine Kd.C_alloc ?_ _) | (with_reducible refine Kd.C_drewN ?_ _) | (with_reducible refine Kd.C_drew ?_))); (case side2 => exact HC317_5.out); rintro e w63 ⟨rfl, hb⟩; have n0_ := aM (Kd.R_below (by (with_reducible repeat (first | apply rA | apply rN | apply rW)); exact HO_0.out) hb); have n1_ := aM (Kd.N_below (by (with_reducible repeat (first | apply Kd.N_alloc | apply Kd.N_drewN | apply Kd.N_drew)); exact HO_8.out) hb); have n2_ := aM (Kd.R_below (by (with_reducible repeat (first | apply rA | apply rN | apply rW)); exact HO_302004.out) hb); have n3_ := aM (blk_below (g := gb289) (o := .cells #[.int .i64 a1_0, .bool a1_1, .int .i64 a1_2, .bool a1_3, .int .i64 a1_4, .slice A1_5 l1_5.length c1_5] 27 (0, 0)) (by (with_reducible repeat (first | refine bN ?_ _ | refine bW ?_ | refine bA ?_ _)); exact BK289.out) hb); have n4_ := aM (blk_below (g := gb301) (o := .cells #[.bool t294, .int .i64 t295, .bool t296, .int .i64 t297, .slice Ao18 t298.length co18] 25 (0, 0)) (by (with_reducible repeat (first | refine bN ?_ _ | refine bW ?_ | refine bA ?_ _)); exact BK301.out) hb); have n5_ := aM (blk_below (g := gb319) (o := .cells #[.bool ((rd_T38 y314 x9_1).f1.f0), .int .i64 ((rd_T38 y314 x9_1).f1.f1), .bool ((rd_T38 y314 x9_1).f1.f2), .int .i64 ((rd_T38 y314 x9_1).f1.f3), .slice A317_5 ((rd_T38 y314 x9_1).f1.f4).length c317_5] 25 (0, 0)) (by (with_reducible repeat (first | refine bN ?_ _ | refine bW ?_ | refine bA ?_ _)); exact BK319.out) hb); have n6_ := aM (Kd.C_below HR317_5.out hb); have n7_ := aM (Kd.C_below HR318_5.out hb); have n8_ := aM (lT (by repeat (first | (with_reducible first | exact HB.out | apply lA | apply lN | apply lW | refine lS ?_ GE289.out | refine lS ?_ GE301.out | refine lS ?_ GE319.out) | exact HB.out)) hb); clear HO_0; clear HO_8; clear HO_302004; clear BK289; clear BK301; clear BK319; clear HR317_5; clear HR318_5; clear HB; have HO_0 := n0_; have HO_8 := n1_; have HO_302004 := n2_; have BK289 := n3_; have BK301 := n4_; have BK319 := n5_; have HR317_5 := n6_; have HR318_5 := n7_; have HB := n8_; clear n0_ n1_ n2_ n3_ n4_ n5_ n6_ n7_ n8_; (try clear hb); (try clear hb2); (try clear hk); (try clear hi); have p323 : 0 ≤ (x9_1 : Int) := oD (by first | (with_reducible assumption) | assumption); have q323 : x9_1 < (y314.length : Int) := oD (by first | (with_reducible assumption) | assumption); obtain ⟨ad323, A323_5, c323_5, e323, hx323_0, hx323_1, hx323_2, hx323_3, hx323_4, hx323_5, hl323_5, hi323_5⟩ := at_T38 (Kd.N_reads' HO_8.out).2.2 x9_1 p323 q323; obtain rfl : ad317 = ad323 := (by injection e323); obtain ⟨ce323, hce323, hMe323, hcc323⟩ := Kd.N_get HO_8.out z38 x9_1 p323 (by first | exact q323 | exact oD (by first | (with_reducible assumption) | assumption) | (have e_ := (Kd.N_reads' HO_8.out).1; omega)); obtain ⟨ua323_5, uc323_5, rfl, ul323_5, ge323_5⟩ := k38_openF hMe323; have hv323_5 := hcc323 5 _ rfl; rw [add_field _ _ 5 (by omega)] at hv323_5; replace hv323_5 := Option.some.inj (hv323_5.symm.trans hx323_5); injection hv323_5 with hva_ hvn_ hvc_; rw [hva_] at ge323_5; rw [hvc_] at ul323_5; have HL323_5 := aM (show Kd.V (Kd.int .u8) 5 _ w.heap.size _ _ ((rd_T38 y314 x9_1).f1.f4) from Kd.V_mk ul323_5 ge323_5); clear hva_ hvn_ hvc_ ge323_5 ul323_5; clear hcc323 hce323; have HR323_5 := aM hi323_5; have HC323_5 := aM hl323_5; clear hi323_5 hl323_5; replace p323 := eq_true p323; replace q323 := eq_true q323; have p324 : 0 ≤ (x9_1 : Int) := oD (by first | (with_reducible assumption) | assumption); have q324 : x9_1 < (y314.length : Int) := oD (by first | (with_reducible assumption) | assumption); obtain ⟨ad324, A324_5, c324_5, e324, hx324_0, hx324_1, hx324_2, hx324_3, hx324_4, hx324_5, hl324_5, hi324_5⟩ := at_T38 (Kd.N_reads' HO_8.out).2.2 x9_1 p324 q324; obtain rfl : ad317 = ad324 := (by injection e324); obtain ⟨ce324, hce324, hMe324, hcc324⟩ := Kd.N_get HO_8.out z38 x9_1 p324 (by first | exact q324 | exact oD (by first | (with_reducible assumption) | assumption) | (have e_ := (Kd.N_reads' HO_8.out).1; omega)); obtain ⟨ua324_5, uc324_5, rfl, ul324_5, ge324_5⟩ := k38_openF hMe324; have hv324_5 := hcc324 5 _ rfl; rw [add_field _ _ 5 (by omega)] at hv324_5; replace hv324_5 := Option.some.inj (hv324_5.symm.trans hx324_5); injection hv324_5 with hva_ hvn_ hvc_; rw [hva_] at ge324_5; rw [hvc_] at ul324_5; have HL324_5 := aM (show Kd.V (Kd.int .u8) 5 _ w.heap.size _ _ ((rd_T38 y314 x9_1).f1.f4) from Kd.V_mk ul324_5 ge324_5); clear hva_ hvn_ hvc_ ge324_5 ul324_5; clear hcc324 hce324; have HR324_5 := aM hi324_5; have HC324_5 := aM hl324_5; clear hi324_5 hl324_5; replace p324 := eq_true p324; replace q324 := eq_true q324; have ea_ := Option.some.inj (hx323_5.symm.trans hx324_5); injection ea_ with ea_ en_ ec_; subst ea_; subst ec_; clear en_; have p325 : 0 ≤ (x9_1 : Int) := oD (by first | (with_reducible assumption) | assumption); have q325 : x9_1 < (y314.length : Int) := oD (by first | (with_reducible assumption) | assumption); obtain ⟨ad325, A325_5, c325_5, e325, hx325_0, hx325_1, hx325_2, hx325_3, hx325_4, hx325_5, hl325_5, hi325_5⟩ := at_T38 (Kd.N_reads' HO_8.out).2.2 x9_1 p325 q325; obtain rfl : ad317 = ad325 := (by injection e325); obtain ⟨ce325, hce325, hMe325, hcc325⟩ := Kd.N_get HO_8.out z38 x9_1 p325 (by first | exact q325 | exact oD (by first | (with_reducible assumption) | assumption) | (have e_ := (Kd.N_reads' HO_8.out).1; omega)); obtain ⟨ua325_5, uc325_5, rfl, ul325_5, ge325_5⟩ := k38_openF hMe325; have hv325_5 := hcc325 5 _ rfl; rw [add_field _ _ 5 (by omega)] at hv325_5; replace hv325_5 := Option.some.inj (hv325_5.symm.trans hx325_5); injection hv325_5 with hva_ hvn_ hvc_; rw [hva_] at ge325_5; rw [hvc_] at ul325_5; have HL325_5 := aM (show Kd.V (Kd.int .u8) 5 _ w.heap.size _ _ ((rd_T38 y314 x9_1).f1.f4) from Kd.V_mk ul325_5 ge325_5); clear hva_ hvn_ hvc_ ge325_5 ul325_5; clear hcc325 hce325; have HR325_5 := aM hi325_5; have HC325_5 := aM hl325_5; clear hi325_5 hl325_5; replace p325 := eq_true p325; replace q325 := eq_true q325; have ea_ := Option.some.inj (hx323_5.symm.trans hx325_5); injection ea_ with ea_ en_ ec_; subst ea_; subst ec_; clear en_))
                  go_roundg k2
                  case measure => have := HK1.out; have := HK2.out; omega
                  case rel => exact ⟨(wrap64 (x9_1 + 1)), (by first | rfl | (simp; done) | (simp [*]; done)), H', ⟨by have := HK1.out; have := HK2.out; omega⟩, ⟨by (with_reducible repeat (first | apply rA | apply rN | apply rW)); exact HO_0.out⟩, ⟨by (with_reducible repeat (first | apply Kd.N_alloc | apply Kd.N_drewN | apply Kd.N_drew)); exact Kd.N_mono HO_8.out (fun _ hk => ⟨hk.1, ⟨hk.2.1, hk.2.2.1⟩⟩)⟩, ⟨by (with_reducible repeat (first | apply rA | apply rN | apply rW)); exact HO_302004.out⟩, ⟨by (with_reducible repeat (first | refine bN ?_ _ | refine bW ?_ | refine bA ?_ _)); exact BK289.out⟩, ⟨by (with_reducible repeat (first | refine bN ?_ _ | refine bW ?_ | refine bA ?_ _)); exact BK301.out⟩, ⟨by repeat (first | (with_reducible first | exact HB.out | apply lA | apply lN | apply lW | refine lS ?_ GE289.out | refine lS ?_ GE301.out | refine lS ?_ GE319.out) | exact HB.out)⟩⟩
              ·rw [if_neg c52] at H
               exact absurd H (by simp)
             ·rw [if_neg c51] at H
              exact absurd H (by simp)
            ·replace c50 := Bool.eq_false_iff.mpr c50
             subst c50
             have H1 : (none) = some r := by rw [if_neg (show ¬ (false = true) by decide)] at H; exact H
             clear H
             have H := H1
             clear H1
             exact absurd H (by simp)
           ·replace c48 := Bool.eq_false_iff.mpr c48
            subst c48
            have H1 : (none) = some r := by rw [if_neg (show ¬ (false = true) by decide)] at H; exact H
            clear H
            have H := H1
            clear H1
            exact absurd H (by simp)
          ·replace c46 := Bool.eq_false_iff.mpr c46
           subst c46
           have H1 : (none) = some r := by rw [if_neg (show ¬ (false = true) by decide)] at H; exact H
           clear H
           have H := H1
           clear H1
           exact absurd H (by simp)
      ·rw [if_neg c32] at H
       exact absurd H (by simp)
     ·rw [if_neg c31] at H
      have c31b0 : decide (x9_1 < (y314.length : Int)) = false := decide_eq_false c31
      clear c31
      obtain rfl := Option.some.inj H
      obtain ⟨Ao64, co64, eo64⟩ := Kd.N_slice HO_8.out
      subst eo64
      go_wp2
      go_ret
      exact ⟨by first | rfl | (simp [errW_none, errW_some] <;> rfl) | (simp [*, errW_none, errW_some] <;> rfl), by repeat (first | (with_reducible first | exact HB.out | apply lA | apply lN | apply lW | refine lS ?_ GE289.out | refine lS ?_ GE301.out) | exact HB.out)⟩
  ·rw [if_neg c9] at H
   exact absurd H (by simp)
 ·rw [if_neg c7] at H
  exact absurd H (by simp)

end Go.Proofs.Ytpcabeefahldlaa.P

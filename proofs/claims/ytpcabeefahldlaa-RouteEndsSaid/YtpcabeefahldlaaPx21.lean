/- Go functions that the laws of this seat reach, each as a Lean function, and a proof that a call of the Go code comes to its answers; written by a program (the kit's print, turned in a few places). Conditions: each theorem's own premises. -/
import Derived.Test.YtpcabeefahldlaaPx0
import Derived.Test.YtpcabeefahldlaaPx7
import Derived.Test.YtpcabeefahldlaaPx9
import Derived.Test.YtpcabeefahldlaaPx10
import Derived.Test.YtpcabeefahldlaaPx16
import Derived.Test.YtpcabeefahldlaaGLoop
import Derived.Test.YtpcabeefahldlaaGMade
namespace Go.Proofs.Ytpcabeefahldlaa.P
open Go.RowKit Go.Proofs.YtpcabeefahldlaaW.PrintWords Go.Proofs.YtpcabeefahldlaaW.PrintLast Go.Proofs.YtpcabeefahldlaaW.PrintMore
attribute [local go_sem] max2_int min2_int max_two min_two max_three min_three max_four min_four   -- for this text's walks alone
set_option linter.unusedVariables false
set_option linter.unusedSimpArgs false

/-! ### phaetonlaw12_RouteEnds: function 4 -/
mutual
def phaetonlaw12_RouteEnds.l0 : Nat → List (S45) → Bool → Int → List (S38) → List (S38) → Int → Int → Option (Bool)
  | 0, _, _, _, _, _, _, _ => none
  | k + 1, x0, x5, x7, x8, x9, x10, x11 => if x11 < 3 then (phaetonlaw12_RouteEnds.j1 k x0 x5 x7 x8 x9 x10 x11 (decide ((x9.length : Int) < 2000))) else (phaetonlaw12_RouteEnds.j1 k x0 x5 x7 x8 x9 x10 x11 false)
def phaetonlaw12_RouteEnds.j1 : Nat → List (S45) → Bool → Int → List (S38) → List (S38) → Int → Int → Bool → Option (Bool)
  | 0, _, _, _, _, _, _, _, _ => none
  | k + 1, x0, x5, x7, x8, x9, x10, x11, x49 => if x49 = true then (phaetonlaw12_RouteEnds.l1 k x0 x5 x7 x8 x9 (wrap64 (x10 + (x9.length : Int))) x11 (([] : List (S38))) 0) else (if (x9.length : Int) = 0 then (if x10 = (x8.length : Int) then (some x5) else (none)) else (none))
def phaetonlaw12_RouteEnds.l1 : Nat → List (S45) → Bool → Int → List (S38) → List (S38) → Int → Int → List (S38) → Int → Option (Bool)
  | 0, _, _, _, _, _, _, _, _, _ => none
  | k + 1, x0, x5, x7, x8, x9, x10, x11, x12, x13 => if x13 < (x9.length : Int) then (if 0 ≤ x13 then (if ((rd_T38 x9 x13).f0) = x7 then (none) else ((route_Hops.f k x0 ((rd_T38 x9 x13).f0) ((rd_T38 x9 x13).f1.f0) ((rd_T38 x9 x13).f1.f1) ((rd_T38 x9 x13).f1.f2) ((rd_T38 x9 x13).f1.f3) ((rd_T38 x9 x13).f1.f4)).bind fun t333 => (if x12.length + t333.length < 2199023255552 then (phaetonlaw12_RouteEnds.l1 k x0 x5 x7 x8 x9 x10 x11 (x12 ++ t333) (wrap64 (x13 + 1))) else (none)))) else (none)) else (phaetonlaw12_RouteEnds.l0 k x0 x5 x7 x8 x12 x10 (wrap64 (x11 + 1)))
end
def phaetonlaw12_RouteEnds.f (k : Nat) (l0 : List (S45)) (a1_0 : Int) (a1_1 : Bool) (a1_2 : Int) (a1_3 : Bool) (a1_4 : Int) (l1_5 : List Int) : Option (Bool) := (phaetonlaw12_head.f k).bind fun t305 => ((phaetonlaw12_Cut.f k l0 10).bind fun t306 => ((phaetonref06_Made.f a1_1 a1_2 a1_3 a1_4 l1_5).bind fun bt309 => ((route_Loopless.f k t306 4).bind fun t317 => (if t317 = true then ((route_Reach.f k t306 4 (Go.bits .and .i64 a1_0 3) bt309.1 bt309.2.1 bt309.2.2.1 bt309.2.2.2.1 bt309.2.2.2.2).bind fun t321 => ((route_Hops.f k t306 (Go.bits .and .i64 a1_0 3) bt309.1 bt309.2.1 bt309.2.2.1 bt309.2.2.2.1 bt309.2.2.2.2).bind fun t324 => (phaetonlaw12_RouteEnds.l0 k t306 t305 (Go.bits .and .i64 a1_0 3) t321 t324 0 0))) else ((route_Reach.f k t306 4 (Go.bits .and .i64 a1_0 3) bt309.1 bt309.2.1 bt309.2.2.1 bt309.2.2.2.1 bt309.2.2.2.2).bind fun t318 => (if (t318.length : Int) = 0 then (some t305) else (none)))))))
theorem phaetonlaw12_RouteEnds.mono_l : ∀ k, (∀ y0 y1 y2 y3 y4 y5 y6, LeO (phaetonlaw12_RouteEnds.l0 k y0 y1 y2 y3 y4 y5 y6) (phaetonlaw12_RouteEnds.l0 (k + 1) y0 y1 y2 y3 y4 y5 y6)) ∧ (∀ y0 y1 y2 y3 y4 y5 y6 y7, LeO (phaetonlaw12_RouteEnds.j1 k y0 y1 y2 y3 y4 y5 y6 y7) (phaetonlaw12_RouteEnds.j1 (k + 1) y0 y1 y2 y3 y4 y5 y6 y7)) ∧ (∀ y0 y1 y2 y3 y4 y5 y6 y7 y8, LeO (phaetonlaw12_RouteEnds.l1 k y0 y1 y2 y3 y4 y5 y6 y7 y8) (phaetonlaw12_RouteEnds.l1 (k + 1) y0 y1 y2 y3 y4 y5 y6 y7 y8))
  | 0 => ⟨fun _ _ _ _ _ _ _ r h => by simp [phaetonlaw12_RouteEnds.l0] at h, fun _ _ _ _ _ _ _ _ r h => by simp [phaetonlaw12_RouteEnds.j1] at h, fun _ _ _ _ _ _ _ _ _ r h => by simp [phaetonlaw12_RouteEnds.l1] at h⟩
  | k + 1 => by
    obtain ⟨ih0, ih1, ih2⟩ := phaetonlaw12_RouteEnds.mono_l k
    refine ⟨?_, ?_, ?_⟩
    · intro y0 y1 y2 y3 y4 y5 y6
      unfold phaetonlaw12_RouteEnds.l0
      repeat' first
      | (with_reducible exact ih0 _ _ _ _ _ _ _)
      | (with_reducible exact ih1 _ _ _ _ _ _ _ _)
      | (with_reducible exact ih2 _ _ _ _ _ _ _ _ _)
      | (with_reducible exact phaetonlaw12_Cut.mono _ _ _)
      | (with_reducible exact phaetonlaw12_head.mono _)
      | (with_reducible exact route_Hops.mono _ _ _ _ _ _ _ _)
      | (with_reducible exact route_Loopless.mono _ _ _)
      | (with_reducible exact route_Reach.mono _ _ _ _ _ _ _ _ _)
      | (with_reducible exact LeO.refl _)
      | (with_reducible exact LeO.none _)
      | (with_reducible refine LeO.ite ?_ ?_)
      | (with_reducible refine LeO.bind ?_ (fun _ => ?_))
      | exact ih0 _ _ _ _ _ _ _
      | exact ih1 _ _ _ _ _ _ _ _
      | exact ih2 _ _ _ _ _ _ _ _ _
      | exact phaetonlaw12_Cut.mono _ _ _
      | exact phaetonlaw12_head.mono _
      | exact route_Hops.mono _ _ _ _ _ _ _ _
      | exact route_Loopless.mono _ _ _
      | exact route_Reach.mono _ _ _ _ _ _ _ _ _
      | exact LeO.none _
      | refine LeO.ite ?_ ?_
      | refine LeO.bind ?_ (fun _ => ?_)
    · intro y0 y1 y2 y3 y4 y5 y6 y7
      unfold phaetonlaw12_RouteEnds.j1
      repeat' first
      | (with_reducible exact ih0 _ _ _ _ _ _ _)
      | (with_reducible exact ih1 _ _ _ _ _ _ _ _)
      | (with_reducible exact ih2 _ _ _ _ _ _ _ _ _)
      | (with_reducible exact phaetonlaw12_Cut.mono _ _ _)
      | (with_reducible exact phaetonlaw12_head.mono _)
      | (with_reducible exact route_Hops.mono _ _ _ _ _ _ _ _)
      | (with_reducible exact route_Loopless.mono _ _ _)
      | (with_reducible exact route_Reach.mono _ _ _ _ _ _ _ _ _)
      | (with_reducible exact LeO.refl _)
      | (with_reducible exact LeO.none _)
      | (with_reducible refine LeO.ite ?_ ?_)
      | (with_reducible refine LeO.bind ?_ (fun _ => ?_))
      | exact ih0 _ _ _ _ _ _ _
      | exact ih1 _ _ _ _ _ _ _ _
      | exact ih2 _ _ _ _ _ _ _ _ _
      | exact phaetonlaw12_Cut.mono _ _ _
      | exact phaetonlaw12_head.mono _
      | exact route_Hops.mono _ _ _ _ _ _ _ _
      | exact route_Loopless.mono _ _ _
      | exact route_Reach.mono _ _ _ _ _ _ _ _ _
      | exact LeO.none _
      | refine LeO.ite ?_ ?_
      | refine LeO.bind ?_ (fun _ => ?_)
    · intro y0 y1 y2 y3 y4 y5 y6 y7 y8
      unfold phaetonlaw12_RouteEnds.l1
      repeat' first
      | (with_reducible exact ih0 _ _ _ _ _ _ _)
      | (with_reducible exact ih1 _ _ _ _ _ _ _ _)
      | (with_reducible exact ih2 _ _ _ _ _ _ _ _ _)
      | (with_reducible exact phaetonlaw12_Cut.mono _ _ _)
      | (with_reducible exact phaetonlaw12_head.mono _)
      | (with_reducible exact route_Hops.mono _ _ _ _ _ _ _ _)
      | (with_reducible exact route_Loopless.mono _ _ _)
      | (with_reducible exact route_Reach.mono _ _ _ _ _ _ _ _ _)
      | (with_reducible exact LeO.refl _)
      | (with_reducible exact LeO.none _)
      | (with_reducible refine LeO.ite ?_ ?_)
      | (with_reducible refine LeO.bind ?_ (fun _ => ?_))
      | exact ih0 _ _ _ _ _ _ _
      | exact ih1 _ _ _ _ _ _ _ _
      | exact ih2 _ _ _ _ _ _ _ _ _
      | exact phaetonlaw12_Cut.mono _ _ _
      | exact phaetonlaw12_head.mono _
      | exact route_Hops.mono _ _ _ _ _ _ _ _
      | exact route_Loopless.mono _ _ _
      | exact route_Reach.mono _ _ _ _ _ _ _ _ _
      | exact LeO.none _
      | refine LeO.ite ?_ ?_
      | refine LeO.bind ?_ (fun _ => ?_)
theorem phaetonlaw12_RouteEnds.mono : ∀ a0 a1 a2 a3 a4 a5 a6 k, LeO (phaetonlaw12_RouteEnds.f k a0 a1 a2 a3 a4 a5 a6) (phaetonlaw12_RouteEnds.f (k + 1) a0 a1 a2 a3 a4 a5 a6) := by
  intro a0 a1 a2 a3 a4 a5 a6 k
  obtain ⟨ih0, ih1, ih2⟩ := phaetonlaw12_RouteEnds.mono_l k
  unfold phaetonlaw12_RouteEnds.f
  repeat' first
      | (with_reducible exact ih0 _ _ _ _ _ _ _)
      | (with_reducible exact ih1 _ _ _ _ _ _ _ _)
      | (with_reducible exact ih2 _ _ _ _ _ _ _ _ _)
      | (with_reducible exact phaetonlaw12_Cut.mono _ _ _)
      | (with_reducible exact phaetonlaw12_head.mono _)
      | (with_reducible exact route_Hops.mono _ _ _ _ _ _ _ _)
      | (with_reducible exact route_Loopless.mono _ _ _)
      | (with_reducible exact route_Reach.mono _ _ _ _ _ _ _ _ _)
      | (with_reducible exact LeO.refl _)
      | (with_reducible exact LeO.none _)
      | (with_reducible refine LeO.ite ?_ ?_)
      | (with_reducible refine LeO.bind ?_ (fun _ => ?_))
      | exact ih0 _ _ _ _ _ _ _
      | exact ih1 _ _ _ _ _ _ _ _
      | exact ih2 _ _ _ _ _ _ _ _ _
      | exact phaetonlaw12_Cut.mono _ _ _
      | exact phaetonlaw12_head.mono _
      | exact route_Hops.mono _ _ _ _ _ _ _ _
      | exact route_Loopless.mono _ _ _
      | exact route_Reach.mono _ _ _ _ _ _ _ _ _
      | exact LeO.none _
      | refine LeO.ite ?_ ?_
      | refine LeO.bind ?_ (fun _ => ?_)
def phaetonlaw12_RouteEnds.T7 : Bool × List (List Nat × List Nat) := (true, [([], []), ([], []), ([], []), ([0, 1, 2], [0, 1, 2]), ([], []), ([], []), ([], []), ([4, 5, 6, 3], [4, 5, 6]), ([3, 7, 0, 1, 2, 3], [3]), ([7, 8, 0, 1, 2, 3, 4, 5, 6, 7, 8], [7]), ([9, 0, 1, 2, 3, 4, 5, 6, 7, 8, 9], [])])
def phaetonlaw12_RouteEnds.B7 : List Nat := [0, 0, 0, 7, 0, 0, 0, 127, 255, 511, 1023]
theorem phaetonlaw12_RouteEnds.tab7 : rtab .any (opsOf Try.f4 7) = phaetonlaw12_RouteEnds.T7 := by kernel_rfl
theorem phaetonlaw12_RouteEnds.bits7 : waitsOk phaetonlaw12_RouteEnds.T7.2 phaetonlaw12_RouteEnds.B7 = true := by kernel_rfl
def phaetonlaw12_RouteEnds.T18 : Bool × List (List Nat × List Nat) := (true, [([], []), ([], []), ([], []), ([], []), ([2, 3], [2, 3]), ([4], [4]), ([5], [5]), ([], []), ([], []), ([7, 8], [7, 8]), ([9], [9]), ([10], [10]), ([1, 6, 11], [1, 6, 11]), ([0, 12, 12], [0, 12]), ([13, 13, 0, 1, 2, 3, 4, 5, 6, 7, 8, 9, 10, 11, 12, 13], [0, 13])])
def phaetonlaw12_RouteEnds.B18 : List Nat := [0, 0, 0, 0, 12, 28, 60, 0, 0, 384, 896, 1920, 4094, 8191, 16383]
theorem phaetonlaw12_RouteEnds.tab18 : rtab .any (opsOf Try.f4 18) = phaetonlaw12_RouteEnds.T18 := by kernel_rfl
theorem phaetonlaw12_RouteEnds.bits18 : waitsOk phaetonlaw12_RouteEnds.T18.2 phaetonlaw12_RouteEnds.B18 = true := by kernel_rfl
set_option maxHeartbeats 8000000 in
set_option maxRecDepth 100000 in
theorem phaetonlaw12_RouteEnds.calls (k : Nat) (A0 : Option Addr) (c0 : Nat) (l0 : List (S45)) (a1_0 : Int) (a1_1 : Bool) (a1_2 : Int) (a1_3 : Bool) (a1_4 : Int) (A1_5 : Option Addr) (c1_5 : Nat) (l1_5 : List Int) (r : Bool) (w : World) (hr0 : Kd.C k45 w A0 l0.length l0) (hc0 : l0.length ≤ c0) (hr1_5 : Kd.C (Kd.int .u8) w A1_5 l1_5.length l1_5) (hc1_5 : l1_5.length ≤ c1_5) (h : phaetonlaw12_RouteEnds.f k l0 a1_0 a1_1 a1_2 a1_3 a1_4 l1_5 = some r) :
    Calls Try.prog 4 #[.slice A0 l0.length c0, .agg #[.int .i64 a1_0, .bool a1_1, .int .i64 a1_2, .bool a1_3, .int .i64 a1_4, .slice A1_5 l1_5.length c1_5]] w fun e w' => e = .returned (.bool r) ∧ Below w.heap.size w w' := by
  have hu27 := Try.underlying27
  have hu25 := Try.underlying25
  have HR0 := Aside0.mk hr0
  have HC0 := Aside0.mk hc0
  clear hr0 hc0
  have HR1_5 := Aside0.mk hr1_5
  have HC1_5 := Aside0.mk hc1_5
  clear hr1_5 hc1_5
  have HB := Aside0.mk (Below.refl w.heap.size w)
  have H : ((phaetonlaw12_head.f k).bind fun t305 => ((phaetonlaw12_Cut.f k l0 10).bind fun t306 => ((phaetonref06_Made.f a1_1 a1_2 a1_3 a1_4 l1_5).bind fun bt309 => ((route_Loopless.f k t306 4).bind fun t317 => (if t317 = true then ((route_Reach.f k t306 4 (Go.bits .and .i64 a1_0 3) bt309.1 bt309.2.1 bt309.2.2.1 bt309.2.2.2.1 bt309.2.2.2.2).bind fun t321 => ((route_Hops.f k t306 (Go.bits .and .i64 a1_0 3) bt309.1 bt309.2.1 bt309.2.2.1 bt309.2.2.2.1 bt309.2.2.2.2).bind fun t324 => (phaetonlaw12_RouteEnds.l0 k t306 t305 (Go.bits .and .i64 a1_0 3) t321 t324 0 0))) else ((route_Reach.f k t306 4 (Go.bits .and .i64 a1_0 3) bt309.1 bt309.2.1 bt309.2.2.1 bt309.2.2.2.1 bt309.2.2.2.2).bind fun t318 => (if (t318.length : Int) = 0 then (some t305) else (none)))))))) = some r := h
  clear h
  replace H := Option.bind_eq_some_iff.mp H
  obtain ⟨t305, A30, H⟩ := H
  replace H : ((phaetonlaw12_Cut.f k l0 10).bind fun t306 => ((phaetonref06_Made.f a1_1 a1_2 a1_3 a1_4 l1_5).bind fun bt309 => ((route_Loopless.f k t306 4).bind fun t317 => (if t317 = true then ((route_Reach.f k t306 4 (Go.bits .and .i64 a1_0 3) bt309.1 bt309.2.1 bt309.2.2.1 bt309.2.2.2.1 bt309.2.2.2.2).bind fun t321 => ((route_Hops.f k t306 (Go.bits .and .i64 a1_0 3) bt309.1 bt309.2.1 bt309.2.2.1 bt309.2.2.2.1 bt309.2.2.2.2).bind fun t324 => (phaetonlaw12_RouteEnds.l0 k t306 t305 (Go.bits .and .i64 a1_0 3) t321 t324 0 0))) else ((route_Reach.f k t306 4 (Go.bits .and .i64 a1_0 3) bt309.1 bt309.2.1 bt309.2.2.1 bt309.2.2.2.1 bt309.2.2.2.2).bind fun t318 => (if (t318.length : Int) = 0 then (some t305) else (none))))))) = some r := H
  have A3 := Aside0.mk A30
  clear A30
  replace H := Option.bind_eq_some_iff.mp H
  obtain ⟨t306, A40, H⟩ := H
  replace H : ((phaetonref06_Made.f a1_1 a1_2 a1_3 a1_4 l1_5).bind fun bt309 => ((route_Loopless.f k t306 4).bind fun t317 => (if t317 = true then ((route_Reach.f k t306 4 (Go.bits .and .i64 a1_0 3) bt309.1 bt309.2.1 bt309.2.2.1 bt309.2.2.2.1 bt309.2.2.2.2).bind fun t321 => ((route_Hops.f k t306 (Go.bits .and .i64 a1_0 3) bt309.1 bt309.2.1 bt309.2.2.1 bt309.2.2.2.1 bt309.2.2.2.2).bind fun t324 => (phaetonlaw12_RouteEnds.l0 k t306 t305 (Go.bits .and .i64 a1_0 3) t321 t324 0 0))) else ((route_Reach.f k t306 4 (Go.bits .and .i64 a1_0 3) bt309.1 bt309.2.1 bt309.2.2.1 bt309.2.2.2.1 bt309.2.2.2.2).bind fun t318 => (if (t318.length : Int) = 0 then (some t305) else (none)))))) = some r := H
  have A4 := Aside0.mk A40
  clear A40
  replace H := Option.bind_eq_some_iff.mp H
  obtain ⟨⟨t309, t310, t311, t312, t313⟩, A50, H⟩ := H
  replace H : ((route_Loopless.f k t306 4).bind fun t317 => (if t317 = true then ((route_Reach.f k t306 4 (Go.bits .and .i64 a1_0 3) t309 t310 t311 t312 t313).bind fun t321 => ((route_Hops.f k t306 (Go.bits .and .i64 a1_0 3) t309 t310 t311 t312 t313).bind fun t324 => (phaetonlaw12_RouteEnds.l0 k t306 t305 (Go.bits .and .i64 a1_0 3) t321 t324 0 0))) else ((route_Reach.f k t306 4 (Go.bits .and .i64 a1_0 3) t309 t310 t311 t312 t313).bind fun t318 => (if (t318.length : Int) = 0 then (some t305) else (none))))) = some r := H
  have A5 := Aside0.mk A50
  clear A50
  replace H := Option.bind_eq_some_iff.mp H
  obtain ⟨t317, A60, H⟩ := H
  replace H : (if t317 = true then ((route_Reach.f k t306 4 (Go.bits .and .i64 a1_0 3) t309 t310 t311 t312 t313).bind fun t321 => ((route_Hops.f k t306 (Go.bits .and .i64 a1_0 3) t309 t310 t311 t312 t313).bind fun t324 => (phaetonlaw12_RouteEnds.l0 k t306 t305 (Go.bits .and .i64 a1_0 3) t321 t324 0 0))) else ((route_Reach.f k t306 4 (Go.bits .and .i64 a1_0 3) t309 t310 t311 t312 t313).bind fun t318 => (if (t318.length : Int) = 0 then (some t305) else (none)))) = some r := H
  have A6 := Aside0.mk A60
  clear A60
  by_cases c7 : t317 = true
  · subst c7
    have H1 : ((route_Reach.f k t306 4 (Go.bits .and .i64 a1_0 3) t309 t310 t311 t312 t313).bind fun t321 => ((route_Hops.f k t306 (Go.bits .and .i64 a1_0 3) t309 t310 t311 t312 t313).bind fun t324 => (phaetonlaw12_RouteEnds.l0 k t306 t305 (Go.bits .and .i64 a1_0 3) t321 t324 0 0))) = some r := by rw [if_pos rfl] at H; exact H
    clear H
    have H := H1
    clear H1
    replace H := Option.bind_eq_some_iff.mp H
    obtain ⟨t321, A80, H⟩ := H
    replace H : ((route_Hops.f k t306 (Go.bits .and .i64 a1_0 3) t309 t310 t311 t312 t313).bind fun t324 => (phaetonlaw12_RouteEnds.l0 k t306 t305 (Go.bits .and .i64 a1_0 3) t321 t324 0 0)) = some r := H
    have A8 := Aside0.mk A80
    clear A80
    replace H := Option.bind_eq_some_iff.mp H
    obtain ⟨t324, A90, H⟩ := H
    replace H : (phaetonlaw12_RouteEnds.l0 k t306 t305 (Go.bits .and .i64 a1_0 3) t321 t324 0 0) = some r := H
    have A9 := Aside0.mk A90
    clear A90
    have H' := Aside0.mk H
    clear H
    go_enter Try.func4, Try.ntmps4
    try go_wp2_with (first | ((with_reducible refine gate_dst (N := 3) rfl ?_); (try (refine gate_guard (by rfl) ?_; dsimp only)); refine box_event ?hg (N := 3) ?hd (cs := #[.int .i64 a1_0, .bool a1_1, .int .i64 a1_2, .bool a1_3, .int .i64 a1_4, .slice A1_5 l1_5.length c1_5]) (t := 27) ?hr ?_; (case hd => rfl); (case hg => rfl); (case hr => first | (go_simp; done) | (go_simp; rfl)); intro gb304 hg w10 hbox hb; have n0_ := Aside0.mk (below_step (by repeat (first | (with_reducible first | exact HB.out | apply below_alloc | apply pw_below_drewN | apply below_drew1) | exact HB.out)) hb); have n1_ := Aside0.mk (hbox); have n2_ := Aside0.mk ((by rw [hg]; exact (below_size (by repeat (first | (with_reducible first | exact HB.out | apply below_alloc | apply pw_below_drewN | apply below_drew1) | exact HB.out))) : w.heap.size ≤ gb304)); have n3_ := Aside0.mk ((by rw [hg]; exact (below_size (by repeat (first | (with_reducible first | exact HB.out | apply below_alloc | apply pw_below_drewN | apply below_drew1) | exact HB.out))) : w.heap.size ≤ gb304)); clear HB; have HB := n0_; have BK304 := n1_; have GW304 := n2_; have GE304 := n3_; clear n0_ n1_ n2_ n3_; clear hb hbox hg) | ((with_reducible refine gate_callee (f := 10) rfl ?_); refine goesL_ (some 14) rfl rfl Try.func10 (by kernel_rfl) rfl #[] rfl (by (try simp only [List.map_toArray, List.map_cons, List.map_nil]); first | done | rfl | (simp only [List.length_drop, List.length_take]; rfl)) ?_; (with_reducible refine (phaetonlaw12_head.calls k  t305 _ A3.out).mono ?_); rintro e w11 ⟨rfl, hb⟩; refine ⟨_, rfl, ?_⟩; have n0_ := Aside0.mk (blk_below (g := gb304) (o := .cells #[.int .i64 a1_0, .bool a1_1, .int .i64 a1_2, .bool a1_3, .int .i64 a1_4, .slice A1_5 l1_5.length c1_5] 27 (0, 0)) (by (with_reducible repeat (first | refine blk_drewN ?_ _ | refine blk_drew ?_ | refine blk_alloc ?_ _)); exact BK304.out) hb); have n1_ := Aside0.mk (below_step (by repeat (first | (with_reducible first | exact HB.out | apply below_alloc | apply pw_below_drewN | apply below_drew1 | refine below_set ?_ GE304.out) | exact HB.out)) hb); clear BK304; clear HB; have BK304 := n0_; have HB := n1_; clear n0_ n1_; (try clear hb); (try clear hb2); (try clear hk); (try clear hi)) | ((with_reducible refine gate_callee (f := 16) rfl ?_); refine goesL_ (some 16) rfl rfl Try.func16 (by kernel_rfl) rfl #[.slice A0 l0.length c0, .int .i64 10] rfl (by (try simp only [List.map_toArray, List.map_cons, List.map_nil]); first | done | rfl | (simp only [List.length_drop, List.length_take]; rfl)) ?_; (with_reducible refine (phaetonlaw12_Cut.calls k _ _ l0 10 t306 _ ?side1 ?side2 A4.out).mono ?_); (case side1 => repeat (first | exact (Kd.C_below HR0.out HB.out) | (with_reducible refine Kd.C_alloc ?_ _) | (with_reducible refine Kd.C_drewN ?_ _) | (with_reducible refine Kd.C_drew ?_))); (case side2 => exact HC0.out); rintro e w12 ⟨v307, rfl, ho0, hb⟩; refine ⟨_, rfl, ?_⟩; have n0_ := Aside0.mk (Kd.R_lower ho0 (below_size (by repeat (first | (with_reducible first | exact HB.out | apply below_alloc | apply pw_below_drewN | apply below_drew1 | refine below_set ?_ GE304.out) | exact HB.out)))); have n1_ := Aside0.mk (blk_below (g := gb304) (o := .cells #[.int .i64 a1_0, .bool a1_1, .int .i64 a1_2, .bool a1_3, .int .i64 a1_4, .slice A1_5 l1_5.length c1_5] 27 (0, 0)) (by (with_reducible repeat (first | refine blk_drewN ?_ _ | refine blk_drew ?_ | refine blk_alloc ?_ _)); exact BK304.out) hb); have n2_ := Aside0.mk (below_step (by repeat (first | (with_reducible first | exact HB.out | apply below_alloc | apply pw_below_drewN | apply below_drew1 | refine below_set ?_ GE304.out) | exact HB.out)) hb); clear BK304; clear HB; have HO308 := n0_; have BK304 := n1_; have HB := n2_; clear n0_ n1_ n2_; (try clear hb); (try clear hb2); (try clear hk); (try clear hi); (try clear ho0); have hcz13_0 : w12.cell? ⟨gb304, 0, none⟩ = some (.int .i64 a1_0) := (blk_cell BK304.out 0).trans rfl; have hcz13_1 : w12.cell? ⟨gb304, 1, none⟩ = some (.bool a1_1) := (blk_cell BK304.out 1).trans rfl; have hcz13_2 : w12.cell? ⟨gb304, 2, none⟩ = some (.int .i64 a1_2) := (blk_cell BK304.out 2).trans rfl; have hcz13_3 : w12.cell? ⟨gb304, 3, none⟩ = some (.bool a1_3) := (blk_cell BK304.out 3).trans rfl; have hcz13_4 : w12.cell? ⟨gb304, 4, none⟩ = some (.int .i64 a1_4) := (blk_cell BK304.out 4).trans rfl; have hcz13_5 : w12.cell? ⟨gb304, 5, none⟩ = some (.slice A1_5 l1_5.length c1_5) := (blk_cell BK304.out 5).trans rfl; have hfz13_0 := blk_frozen BK304.out 0; have hfz13_1 := blk_frozen BK304.out 1; have hfz13_2 := blk_frozen BK304.out 2; have hfz13_3 := blk_frozen BK304.out 3; have hfz13_4 := blk_frozen BK304.out 4; have hfz13_5 := blk_frozen BK304.out 5) | ((with_reducible refine gate_callee (f := 11) rfl ?_); refine goesL_ (some 19) rfl rfl Try.func11 (by kernel_rfl) rfl #[.agg #[.bool a1_1, .int .i64 a1_2, .bool a1_3, .int .i64 a1_4, .slice A1_5 l1_5.length c1_5]] rfl (by (try simp only [List.map_toArray, List.map_cons, List.map_nil]); first | done | rfl | (simp only [List.length_drop, List.length_take]; rfl)) ?_; (with_reducible refine (phaetonref06_Made.calls a1_1 a1_2 a1_3 a1_4 _ _ l1_5 t309 t310 t311 t312 t313 _ ?side1 ?side2 A5.out).mono ?_); (case side1 => repeat (first | exact (Kd.C_below HR1_5.out HB.out) | (with_reducible refine Kd.C_alloc ?_ _) | (with_reducible refine Kd.C_drewN ?_ _) | (with_reducible refine Kd.C_drew ?_))); (case side2 => exact HC1_5.out); rintro e w14 ⟨v314, rfl, ho0, hb⟩; refine ⟨_, rfl, ?_⟩; have n0_ := Aside0.mk (Kd.R_below (by (with_reducible repeat (first | apply Kd.R_alloc | apply Kd.R_drewN | apply Kd.R_drew)); exact HO308.out) hb); have n1_ := Aside0.mk (Kd.R_lower ho0 (below_size (by repeat (first | (with_reducible first | exact HB.out | apply below_alloc | apply pw_below_drewN | apply below_drew1 | refine below_set ?_ GE304.out) | exact HB.out)))); have n2_ := Aside0.mk (blk_below (g := gb304) (o := .cells #[.int .i64 a1_0, .bool a1_1, .int .i64 a1_2, .bool a1_3, .int .i64 a1_4, .slice A1_5 l1_5.length c1_5] 27 (0, 0)) (by (with_reducible repeat (first | refine blk_drewN ?_ _ | refine blk_drew ?_ | refine blk_alloc ?_ _)); exact BK304.out) hb); have n3_ := Aside0.mk (below_step (by repeat (first | (with_reducible first | exact HB.out | apply below_alloc | apply pw_below_drewN | apply below_drew1 | refine below_set ?_ GE304.out) | exact HB.out)) hb); clear HO308; clear BK304; clear HB; have HO308 := n0_; have HO315 := n1_; have BK304 := n2_; have HB := n3_; clear n0_ n1_ n2_ n3_; (try clear hb); (try clear hb2); (try clear hk); (try clear hi); (try clear ho0)) | ((with_reducible refine gate_dst (N := 6) rfl ?_); (try (refine gate_guard (by rfl) ?_; dsimp only)); refine box_event ?hg (N := 6) ?hd (cs := #[.bool false, .int .i64 0, .bool false, .int .i64 0, .slice none 0 0]) (t := 25) ?hr ?_; (case hd => rfl); (case hg => rfl); (case hr => first | (go_simp; done) | (go_simp; rfl)); intro gb316 hg w15 hbox hb; have n0_ := Aside0.mk (Kd.R_below (by (with_reducible repeat (first | apply Kd.R_alloc | apply Kd.R_drewN | apply Kd.R_drew)); exact HO308.out) hb); have n1_ := Aside0.mk (Kd.R_below (by (with_reducible repeat (first | apply Kd.R_alloc | apply Kd.R_drewN | apply Kd.R_drew)); exact HO315.out) hb); have n2_ := Aside0.mk (blk_below (g := gb304) (o := .cells #[.int .i64 a1_0, .bool a1_1, .int .i64 a1_2, .bool a1_3, .int .i64 a1_4, .slice A1_5 l1_5.length c1_5] 27 (0, 0)) (by (with_reducible repeat (first | refine blk_drewN ?_ _ | refine blk_drew ?_ | refine blk_alloc ?_ _)); exact BK304.out) hb); have n3_ := Aside0.mk (below_step (by repeat (first | (with_reducible first | exact HB.out | apply below_alloc | apply pw_below_drewN | apply below_drew1 | refine below_set ?_ GE304.out) | exact HB.out)) hb); have n4_ := Aside0.mk (hbox); have n5_ := Aside0.mk ((by rw [hg]; exact (below_size (by repeat (first | (with_reducible first | exact HB.out | apply below_alloc | apply pw_below_drewN | apply below_drew1 | refine below_set ?_ GE304.out) | exact HB.out))) : w.heap.size ≤ gb316)); have n6_ := Aside0.mk ((by rw [hg]; exact (below_size (by repeat (first | (with_reducible first | exact HB.out | apply below_alloc | apply pw_below_drewN | apply below_drew1 | refine below_set ?_ GE304.out) | exact HB.out))) : w.heap.size ≤ gb316)); have n7_ := Aside0.mk ((by rw [hg]; exact Nat.ne_of_lt (blk_lt (g := gb304) (o := .cells #[.int .i64 a1_0, .bool a1_1, .int .i64 a1_2, .bool a1_3, .int .i64 a1_4, .slice A1_5 l1_5.length c1_5] 27 (0, 0)) (by (with_reducible repeat (first | refine blk_drewN ?_ _ | refine blk_drew ?_ | refine blk_alloc ?_ _)); exact BK304.out)) : gb304 ≠ gb316)); have n8_ := Aside0.mk ((by rw [hg]; exact Nat.ne_of_gt (blk_lt (g := gb304) (o := .cells #[.int .i64 a1_0, .bool a1_1, .int .i64 a1_2, .bool a1_3, .int .i64 a1_4, .slice A1_5 l1_5.length c1_5] 27 (0, 0)) (by (with_reducible repeat (first | refine blk_drewN ?_ _ | refine blk_drew ?_ | refine blk_alloc ?_ _)); exact BK304.out)) : gb316 ≠ gb304)); clear HO308; clear HO315; clear BK304; clear HB; have HO308 := n0_; have HO315 := n1_; have BK304 := n2_; have HB := n3_; have BK316 := n4_; have GW316 := n5_; have GE316 := n6_; have NB304_316 := n7_; have NB316_304 := n8_; clear n0_ n1_ n2_ n3_ n4_ n5_ n6_ n7_ n8_; clear hb hbox hg; have hnb16 := NB316_304.out; have hnc16 := NB304_316.out; have hcz17_0 : w15.cell? ⟨gb316, 0, none⟩ = some (.bool false) := (blk_cell BK316.out 0).trans rfl; have hcz17_1 : w15.cell? ⟨gb316, 1, none⟩ = some (.int .i64 0) := (blk_cell BK316.out 1).trans rfl; have hcz17_2 : w15.cell? ⟨gb316, 2, none⟩ = some (.bool false) := (blk_cell BK316.out 2).trans rfl; have hcz17_3 : w15.cell? ⟨gb316, 3, none⟩ = some (.int .i64 0) := (blk_cell BK316.out 3).trans rfl; have hcz17_4 : w15.cell? ⟨gb316, 4, none⟩ = some (.slice none 0 0) := (blk_cell BK316.out 4).trans rfl; have hfz17_0 := blk_frozen BK316.out 0; have hfz17_1 := blk_frozen BK316.out 1; have hfz17_2 := blk_frozen BK316.out 2; have hfz17_3 := blk_frozen BK316.out 3; have hfz17_4 := blk_frozen BK316.out 4; obtain ⟨Ao18, co18, eo18⟩ := Kd.R_slice HO315.out; subst eo18; have hcz19_0 : w15.cell? ⟨gb304, 0, none⟩ = some (.int .i64 a1_0) := (blk_cell BK304.out 0).trans rfl; have hcz19_1 : w15.cell? ⟨gb304, 1, none⟩ = some (.bool a1_1) := (blk_cell BK304.out 1).trans rfl; have hcz19_2 : w15.cell? ⟨gb304, 2, none⟩ = some (.int .i64 a1_2) := (blk_cell BK304.out 2).trans rfl; have hcz19_3 : w15.cell? ⟨gb304, 3, none⟩ = some (.bool a1_3) := (blk_cell BK304.out 3).trans rfl; have hcz19_4 : w15.cell? ⟨gb304, 4, none⟩ = some (.int .i64 a1_4) := (blk_cell BK304.out 4).trans rfl; have hcz19_5 : w15.cell? ⟨gb304, 5, none⟩ = some (.slice A1_5 l1_5.length c1_5) := (blk_cell BK304.out 5).trans rfl; have hfz19_0 := blk_frozen BK304.out 0; have hfz19_1 := blk_frozen BK304.out 1; have hfz19_2 := blk_frozen BK304.out 2; have hfz19_3 := blk_frozen BK304.out 3; have hfz19_4 := blk_frozen BK304.out 4; have hfz19_5 := blk_frozen BK304.out 5; obtain ⟨Ao20, co20, eo20⟩ := Kd.R_slice HO308.out; subst eo20) | ((with_reducible refine gate_callee (f := 14) rfl ?_); refine goesL_ (some 24) rfl rfl Try.func14 (by kernel_rfl) rfl #[.slice Ao20 t306.length co20, .int .i64 4] rfl (by (try simp only [List.map_toArray, List.map_cons, List.map_nil]); first | done | rfl | (simp only [List.length_drop, List.length_take]; rfl)) ?_; (with_reducible refine (route_Loopless.calls k _ _ t306 4 true _ ?side1 ?side2 A6.out).mono ?_); (case side1 => refine (Kd.R_reads' (e := 45) (base := w.heap.size) (ok := fun k_ => True) (n := t306.length) (c := co20) ?_).2.2; exact (by (with_reducible repeat (first | apply Kd.R_alloc | apply Kd.R_drewN | apply Kd.R_drew)); exact (Kd.R_mono (Kd.R_far (p := ⟨gb316, 4, none⟩) (Kd.R_far (p := ⟨gb316, 3, none⟩) (Kd.R_far (p := ⟨gb316, 2, none⟩) (Kd.R_far (p := ⟨gb316, 1, none⟩) (Kd.R_far (p := ⟨gb316, 0, none⟩) (Kd.R_types HO308.out BK316.out (by decide)) (fun _ hk => hk.2) (.bool t309)) (fun _ hk => hk.2) (.int .i64 t310)) (fun _ hk => hk.2) (.bool t311)) (fun _ hk => hk.2) (.int .i64 t312)) (fun _ hk => hk.2) (.slice Ao18 t313.length co18)) (fun _ h_ => h_.1)))); (case side2 => exact (Kd.R_reads' HO308.out).2.1); rintro e w21 ⟨rfl, hb⟩; refine ⟨_, rfl, ?_⟩; have n0_ := Aside0.mk (Kd.R_below (by (with_reducible repeat (first | apply Kd.R_alloc | apply Kd.R_drewN | apply Kd.R_drew)); exact (Kd.R_mono (Kd.R_far (p := ⟨gb316, 4, none⟩) (Kd.R_far (p := ⟨gb316, 3, none⟩) (Kd.R_far (p := ⟨gb316, 2, none⟩) (Kd.R_far (p := ⟨gb316, 1, none⟩) (Kd.R_far (p := ⟨gb316, 0, none⟩) (Kd.R_types HO308.out BK316.out (by decide)) (fun _ hk => hk.2) (.bool t309)) (fun _ hk => hk.2) (.int .i64 t310)) (fun _ hk => hk.2) (.bool t311)) (fun _ hk => hk.2) (.int .i64 t312)) (fun _ hk => hk.2) (.slice Ao18 t313.length co18)) (fun _ h_ => h_.1))) hb); have n1_ := Aside0.mk (Kd.R_below (by (with_reducible repeat (first | apply Kd.R_alloc | apply Kd.R_drewN | apply Kd.R_drew)); exact (Kd.R_mono (Kd.R_far (p := ⟨gb316, 4, none⟩) (Kd.R_far (p := ⟨gb316, 3, none⟩) (Kd.R_far (p := ⟨gb316, 2, none⟩) (Kd.R_far (p := ⟨gb316, 1, none⟩) (Kd.R_far (p := ⟨gb316, 0, none⟩) (Kd.R_types HO315.out BK316.out (by decide)) (fun _ hk => hk.2) (.bool t309)) (fun _ hk => hk.2) (.int .i64 t310)) (fun _ hk => hk.2) (.bool t311)) (fun _ hk => hk.2) (.int .i64 t312)) (fun _ hk => hk.2) (.slice Ao18 t313.length co18)) (fun _ h_ => h_.1))) hb); have n2_ := Aside0.mk (blk_below (g := gb304) (o := .cells #[.int .i64 a1_0, .bool a1_1, .int .i64 a1_2, .bool a1_3, .int .i64 a1_4, .slice A1_5 l1_5.length c1_5] 27 (0, 0)) (by (with_reducible repeat (first | refine blk_drewN ?_ _ | refine blk_drew ?_ | refine blk_alloc ?_ _)); refine blk_far ?_ NB304_316.out _; (with_reducible repeat (first | refine blk_drewN ?_ _ | refine blk_drew ?_ | refine blk_alloc ?_ _)); refine blk_far ?_ NB304_316.out _; (with_reducible repeat (first | refine blk_drewN ?_ _ | refine blk_drew ?_ | refine blk_alloc ?_ _)); refine blk_far ?_ NB304_316.out _; (with_reducible repeat (first | refine blk_drewN ?_ _ | refine blk_drew ?_ | refine blk_alloc ?_ _)); refine blk_far ?_ NB304_316.out _; (with_reducible repeat (first | refine blk_drewN ?_ _ | refine blk_drew ?_ | refine blk_alloc ?_ _)); refine blk_far ?_ NB304_316.out _; (with_reducible repeat (first | refine blk_drewN ?_ _ | refine blk_drew ?_ | refine blk_alloc ?_ _)); exact BK304.out) hb); have n3_ := Aside0.mk (blk_below (g := gb316) (o := .cells #[.bool t309, .int .i64 t310, .bool t311, .int .i64 t312, .slice Ao18 t313.length co18] 25 (0, 0)) (by (with_reducible repeat (first | refine blk_drewN ?_ _ | refine blk_drew ?_ | refine blk_alloc ?_ _)); refine blk_put (cs := #[.bool t309, .int .i64 t310, .bool t311, .int .i64 t312, .slice none 0 0]) ?_ 4 _ rfl; (with_reducible repeat (first | refine blk_drewN ?_ _ | refine blk_drew ?_ | refine blk_alloc ?_ _)); refine blk_put (cs := #[.bool t309, .int .i64 t310, .bool t311, .int .i64 0, .slice none 0 0]) ?_ 3 _ rfl; (with_reducible repeat (first | refine blk_drewN ?_ _ | refine blk_drew ?_ | refine blk_alloc ?_ _)); refine blk_put (cs := #[.bool t309, .int .i64 t310, .bool false, .int .i64 0, .slice none 0 0]) ?_ 2 _ rfl; (with_reducible repeat (first | refine blk_drewN ?_ _ | refine blk_drew ?_ | refine blk_alloc ?_ _)); refine blk_put (cs := #[.bool t309, .int .i64 0, .bool false, .int .i64 0, .slice none 0 0]) ?_ 1 _ rfl; (with_reducible repeat (first | refine blk_drewN ?_ _ | refine blk_drew ?_ | refine blk_alloc ?_ _)); refine blk_put (cs := #[.bool false, .int .i64 0, .bool false, .int .i64 0, .slice none 0 0]) ?_ 0 _ rfl; (with_reducible repeat (first | refine blk_drewN ?_ _ | refine blk_drew ?_ | refine blk_alloc ?_ _)); exact BK316.out) hb); have n4_ := Aside0.mk (below_step (by repeat (first | (with_reducible first | exact HB.out | apply below_alloc | apply pw_below_drewN | apply below_drew1 | refine below_set ?_ GE304.out | refine below_set ?_ GE316.out) | exact HB.out)) hb); clear HO308; clear HO315; clear BK304; clear BK316; clear HB; have HO308 := n0_; have HO315 := n1_; have BK304 := n2_; have BK316 := n3_; have HB := n4_; clear n0_ n1_ n2_ n3_ n4_; (try clear hb); (try clear hb2); (try clear hk); (try clear hi)))
    have n0_ := Aside0.mk (Kd.R_drew HO308.out)
    have n1_ := Aside0.mk (Kd.R_drew HO315.out)
    have n2_ := Aside0.mk (blk_drew BK304.out)
    have n3_ := Aside0.mk (blk_drew BK316.out)
    have n4_ := Aside0.mk (below_drew1 HB.out)
    clear HO308
    clear HO315
    clear BK304
    clear BK316
    clear HB
    have HO308 := n0_
    have HO315 := n1_
    have BK304 := n2_
    have BK316 := n3_
    have HB := n4_
    clear n0_ n1_ n2_ n3_ n4_
    refine start_ (n := 11) (S := fun w' => w'.cell? ⟨gb316, 0, none⟩ = some (.bool t309) ∧ w'.cell? ⟨gb316, 1, none⟩ = some (.int .i64 t310) ∧ w'.cell? ⟨gb316, 2, none⟩ = some (.bool t311) ∧ w'.cell? ⟨gb316, 3, none⟩ = some (.int .i64 t312) ∧ w'.cell? ⟨gb316, 4, none⟩ = some (.slice Ao18 t313.length co18)) (ds := []) #[false, false, false, false, false, false, false, false, false, false, false] (by kernel_rfl) rfl rfl ⟨(blk_cell BK316.out 0).trans rfl, (blk_cell BK316.out 1).trans rfl, (blk_cell BK316.out 2).trans rfl, (blk_cell BK316.out 3).trans rfl, (blk_cell BK316.out 4).trans rfl⟩ (fun hHeld => ?_); refine with_tabW phaetonlaw12_RouteEnds.tab7 phaetonlaw12_RouteEnds.bits7 (fun HT_ HW_ => ?_)
    generalize w21.drew = w22 at HO308 HO315 BK304 BK316 HB hHeld ⊢
    refine pure_ (i := 0) (N := some 35) (v := ?_) (a' := ?_) #[true, false, false, false, false, false, false, false, false, false, false] rfl rfl (any_of HT_.out (by kernel_rfl)) (fun _ _ _ h => h) (Or.inl ⟨by rfl, ?_⟩) ?_ ?_
    rotate_left
    · intro w'
      go_simp
      with_reducible rfl
    rotate_left
    · simp only [Act.put, List.setIfInBounds_toArray, List.set_cons_zero, List.set_cons_succ, i64_w, i32_w]
      rfl
    refine pure_ (i := 1) (N := some 36) (v := ?_) (a' := ?_) #[true, true, false, false, false, false, false, false, false, false, false] rfl rfl (any_of HT_.out (by kernel_rfl)) (fun _ _ _ h => h) (Or.inl ⟨by rfl, ?_⟩) ?_ ?_
    rotate_left
    · intro w'
      go_simp
      with_reducible rfl
    rotate_left
    · simp only [Act.put, List.setIfInBounds_toArray, List.set_cons_zero, List.set_cons_succ, i64_w, i32_w]
      rfl
    refine pure_ (i := 4) (N := some 39) (v := ?_) (a' := ?_) #[true, true, false, false, true, false, false, false, false, false, false] rfl rfl (any_of HT_.out (by kernel_rfl)) (fun _ _ _ h => h) (Or.inl ⟨by rfl, ?_⟩) ?_ ?_
    rotate_left
    · intro w'
      go_simp
      with_reducible rfl
    rotate_left
    · simp only [Act.put, List.setIfInBounds_toArray, List.set_cons_zero, List.set_cons_succ, i64_w, i32_w]
      rfl
    refine pure_ (i := 5) (N := some 40) (v := ?_) (a' := ?_) #[true, true, false, false, true, true, false, false, false, false, false] rfl rfl (any_of HT_.out (by kernel_rfl)) (fun _ _ _ h => h) (Or.inl ⟨by rfl, ?_⟩) ?_ ?_
    rotate_left
    · intro w'
      go_simp
      with_reducible rfl
    rotate_left
    · simp only [Act.put, List.setIfInBounds_toArray, List.set_cons_zero, List.set_cons_succ, i64_w, i32_w]
      rfl
    refine take_ (i := 2) (N := some 37) (v := ?_) (a' := ?_) #[true, true, true, false, true, true, false, false, false, false, false] rfl rfl (take_ofW HT_.out HW_.out (by kernel_rfl)) (fun _ _ _ h => h) (Or.inl ⟨by rfl, ?_⟩) hHeld ?_ ?_
    rotate_left
    · rintro w' ⟨s0, s1, s2, s3, s4⟩
      go_simp
      with_reducible rfl
    rotate_left
    · simp only [Act.put, List.setIfInBounds_toArray, List.set_cons_zero, List.set_cons_succ, i64_w, i32_w]
      rfl
    refine take_ (i := 6) (N := some 41) (v := ?_) (a' := ?_) #[true, true, true, false, true, true, true, false, false, false, false] rfl rfl (take_ofW HT_.out HW_.out (by kernel_rfl)) (fun _ _ _ h => h) (Or.inl ⟨by rfl, ?_⟩) hHeld ?_ ?_
    rotate_left
    · rintro w' ⟨s0, s1, s2, s3, s4⟩
      go_simp
      with_reducible rfl
    rotate_left
    · simp only [Act.put, List.setIfInBounds_toArray, List.set_cons_zero, List.set_cons_succ, i64_w, i32_w]
      rfl
    refine one_ (i := 3) (N := some 38) #[true, true, true, true, true, true, true, false, false, false, false] rfl rfl (one_of HT_.out (by kernel_rfl)) (by decide) (fun K hK => ?_)
    refine goes_ Try.func20 (by kernel_rfl) rfl #[.slice Ao20 t306.length co20, .int .i64 4, .int .i64 (Go.bits .and .i64 a1_0 3), .agg #[.bool t309, .int .i64 t310, .bool t311, .int .i64 t312, .slice Ao18 t313.length co18]] (by rfl) rfl rfl (by (try simp only [List.map_toArray, List.map_cons, List.map_nil]); first | done | rfl | (simp only [List.length_drop, List.length_take]; rfl)) ?_
    with_reducible refine (route_Reach.calls k _ _ t306 4 (Go.bits .and .i64 a1_0 3) t309 t310 t311 t312 (fun k_ => some k_ = (.slice Ao18 t313.length co18 : Value).ownBlock) _ _ t313 t321 _ ?side1 ?side2 ?side3 A8.out).mono ?_
    (case side1 => repeat (first | exact (Kd.R_reads' HO308.out).2.2 | (with_reducible refine Kd.C_alloc ?_ _) | (with_reducible refine Kd.C_drewN ?_ _) | (with_reducible refine Kd.C_drew ?_)))
    (case side2 => exact (Kd.R_reads' HO308.out).2.1)
    (case side3 => exact Kd.R_V (Kd.R_tight rfl (Kd.R_types (Kd.R_types (Kd.R_apart' (HO315.out) (Kd.R_typed HO308.out) (by decide)) BK304.out (by decide)) BK316.out (by decide))))
    rintro e w23 ⟨v322, rfl, ho0, hb⟩
    refine ⟨_, rfl, ?_⟩
    have n0_ := Aside0.mk (Kd.R_below (by (with_reducible repeat (first | apply Kd.R_alloc | apply Kd.R_drewN | apply Kd.R_drew)); exact HO308.out) hb)
    have n1_ := Aside0.mk (Kd.R_below (by (with_reducible repeat (first | apply Kd.R_alloc | apply Kd.R_drewN | apply Kd.R_drew)); exact HO315.out) hb)
    have n2_ := Aside0.mk (Kd.N_lower (Kd.N_mono (ok' := fun k_ => some k_ ≠ (.slice Ao20 t306.length co20 : Value).ownBlock ∧ k_ ≠ gb304 ∧ k_ ≠ gb316) ho0 (fun k_ hk_ => ⟨Or.elim hk_ (fun hs_ => ((Kd.R_types (Kd.R_types (Kd.R_apart' (HO315.out) (Kd.R_typed HO308.out) (by decide)) BK304.out (by decide)) BK316.out (by decide)).1 k_ hs_.symm).1.1.2) (fun hn_ => (Kd.fresh' (Kd.R_lt (by (with_reducible repeat (first | apply Kd.R_alloc | apply Kd.R_drewN | apply Kd.R_drew)); exact HO308.out)) k_ hn_)), Or.elim hk_ (fun hs_ => ((Kd.R_types (Kd.R_types (Kd.R_apart' (HO315.out) (Kd.R_typed HO308.out) (by decide)) BK304.out (by decide)) BK316.out (by decide)).1 k_ hs_.symm).1.2) (fun hn_ => (Kd.freshB (g := gb304) (o := .cells #[.int .i64 a1_0, .bool a1_1, .int .i64 a1_2, .bool a1_3, .int .i64 a1_4, .slice A1_5 l1_5.length c1_5] 27 (0, 0)) (by (with_reducible repeat (first | refine blk_drewN ?_ _ | refine blk_drew ?_ | refine blk_alloc ?_ _)); exact BK304.out) k_ hn_)), Or.elim hk_ (fun hs_ => ((Kd.R_types (Kd.R_types (Kd.R_apart' (HO315.out) (Kd.R_typed HO308.out) (by decide)) BK304.out (by decide)) BK316.out (by decide)).1 k_ hs_.symm).2) (fun hn_ => (Kd.freshB (g := gb316) (o := .cells #[.bool t309, .int .i64 t310, .bool t311, .int .i64 t312, .slice Ao18 t313.length co18] 25 (0, 0)) (by (with_reducible repeat (first | refine blk_drewN ?_ _ | refine blk_drew ?_ | refine blk_alloc ?_ _)); exact BK316.out) k_ hn_))⟩)) (below_size (by repeat (first | (with_reducible first | exact HB.out | apply below_alloc | apply pw_below_drewN | apply below_drew1 | refine below_set ?_ GE304.out | refine below_set ?_ GE316.out) | exact HB.out))))
    have n3_ := Aside0.mk (blk_below (g := gb304) (o := .cells #[.int .i64 a1_0, .bool a1_1, .int .i64 a1_2, .bool a1_3, .int .i64 a1_4, .slice A1_5 l1_5.length c1_5] 27 (0, 0)) (by (with_reducible repeat (first | refine blk_drewN ?_ _ | refine blk_drew ?_ | refine blk_alloc ?_ _)); exact BK304.out) hb)
    have n4_ := Aside0.mk (blk_below (g := gb316) (o := .cells #[.bool t309, .int .i64 t310, .bool t311, .int .i64 t312, .slice Ao18 t313.length co18] 25 (0, 0)) (by (with_reducible repeat (first | refine blk_drewN ?_ _ | refine blk_drew ?_ | refine blk_alloc ?_ _)); exact BK316.out) hb)
    have n5_ := Aside0.mk (below_step (by repeat (first | (with_reducible first | exact HB.out | apply below_alloc | apply pw_below_drewN | apply below_drew1 | refine below_set ?_ GE304.out | refine below_set ?_ GE316.out) | exact HB.out)) hb)
    clear HO308
    clear HO315
    clear BK304
    clear BK316
    clear HB
    have HO308 := n0_
    have HO315 := n1_
    have HO323 := n2_
    have BK304 := n3_
    have BK316 := n4_
    have HB := n5_
    clear n0_ n1_ n2_ n3_ n4_ n5_
    (try clear hb)
    (try clear hb2)
    (try clear hk)
    (try clear hi)
    (try clear ho0)
    refine hK.out _ _ ⟨(blk_cell BK316.out 0).trans rfl, (blk_cell BK316.out 1).trans rfl, (blk_cell BK316.out 2).trans rfl, (blk_cell BK316.out 3).trans rfl, (blk_cell BK316.out 4).trans rfl⟩ (fun hHeld => ?_)
    clear hK K
    refine norm_ (a' := ?_) ?_ ?_
    rotate_left
    · show Act.put _ (some 38) _ = _
      simp only [Act.put, List.setIfInBounds_toArray, List.set_cons_zero, List.set_cons_succ, i64_w, i32_w]
      rfl
    refine one_ (i := 7) (N := some 42) #[true, true, true, true, true, true, true, true, false, false, false] rfl rfl (one_of HT_.out (by kernel_rfl)) (by decide) (fun K hK => ?_)
    refine goes_ Try.func18 (by kernel_rfl) rfl #[.slice Ao20 t306.length co20, .int .i64 (Go.bits .and .i64 a1_0 3), .agg #[.bool t309, .int .i64 t310, .bool t311, .int .i64 t312, .slice Ao18 t313.length co18]] (by rfl) rfl rfl (by (try simp only [List.map_toArray, List.map_cons, List.map_nil]); first | done | rfl | (simp only [List.length_drop, List.length_take]; rfl)) ?_
    with_reducible refine (route_Hops.calls k _ _ t306 (Go.bits .and .i64 a1_0 3) t309 t310 t311 t312 (fun k_ => some k_ = (.slice Ao18 t313.length co18 : Value).ownBlock) _ _ t313 t324 _ ?side1 ?side2 ?side3 A9.out).mono ?_
    (case side1 => repeat (first | exact (Kd.R_reads' HO308.out).2.2 | (with_reducible refine Kd.C_alloc ?_ _) | (with_reducible refine Kd.C_drewN ?_ _) | (with_reducible refine Kd.C_drew ?_)))
    (case side2 => exact (Kd.R_reads' HO308.out).2.1)
    (case side3 => exact Kd.R_V (Kd.R_tight rfl (Kd.R_types (Kd.R_types (Kd.R_apart' (Kd.R_apart' (HO315.out) (Kd.R_typed HO308.out) (by decide)) (Kd.N_typed HO323.out) (by decide)) BK304.out (by decide)) BK316.out (by decide))))
    rintro e w24 ⟨v325, rfl, ho0, hb⟩
    refine ⟨_, rfl, ?_⟩
    have n0_ := Aside0.mk (Kd.R_below (by (with_reducible repeat (first | apply Kd.R_alloc | apply Kd.R_drewN | apply Kd.R_drew)); exact HO308.out) hb)
    have n1_ := Aside0.mk (Kd.R_below (by (with_reducible repeat (first | apply Kd.R_alloc | apply Kd.R_drewN | apply Kd.R_drew)); exact HO315.out) hb)
    have n2_ := Aside0.mk (Kd.N_elder' (by (with_reducible repeat (first | apply Kd.N_alloc | apply Kd.N_drewN | apply Kd.N_drew)); exact HO323.out) (Kd.N_base ho0) hb)
    have n3_ := Aside0.mk (Kd.N_lower (Kd.N_mono (ok' := fun k_ => some k_ ≠ (.slice Ao20 t306.length co20 : Value).ownBlock ∧ some k_ ≠ (v322 : Value).ownBlock ∧ k_ ≠ gb304 ∧ k_ ≠ gb316) ho0 (fun k_ hk_ => ⟨Or.elim hk_ (fun hs_ => ((Kd.R_types (Kd.R_types (Kd.R_apart' (Kd.R_apart' (HO315.out) (Kd.R_typed HO308.out) (by decide)) (Kd.N_typed HO323.out) (by decide)) BK304.out (by decide)) BK316.out (by decide)).1 k_ hs_.symm).1.1.1.2) (fun hn_ => (Kd.fresh' (Kd.R_lt (by (with_reducible repeat (first | apply Kd.R_alloc | apply Kd.R_drewN | apply Kd.R_drew)); exact HO308.out)) k_ hn_)), Or.elim hk_ (fun hs_ => ((Kd.R_types (Kd.R_types (Kd.R_apart' (Kd.R_apart' (HO315.out) (Kd.R_typed HO308.out) (by decide)) (Kd.N_typed HO323.out) (by decide)) BK304.out (by decide)) BK316.out (by decide)).1 k_ hs_.symm).1.1.2) (fun hn_ => (Kd.fresh' (Kd.N_lt (by (with_reducible repeat (first | apply Kd.N_alloc | apply Kd.N_drewN | apply Kd.N_drew)); exact HO323.out)) k_ hn_)), Or.elim hk_ (fun hs_ => ((Kd.R_types (Kd.R_types (Kd.R_apart' (Kd.R_apart' (HO315.out) (Kd.R_typed HO308.out) (by decide)) (Kd.N_typed HO323.out) (by decide)) BK304.out (by decide)) BK316.out (by decide)).1 k_ hs_.symm).1.2) (fun hn_ => (Kd.freshB (g := gb304) (o := .cells #[.int .i64 a1_0, .bool a1_1, .int .i64 a1_2, .bool a1_3, .int .i64 a1_4, .slice A1_5 l1_5.length c1_5] 27 (0, 0)) (by (with_reducible repeat (first | refine blk_drewN ?_ _ | refine blk_drew ?_ | refine blk_alloc ?_ _)); exact BK304.out) k_ hn_)), Or.elim hk_ (fun hs_ => ((Kd.R_types (Kd.R_types (Kd.R_apart' (Kd.R_apart' (HO315.out) (Kd.R_typed HO308.out) (by decide)) (Kd.N_typed HO323.out) (by decide)) BK304.out (by decide)) BK316.out (by decide)).1 k_ hs_.symm).2) (fun hn_ => (Kd.freshB (g := gb316) (o := .cells #[.bool t309, .int .i64 t310, .bool t311, .int .i64 t312, .slice Ao18 t313.length co18] 25 (0, 0)) (by (with_reducible repeat (first | refine blk_drewN ?_ _ | refine blk_drew ?_ | refine blk_alloc ?_ _)); exact BK316.out) k_ hn_))⟩)) (below_size (by repeat (first | (with_reducible first | exact HB.out | apply below_alloc | apply pw_below_drewN | apply below_drew1 | refine below_set ?_ GE304.out | refine below_set ?_ GE316.out) | exact HB.out))))
    have n4_ := Aside0.mk (blk_below (g := gb304) (o := .cells #[.int .i64 a1_0, .bool a1_1, .int .i64 a1_2, .bool a1_3, .int .i64 a1_4, .slice A1_5 l1_5.length c1_5] 27 (0, 0)) (by (with_reducible repeat (first | refine blk_drewN ?_ _ | refine blk_drew ?_ | refine blk_alloc ?_ _)); exact BK304.out) hb)
    have n5_ := Aside0.mk (blk_below (g := gb316) (o := .cells #[.bool t309, .int .i64 t310, .bool t311, .int .i64 t312, .slice Ao18 t313.length co18] 25 (0, 0)) (by (with_reducible repeat (first | refine blk_drewN ?_ _ | refine blk_drew ?_ | refine blk_alloc ?_ _)); exact BK316.out) hb)
    have n6_ := Aside0.mk (below_step (by repeat (first | (with_reducible first | exact HB.out | apply below_alloc | apply pw_below_drewN | apply below_drew1 | refine below_set ?_ GE304.out | refine below_set ?_ GE316.out) | exact HB.out)) hb)
    clear HO308
    clear HO315
    clear HO323
    clear BK304
    clear BK316
    clear HB
    have HO308 := n0_
    have HO315 := n1_
    have HO323 := n2_
    have HO326 := n3_
    have BK304 := n4_
    have BK316 := n5_
    have HB := n6_
    clear n0_ n1_ n2_ n3_ n4_ n5_ n6_
    (try clear hb)
    (try clear hb2)
    (try clear hk)
    (try clear hi)
    (try clear ho0)
    refine hK.out _ _ ⟨(blk_cell BK316.out 0).trans rfl, (blk_cell BK316.out 1).trans rfl, (blk_cell BK316.out 2).trans rfl, (blk_cell BK316.out 3).trans rfl, (blk_cell BK316.out 4).trans rfl⟩ (fun hHeld => ?_)
    clear hK K
    refine norm_ (a' := ?_) ?_ ?_
    rotate_left
    · show Act.put _ (some 42) _ = _
      simp only [Act.put, List.setIfInBounds_toArray, List.set_cons_zero, List.set_cons_succ, i64_w, i32_w]
      rfl
    refine pure_ (i := 8) (N := some 8) (v := ?_) (a' := ?_) #[true, true, true, true, true, true, true, true, true, false, false] rfl rfl (any_of HT_.out (by kernel_rfl)) (fun _ _ _ h => h) (Or.inl ⟨by rfl, ?_⟩) ?_ ?_
    rotate_left
    · intro w'
      go_simp
      with_reducible rfl
    rotate_left
    · simp only [Act.put, List.setIfInBounds_toArray, List.set_cons_zero, List.set_cons_succ, i64_w, i32_w]
      rfl
    refine pure_ (i := 9) (N := some 9) (v := ?_) (a' := ?_) #[true, true, true, true, true, true, true, true, true, true, false] rfl rfl (any_of HT_.out (by kernel_rfl)) (fun _ _ _ h => h) (Or.inl ⟨by rfl, ?_⟩) ?_ ?_
    rotate_left
    · intro w'
      go_simp
      with_reducible rfl
    rotate_left
    · simp only [Act.put, List.setIfInBounds_toArray, List.set_cons_zero, List.set_cons_succ, i64_w, i32_w]
      rfl
    refine pure_ (i := 10) (N := some 10) (v := ?_) (a' := ?_) #[true, true, true, true, true, true, true, true, true, true, true] rfl rfl (any_of HT_.out (by kernel_rfl)) (fun _ _ _ h => h) (Or.inl ⟨by rfl, ?_⟩) ?_ ?_
    rotate_left
    · intro w'
      go_simp
      with_reducible rfl
    rotate_left
    · simp only [Act.put, List.setIfInBounds_toArray, List.set_cons_zero, List.set_cons_succ, i64_w, i32_w]
      rfl
    refine done_ (done_of HT_.out (by kernel_rfl)) ?_
    try go_wp2
    go_loopg [9, 10, 11] k (fun kq v9 v10 v11 w' => ∃ (x9_1 : List (S38)) (x10_1 : Int) (x11_1 : Int), v10 = .int .i64 x10_1 ∧ v11 = .int .i64 x11_1 ∧ Aside0 (phaetonlaw12_RouteEnds.l0 kq t306 t305 (Go.bits .and .i64 a1_0 3) t321 x9_1 x10_1 x11_1 = some r) ∧ Aside0 (kq ≤ k) ∧ Aside0 (Kd.R k45 45 w' w.heap.size (fun _ => True) (.slice Ao20 t306.length co20) t306) ∧ Aside0 (Kd.N k38 38 w' w.heap.size (fun k_ => some k_ ≠ ((.slice Ao20 t306.length co20) : Value).ownBlock ∧ some k_ ≠ (v9 : Value).ownBlock ∧ k_ ≠ gb304 ∧ k_ ≠ gb316) v322 t321) ∧ Aside0 (Kd.N k38 38 w' w.heap.size (fun k_ => some k_ ≠ ((.slice Ao20 t306.length co20) : Value).ownBlock ∧ some k_ ≠ (v322 : Value).ownBlock ∧ k_ ≠ gb304 ∧ k_ ≠ gb316) v9 x9_1) ∧ Aside0 (Kd.R (Kd.int .u8) 5 w' w.heap.size (fun _ => True) (.slice Ao18 t313.length co18) t313) ∧ Aside0 (w'.heap[gb304]? = some (.cells #[.int .i64 a1_0, .bool a1_1, .int .i64 a1_2, .bool a1_3, .int .i64 a1_4, (.slice A1_5 l1_5.length c1_5)] 27 (0, 0))) ∧ Aside0 (w'.heap[gb316]? = some (.cells #[.bool t309, .int .i64 t310, .bool t311, .int .i64 t312, (.slice Ao18 t313.length co18)] 25 (0, 0))) ∧ Aside0 (Below w.heap.size w w'))
    case atStart => exact ⟨(t324), (0), (0), (by first | rfl | (simp; done) | (simp [*]; done)), (by first | rfl | (simp; done) | (simp [*]; done)), H', ⟨Nat.le_refl _⟩, ⟨by (with_reducible repeat (first | apply Kd.R_alloc | apply Kd.R_drewN | apply Kd.R_drew)); exact HO308.out⟩, ⟨by (with_reducible repeat (first | apply Kd.N_alloc | apply Kd.N_drewN | apply Kd.N_drew)); exact Kd.N_mono HO323.out (fun _ hk => ⟨hk.1.1, ⟨hk.2, ⟨hk.1.2.1, hk.1.2.2⟩⟩⟩)⟩, ⟨by (with_reducible repeat (first | apply Kd.N_alloc | apply Kd.N_drewN | apply Kd.N_drew)); exact HO326.out⟩, ⟨by (with_reducible repeat (first | apply Kd.R_alloc | apply Kd.R_drewN | apply Kd.R_drew)); exact HO315.out⟩, ⟨by (with_reducible repeat (first | refine blk_drewN ?_ _ | refine blk_drew ?_ | refine blk_alloc ?_ _)); exact BK304.out⟩, ⟨by (with_reducible repeat (first | refine blk_drewN ?_ _ | refine blk_drew ?_ | refine blk_alloc ?_ _)); exact BK316.out⟩, ⟨by repeat (first | (with_reducible first | exact HB.out | apply below_alloc | apply pw_below_drewN | apply below_drew1 | refine below_set ?_ GE304.out | refine below_set ?_ GE316.out) | exact HB.out)⟩⟩
    case round =>
      clear H'
      try clear c1
      try clear c2
      try clear p2
      try clear c4
      try clear c7
      try clear c10
      try clear c11
      try clear c14
      try clear c16
      try clear c18
      try clear c20
      try clear hcz13_0
      try clear hcz13_1
      try clear hcz13_2
      try clear hcz13_3
      try clear hcz13_4
      try clear hcz13_5
      try clear hcz17_0
      try clear hcz17_1
      try clear hcz17_2
      try clear hcz17_3
      try clear hcz17_4
      try clear hcz19_0
      try clear hcz19_1
      try clear hcz19_2
      try clear hcz19_3
      try clear hcz19_4
      try clear hcz19_5
      try clear hfz13_0
      try clear hfz13_1
      try clear hfz13_2
      try clear hfz13_3
      try clear hfz13_4
      try clear hfz13_5
      try clear hfz17_0
      try clear hfz17_1
      try clear hfz17_2
      try clear hfz17_3
      try clear hfz17_4
      try clear hfz19_0
      try clear hfz19_1
      try clear hfz19_2
      try clear hfz19_3
      try clear hfz19_4
      try clear hfz19_5
      obtain ⟨x9_1, x10_1, x11_1, rfl, rfl, HA, HK1, HO_0, HO_8, HO_9, HO_317004, BK304, BK316, HB⟩ := hrel
      cases gk with
      | zero => exact absurd HA.out (by simp [phaetonlaw12_RouteEnds.l0])
      | succ k1 =>
        have H := HA.out
        clear HA
        simp only [phaetonlaw12_RouteEnds.l0] at H
        have HC25 := Aside0.mk H
        clear H
        go_upto_region 9 with (fail)
        go_cut [49] (fun v49 wc => ∃ (kq : Nat) (x49_24 : Bool), v49 = .bool x49_24 ∧ Aside0 (phaetonlaw12_RouteEnds.j1 kq t306 t305 (Go.bits .and .i64 a1_0 3) t321 x9_1 x10_1 x11_1 x49_24 = some r) ∧ Aside0 (kq ≤ k1) ∧ Aside0 (Kd.R k45 45 wc w.heap.size (fun _ => True) (.slice Ao20 t306.length co20) t306) ∧ Aside0 (Kd.N k38 38 wc w.heap.size (fun k_ => some k_ ≠ ((.slice Ao20 t306.length co20) : Value).ownBlock ∧ some k_ ≠ (u9 : Value).ownBlock ∧ k_ ≠ gb304 ∧ k_ ≠ gb316) v322 t321) ∧ Aside0 (Kd.N k38 38 wc w.heap.size (fun k_ => some k_ ≠ ((.slice Ao20 t306.length co20) : Value).ownBlock ∧ some k_ ≠ (v322 : Value).ownBlock ∧ k_ ≠ gb304 ∧ k_ ≠ gb316) u9 x9_1) ∧ Aside0 (Kd.R (Kd.int .u8) 5 wc w.heap.size (fun _ => True) (.slice Ao18 t313.length co18) t313) ∧ Aside0 (wc.heap[gb304]? = some (.cells #[.int .i64 a1_0, .bool a1_1, .int .i64 a1_2, .bool a1_3, .int .i64 a1_4, (.slice A1_5 l1_5.length c1_5)] 27 (0, 0))) ∧ Aside0 (wc.heap[gb316]? = some (.cells #[.bool t309, .int .i64 t310, .bool t311, .int .i64 t312, (.slice Ao18 t313.length co18)] 25 (0, 0))) ∧ Aside0 (Below w.heap.size w wc))
        case first =>
          have H := HC25.out
          clear HC25
          by_cases c26 : x11_1 < 3
          · rw [if_pos c26] at H
            have c26b0 : decide (x11_1 < 3) = true := decide_eq_true c26
            clear c26
            (first | rw [c26b0] | (simp only [i64_w, i32_w]; rw [c26b0]) | skip)
            have H' := Aside0.mk H
            clear H
            obtain ⟨Ao27, co27, eo27⟩ := Kd.N_slice HO_9.out
            subst eo27
            go_wp2
            go_meet
            case rel => exact ⟨_, (decide ((x9_1.length : Int) < 2000)), (by first | rfl | (simp; done) | (simp [*]; done)), H', ⟨by have := HK1.out; first | omega | exact Nat.le_refl _⟩, ⟨by (with_reducible repeat (first | apply Kd.R_alloc | apply Kd.R_drewN | apply Kd.R_drew)); exact HO_0.out⟩, ⟨by (with_reducible repeat (first | apply Kd.N_alloc | apply Kd.N_drewN | apply Kd.N_drew)); exact HO_8.out⟩, ⟨by (with_reducible repeat (first | apply Kd.N_alloc | apply Kd.N_drewN | apply Kd.N_drew)); exact HO_9.out⟩, ⟨by (with_reducible repeat (first | apply Kd.R_alloc | apply Kd.R_drewN | apply Kd.R_drew)); exact HO_317004.out⟩, ⟨by (with_reducible repeat (first | refine blk_drewN ?_ _ | refine blk_drew ?_ | refine blk_alloc ?_ _)); exact BK304.out⟩, ⟨by (with_reducible repeat (first | refine blk_drewN ?_ _ | refine blk_drew ?_ | refine blk_alloc ?_ _)); exact BK316.out⟩, ⟨by repeat (first | (with_reducible first | exact HB.out | apply below_alloc | apply pw_below_drewN | apply below_drew1 | refine below_set ?_ GE304.out | refine below_set ?_ GE316.out) | exact HB.out)⟩⟩
          · rw [if_neg c26] at H
            have c26b0 : decide (x11_1 < 3) = false := decide_eq_false c26
            clear c26
            (first | rw [c26b0] | (simp only [i64_w, i32_w]; rw [c26b0]) | skip)
            have H' := Aside0.mk H
            clear H
            go_wp2
            go_meet
            case rel => exact ⟨_, (false), (by first | rfl | (simp; done) | (simp [*]; done)), H', ⟨by have := HK1.out; first | omega | exact Nat.le_refl _⟩, ⟨by (with_reducible repeat (first | apply Kd.R_alloc | apply Kd.R_drewN | apply Kd.R_drew)); exact HO_0.out⟩, ⟨by (with_reducible repeat (first | apply Kd.N_alloc | apply Kd.N_drewN | apply Kd.N_drew)); exact HO_8.out⟩, ⟨by (with_reducible repeat (first | apply Kd.N_alloc | apply Kd.N_drewN | apply Kd.N_drew)); exact HO_9.out⟩, ⟨by (with_reducible repeat (first | apply Kd.R_alloc | apply Kd.R_drewN | apply Kd.R_drew)); exact HO_317004.out⟩, ⟨by (with_reducible repeat (first | refine blk_drewN ?_ _ | refine blk_drew ?_ | refine blk_alloc ?_ _)); exact BK304.out⟩, ⟨by (with_reducible repeat (first | refine blk_drewN ?_ _ | refine blk_drew ?_ | refine blk_alloc ?_ _)); exact BK316.out⟩, ⟨by repeat (first | (with_reducible first | exact HB.out | apply below_alloc | apply pw_below_drewN | apply below_drew1 | refine below_set ?_ GE304.out | refine below_set ?_ GE316.out) | exact HB.out)⟩⟩
        case rest =>
          clear HC25
          try clear c1
          try clear c2
          try clear p2
          try clear c4
          try clear c7
          try clear c10
          try clear c11
          try clear c14
          try clear c16
          try clear c18
          try clear c20
          try clear c26
          try clear c26b0
          try clear hcz13_0
          try clear hcz13_1
          try clear hcz13_2
          try clear hcz13_3
          try clear hcz13_4
          try clear hcz13_5
          try clear hcz17_0
          try clear hcz17_1
          try clear hcz17_2
          try clear hcz17_3
          try clear hcz17_4
          try clear hcz19_0
          try clear hcz19_1
          try clear hcz19_2
          try clear hcz19_3
          try clear hcz19_4
          try clear hcz19_5
          try clear hfz13_0
          try clear hfz13_1
          try clear hfz13_2
          try clear hfz13_3
          try clear hfz13_4
          try clear hfz13_5
          try clear hfz17_0
          try clear hfz17_1
          try clear hfz17_2
          try clear hfz17_3
          try clear hfz17_4
          try clear hfz19_0
          try clear hfz19_1
          try clear hfz19_2
          try clear hfz19_3
          try clear hfz19_4
          try clear hfz19_5
          try clear p2
          obtain ⟨kq, x49_24, rfl, HA, HJ24, HO_0, HO_8, HO_9, HO_317004, BK304, BK316, HB⟩ := hcut
          cases kq with
          | zero => exact absurd HA.out (by simp [phaetonlaw12_RouteEnds.j1])
          | succ kj24 =>
            have H := HA.out
            clear HA
            simp only [phaetonlaw12_RouteEnds.j1] at H
            by_cases c28 : x49_24 = true
            · subst c28
              have H1 : (phaetonlaw12_RouteEnds.l1 kj24 t306 t305 (Go.bits .and .i64 a1_0 3) t321 x9_1 (wrap64 (x10_1 + (x9_1.length : Int))) x11_1 (([] : List (S38))) 0) = some r := by rw [if_pos rfl] at H; exact H
              clear H
              have H := H1
              clear H1
              obtain ⟨y327, hy327⟩ : ∃ y_ : List (S38), y_ = (([] : List (S38))) := ⟨_, rfl⟩
              replace H : (phaetonlaw12_RouteEnds.l1 kj24 t306 t305 (Go.bits .and .i64 a1_0 3) t321 x9_1 (wrap64 (x10_1 + (x9_1.length : Int))) x11_1 y327 0) = some r := by first | (rw [hy327]; with_reducible exact H) | (have H2_ := (Option.bind_some _ _).symm.trans H; rw [hy327]; with_reducible exact H2_) | (have H2_ := (Option.bind_some _ _).symm.trans H; with_reducible exact H2_) | with_reducible exact H | (rw [hy327]; exact H) | exact H
              have Ny327 := Aside0.mk hy327
              clear hy327
              have H' := Aside0.mk H
              clear H
              obtain ⟨Ao29, co29, eo29⟩ := Kd.N_slice HO_9.out
              subst eo29
              go_wp2_with (first | ((with_reducible refine gate_dst (N := 56) rfl ?_); (try (refine gate_guard (by rfl) ?_; dsimp only)); refine Kd.N_lit k38 _ 38 ?hg (N' := 56) ?hd (xs := ([] : List (S38))) (inner := []) (ok := (fun k_ => some k_ ≠ (.slice Ao20 t306.length co20 : Value).ownBlock ∧ some k_ ≠ (v322 : Value).ownBlock ∧ some k_ ≠ (.slice Ao29 x9_1.length co29 : Value).ownBlock ∧ some k_ ≠ (.slice Ao18 t313.length co18 : Value).ownBlock ∧ k_ ≠ gb304 ∧ k_ ≠ gb316)) (okp := (fun k_ => some k_ ≠ (.slice Ao20 t306.length co20 : Value).ownBlock ∧ some k_ ≠ (v322 : Value).ownBlock ∧ some k_ ≠ (.slice Ao29 x9_1.length co29 : Value).ownBlock ∧ some k_ ≠ (.slice Ao18 t313.length co18 : Value).ownBlock ∧ k_ ≠ gb304 ∧ k_ ≠ gb316)) ?hr ?hp (fun _ hk => hk) ((show ∀ k_, wc.heap.size ≤ k_ → (fun k_ => some k_ ≠ (.slice Ao20 t306.length co20 : Value).ownBlock ∧ some k_ ≠ (v322 : Value).ownBlock ∧ some k_ ≠ (.slice Ao29 x9_1.length co29 : Value).ownBlock ∧ some k_ ≠ (.slice Ao18 t313.length co18 : Value).ownBlock ∧ k_ ≠ gb304 ∧ k_ ≠ gb316) k_ from fun k_ hk => ⟨Kd.fresh' (Kd.R_lt (by (with_reducible repeat (first | apply Kd.R_alloc | apply Kd.R_drewN | apply Kd.R_drew)); exact HO_0.out)) k_ hk, Kd.fresh' (Kd.N_lt (by (with_reducible repeat (first | apply Kd.N_alloc | apply Kd.N_drewN | apply Kd.N_drew)); exact HO_8.out)) k_ hk, Kd.fresh' (Kd.N_lt (by (with_reducible repeat (first | apply Kd.N_alloc | apply Kd.N_drewN | apply Kd.N_drew)); exact HO_9.out)) k_ hk, Kd.fresh' (Kd.R_lt (by (with_reducible repeat (first | apply Kd.R_alloc | apply Kd.R_drewN | apply Kd.R_drew)); exact HO_317004.out)) k_ hk, Kd.freshB (g := gb304) (o := .cells #[.int .i64 a1_0, .bool a1_1, .int .i64 a1_2, .bool a1_3, .int .i64 a1_4, .slice A1_5 l1_5.length c1_5] 27 (0, 0)) (by (with_reducible repeat (first | refine blk_drewN ?_ _ | refine blk_drew ?_ | refine blk_alloc ?_ _)); exact BK304.out) k_ hk, Kd.freshB (g := gb316) (o := .cells #[.bool t309, .int .i64 t310, .bool t311, .int .i64 t312, .slice Ao18 t313.length co18] 25 (0, 0)) (by (with_reducible repeat (first | refine blk_drewN ?_ _ | refine blk_drew ?_ | refine blk_alloc ?_ _)); exact BK316.out) k_ hk⟩) _ (Nat.le_refl _)) (Below.refl _ _) (Nat.le_refl _) (by simp) ?_; (case hd => rfl); (case hg => rfl); (case hr => first | (go_simp; done) | (go_simp; rfl)); (case hp => exact (Reps.none _ _)); intro v328 w30 ho31 hb hg_ hnew_; clear hg_ hnew_; (first | rw [← Ny327.out] at ho31 | (simp only [Int.reduceToNat] at ho31; rw [← Ny327.out] at ho31)); have n0_ := Aside0.mk (Kd.R_below (by (with_reducible repeat (first | apply Kd.R_alloc | apply Kd.R_drewN | apply Kd.R_drew)); exact HO_0.out) hb); have n1_ := Aside0.mk (Kd.N_elder' (by (with_reducible repeat (first | apply Kd.N_alloc | apply Kd.N_drewN | apply Kd.N_drew)); exact HO_8.out) (Kd.N_base ho31) hb); have n2_ := Aside0.mk (Kd.N_elder' (by (with_reducible repeat (first | apply Kd.N_alloc | apply Kd.N_drewN | apply Kd.N_drew)); exact HO_9.out) (Kd.N_base ho31) hb); have n3_ := Aside0.mk (Kd.R_below (by (with_reducible repeat (first | apply Kd.R_alloc | apply Kd.R_drewN | apply Kd.R_drew)); exact HO_317004.out) hb); have n4_ := Aside0.mk (Kd.N_lower ho31 (below_size (by repeat (first | (with_reducible first | exact HB.out | apply below_alloc | apply pw_below_drewN | apply below_drew1 | refine below_set ?_ GE304.out | refine below_set ?_ GE316.out) | exact HB.out)))); have n5_ := Aside0.mk (blk_below (g := gb304) (o := .cells #[.int .i64 a1_0, .bool a1_1, .int .i64 a1_2, .bool a1_3, .int .i64 a1_4, .slice A1_5 l1_5.length c1_5] 27 (0, 0)) (by (with_reducible repeat (first | refine blk_drewN ?_ _ | refine blk_drew ?_ | refine blk_alloc ?_ _)); exact BK304.out) hb); have n6_ := Aside0.mk (blk_below (g := gb316) (o := .cells #[.bool t309, .int .i64 t310, .bool t311, .int .i64 t312, .slice Ao18 t313.length co18] 25 (0, 0)) (by (with_reducible repeat (first | refine blk_drewN ?_ _ | refine blk_drew ?_ | refine blk_alloc ?_ _)); exact BK316.out) hb); have n7_ := Aside0.mk (below_step (by repeat (first | (with_reducible first | exact HB.out | apply below_alloc | apply pw_below_drewN | apply below_drew1 | refine below_set ?_ GE304.out | refine below_set ?_ GE316.out) | exact HB.out)) hb); clear HO_0; clear HO_8; clear HO_9; clear HO_317004; clear BK304; clear BK316; clear HB; have HO_0 := n0_; have HO_8 := n1_; have HO_9 := n2_; have HO_317004 := n3_; have HO329 := n4_; have BK304 := n5_; have BK316 := n6_; have HB := n7_; clear n0_ n1_ n2_ n3_ n4_ n5_ n6_ n7_; clear hb ho31))
              go_loopg [12, 13] kj24 (fun kq v12 v13 w' => ∃ (x12_3 : List (S38)) (x13_3 : Int), v13 = .int .i64 x13_3 ∧ Aside0 (phaetonlaw12_RouteEnds.l1 kq t306 t305 (Go.bits .and .i64 a1_0 3) t321 x9_1 (wrap64 (x10_1 + (x9_1.length : Int))) x11_1 x12_3 x13_3 = some r) ∧ Aside0 (kq ≤ kj24) ∧ Aside0 (Kd.R k45 45 w' w.heap.size (fun _ => True) (.slice Ao20 t306.length co20) t306) ∧ Aside0 (Kd.N k38 38 w' w.heap.size (fun k_ => some k_ ≠ ((.slice Ao20 t306.length co20) : Value).ownBlock ∧ some k_ ≠ ((.slice Ao29 x9_1.length co29) : Value).ownBlock ∧ some k_ ≠ (v12 : Value).ownBlock ∧ k_ ≠ gb304 ∧ k_ ≠ gb316) v322 t321) ∧ Aside0 (Kd.N k38 38 w' w.heap.size (fun k_ => some k_ ≠ ((.slice Ao20 t306.length co20) : Value).ownBlock ∧ some k_ ≠ (v322 : Value).ownBlock ∧ some k_ ≠ (v12 : Value).ownBlock ∧ k_ ≠ gb304 ∧ k_ ≠ gb316) (.slice Ao29 x9_1.length co29) x9_1) ∧ Aside0 (Kd.N k38 38 w' w.heap.size (fun k_ => some k_ ≠ ((.slice Ao20 t306.length co20) : Value).ownBlock ∧ some k_ ≠ (v322 : Value).ownBlock ∧ some k_ ≠ ((.slice Ao29 x9_1.length co29) : Value).ownBlock ∧ k_ ≠ gb304 ∧ k_ ≠ gb316) v12 x12_3) ∧ Aside0 (Kd.R (Kd.int .u8) 5 w' w.heap.size (fun _ => True) (.slice Ao18 t313.length co18) t313) ∧ Aside0 (w'.heap[gb304]? = some (.cells #[.int .i64 a1_0, .bool a1_1, .int .i64 a1_2, .bool a1_3, .int .i64 a1_4, (.slice A1_5 l1_5.length c1_5)] 27 (0, 0))) ∧ Aside0 (w'.heap[gb316]? = some (.cells #[.bool t309, .int .i64 t310, .bool t311, .int .i64 t312, (.slice Ao18 t313.length co18)] 25 (0, 0))) ∧ Aside0 (Below w.heap.size w w'))
              case atStart => exact ⟨(y327), (0), (by first | rfl | (simp; done) | (simp [*]; done)), H', ⟨Nat.le_refl _⟩, ⟨by (with_reducible repeat (first | apply Kd.R_alloc | apply Kd.R_drewN | apply Kd.R_drew)); exact HO_0.out⟩, ⟨by (with_reducible repeat (first | apply Kd.N_alloc | apply Kd.N_drewN | apply Kd.N_drew)); exact Kd.N_mono HO_8.out (fun _ hk => ⟨hk.1.1, ⟨hk.1.2.1, ⟨hk.2, ⟨hk.1.2.2.1, hk.1.2.2.2⟩⟩⟩⟩)⟩, ⟨by (with_reducible repeat (first | apply Kd.N_alloc | apply Kd.N_drewN | apply Kd.N_drew)); exact Kd.N_mono HO_9.out (fun _ hk => ⟨hk.1.1, ⟨hk.1.2.1, ⟨hk.2, ⟨hk.1.2.2.1, hk.1.2.2.2⟩⟩⟩⟩)⟩, ⟨by (with_reducible repeat (first | apply Kd.N_alloc | apply Kd.N_drewN | apply Kd.N_drew)); exact Kd.N_mono HO329.out (fun _ hk => ⟨hk.1, ⟨hk.2.1, ⟨hk.2.2.1, ⟨hk.2.2.2.2.1, hk.2.2.2.2.2⟩⟩⟩⟩)⟩, ⟨by (with_reducible repeat (first | apply Kd.R_alloc | apply Kd.R_drewN | apply Kd.R_drew)); exact HO_317004.out⟩, ⟨by (with_reducible repeat (first | refine blk_drewN ?_ _ | refine blk_drew ?_ | refine blk_alloc ?_ _)); exact BK304.out⟩, ⟨by (with_reducible repeat (first | refine blk_drewN ?_ _ | refine blk_drew ?_ | refine blk_alloc ?_ _)); exact BK316.out⟩, ⟨by repeat (first | (with_reducible first | exact HB.out | apply below_alloc | apply pw_below_drewN | apply below_drew1 | refine below_set ?_ GE304.out | refine below_set ?_ GE316.out) | exact HB.out)⟩⟩
              case round =>
                clear H'
                try clear c1
                try clear c2
                try clear p2
                try clear c4
                try clear p6
                try clear c7
                try clear c10
                try clear c11
                try clear c14
                try clear c16
                try clear c18
                try clear c20
                try clear c26
                try clear c26b0
                try clear c28
                try clear hcz13_0
                try clear hcz13_1
                try clear hcz13_2
                try clear hcz13_3
                try clear hcz13_4
                try clear hcz13_5
                try clear hcz17_0
                try clear hcz17_1
                try clear hcz17_2
                try clear hcz17_3
                try clear hcz17_4
                try clear hcz19_0
                try clear hcz19_1
                try clear hcz19_2
                try clear hcz19_3
                try clear hcz19_4
                try clear hcz19_5
                try clear hfz13_0
                try clear hfz13_1
                try clear hfz13_2
                try clear hfz13_3
                try clear hfz13_4
                try clear hfz13_5
                try clear hfz17_0
                try clear hfz17_1
                try clear hfz17_2
                try clear hfz17_3
                try clear hfz17_4
                try clear hfz19_0
                try clear hfz19_1
                try clear hfz19_2
                try clear hfz19_3
                try clear hfz19_4
                try clear hfz19_5
                try clear p2
                obtain ⟨x12_3, x13_3, rfl, HA, HK3, HO_0, HO_8, HO_9, HO_12, HO_317004, BK304, BK316, HB⟩ := hrel
                cases gk with
                | zero => exact absurd HA.out (by simp [phaetonlaw12_RouteEnds.l1])
                | succ k3 =>
                  have H := HA.out
                  clear HA
                  simp only [phaetonlaw12_RouteEnds.l1] at H
                  by_cases c32 : x13_3 < (x9_1.length : Int)
                  · rw [if_pos c32] at H
                    have c32b0 : decide (x13_3 < (x9_1.length : Int)) = true := decide_eq_true c32
                    clear c32
                    by_cases c33 : 0 ≤ x13_3
                    · rw [if_pos c33] at H
                      have c33b0 : decide (0 ≤ x13_3) = true := decide_eq_true c33
                      clear c33
                      by_cases c34 : ((rd_T38 x9_1 x13_3).f0) = (Go.bits .and .i64 a1_0 3)
                      · rw [if_pos c34] at H
                        exact absurd H (by simp)
                      · rw [if_neg c34] at H
                        have c34b0 : (((rd_T38 x9_1 x13_3).f0) == (Go.bits .and .i64 a1_0 3)) = false := beq_eq_false_iff_ne.mpr c34
                        have c34b1 : (((rd_T38 x9_1 x13_3).f0) != (Go.bits .and .i64 a1_0 3)) = true := bne_iff_ne.mpr c34
                        replace H := Option.bind_eq_some_iff.mp H
                        obtain ⟨t333, A350, H⟩ := H
                        replace H : (if x12_3.length + t333.length < 2199023255552 then (phaetonlaw12_RouteEnds.l1 k3 t306 t305 (Go.bits .and .i64 a1_0 3) t321 x9_1 (wrap64 (x10_1 + (x9_1.length : Int))) x11_1 (x12_3 ++ t333) (wrap64 (x13_3 + 1))) else (none)) = some r := H
                        have A35 := Aside0.mk A350
                        clear A350
                        by_cases c36 : x12_3.length + t333.length < 2199023255552
                        · rw [if_pos c36] at H
                          have LMc36 := Aside0.mk c36
                          clear c36
                          obtain ⟨y336, hy336⟩ : ∃ y_ : List (S38), y_ = (x12_3 ++ t333) := ⟨_, rfl⟩
                          replace H : (phaetonlaw12_RouteEnds.l1 k3 t306 t305 (Go.bits .and .i64 a1_0 3) t321 x9_1 (wrap64 (x10_1 + (x9_1.length : Int))) x11_1 y336 (wrap64 (x13_3 + 1))) = some r := by first | (rw [hy336]; with_reducible exact H) | (have H2_ := (Option.bind_some _ _).symm.trans H; rw [hy336]; with_reducible exact H2_) | (have H2_ := (Option.bind_some _ _).symm.trans H; with_reducible exact H2_) | with_reducible exact H | (rw [hy336]; exact H) | exact H
                          have Ny336 := Aside0.mk hy336
                          clear hy336
                          have H' := Aside0.mk H
                          clear H
                          have p330 : 0 ≤ (x13_3 : Int) := of_decide_eq_true (by first | (with_reducible assumption) | assumption)
                          have q330 : x13_3 < (x9_1.length : Int) := of_decide_eq_true (by first | (with_reducible assumption) | assumption)
                          obtain ⟨ad330, A330_5, c330_5, e330, hx330_0, hx330_1, hx330_2, hx330_3, hx330_4, hx330_5, hl330_5, hi330_5⟩ := at_T38 (Kd.N_reads' HO_9.out).2.2 x13_3 p330 q330
                          cases e330
                          obtain ⟨ce330, hce330, hMe330, hcc330⟩ := Kd.N_get HO_9.out z38 x13_3 p330 (by first | exact q330 | exact of_decide_eq_true (by first | (with_reducible assumption) | assumption) | (have e_ := (Kd.N_reads' HO_9.out).1; omega))
                          obtain ⟨ua330_5, uc330_5, rfl, ul330_5, ge330_5⟩ := k38_openF hMe330
                          have hv330_5 := hcc330 5 _ rfl
                          rw [add_field _ _ 5 (by omega)] at hv330_5
                          replace hv330_5 := Option.some.inj (hv330_5.symm.trans hx330_5)
                          injection hv330_5 with hva_ hvn_ hvc_
                          rw [hva_] at ge330_5
                          rw [hvc_] at ul330_5
                          have HL330_5 := Aside0.mk (show Kd.V (Kd.int .u8) 5 _ w.heap.size _ _ ((rd_T38 x9_1 x13_3).f1.f4) from Kd.V_mk ul330_5 ge330_5)
                          clear hva_ hvn_ hvc_ ge330_5 ul330_5
                          clear hcc330 hce330
                          have HR330_5 := Aside0.mk hi330_5
                          have HC330_5 := Aside0.mk hl330_5
                          clear hi330_5 hl330_5
                          replace p330 := eq_true p330
                          replace q330 := eq_true q330
                          try go_wp2
                          have n0_ := Aside0.mk (Kd.R_drew HO_0.out)
                          have n1_ := Aside0.mk (Kd.N_drew HO_8.out)
                          have n2_ := Aside0.mk (Kd.N_drew HO_9.out)
                          have n3_ := Aside0.mk (Kd.N_drew HO_12.out)
                          have n4_ := Aside0.mk (Kd.R_drew HO_317004.out)
                          have n5_ := Aside0.mk (Kd.V_drew HL330_5.out)
                          have n6_ := Aside0.mk (blk_drew BK304.out)
                          have n7_ := Aside0.mk (blk_drew BK316.out)
                          have n8_ := Aside0.mk (Kd.C_drew HR330_5.out)
                          have n9_ := Aside0.mk (below_drew1 HB.out)
                          clear HO_0
                          clear HO_8
                          clear HO_9
                          clear HO_12
                          clear HO_317004
                          clear HL330_5
                          clear BK304
                          clear BK316
                          clear HR330_5
                          clear HB
                          have HO_0 := n0_
                          have HO_8 := n1_
                          have HO_9 := n2_
                          have HO_12 := n3_
                          have HO_317004 := n4_
                          have HL330_5 := n5_
                          have BK304 := n6_
                          have BK316 := n7_
                          have HR330_5 := n8_
                          have HB := n9_
                          clear n0_ n1_ n2_ n3_ n4_ n5_ n6_ n7_ n8_ n9_
                          have p331 : 0 ≤ (x13_3 : Int) := of_decide_eq_true (by first | (with_reducible assumption) | assumption)
                          have q331 : x13_3 < (x9_1.length : Int) := of_decide_eq_true (by first | (with_reducible assumption) | assumption)
                          obtain ⟨ad331, A331_5, c331_5, e331, hx331_0, hx331_1, hx331_2, hx331_3, hx331_4, hx331_5, hl331_5, hi331_5⟩ := at_T38 (Kd.N_reads' HO_9.out).2.2 x13_3 p331 q331
                          obtain rfl : ad330 = ad331 := (by injection e331)
                          obtain ⟨ce331, hce331, hMe331, hcc331⟩ := Kd.N_get HO_9.out z38 x13_3 p331 (by first | exact q331 | exact of_decide_eq_true (by first | (with_reducible assumption) | assumption) | (have e_ := (Kd.N_reads' HO_9.out).1; omega))
                          obtain ⟨ua331_5, uc331_5, rfl, ul331_5, ge331_5⟩ := k38_openF hMe331
                          have hv331_5 := hcc331 5 _ rfl
                          rw [add_field _ _ 5 (by omega)] at hv331_5
                          replace hv331_5 := Option.some.inj (hv331_5.symm.trans hx331_5)
                          injection hv331_5 with hva_ hvn_ hvc_
                          rw [hva_] at ge331_5
                          rw [hvc_] at ul331_5
                          have HL331_5 := Aside0.mk (show Kd.V (Kd.int .u8) 5 _ w.heap.size _ _ ((rd_T38 x9_1 x13_3).f1.f4) from Kd.V_mk ul331_5 ge331_5)
                          clear hva_ hvn_ hvc_ ge331_5 ul331_5
                          clear hcc331 hce331
                          have HR331_5 := Aside0.mk hi331_5
                          have HC331_5 := Aside0.mk hl331_5
                          clear hi331_5 hl331_5
                          replace p331 := eq_true p331
                          replace q331 := eq_true q331
                          have p332 : 0 ≤ (x13_3 : Int) := of_decide_eq_true (by first | (with_reducible assumption) | assumption)
                          have q332 : x13_3 < (x9_1.length : Int) := of_decide_eq_true (by first | (with_reducible assumption) | assumption)
                          obtain ⟨ad332, A332_5, c332_5, e332, hx332_0, hx332_1, hx332_2, hx332_3, hx332_4, hx332_5, hl332_5, hi332_5⟩ := at_T38 (Kd.N_reads' HO_9.out).2.2 x13_3 p332 q332
                          obtain rfl : ad330 = ad332 := (by injection e332)
                          obtain ⟨ce332, hce332, hMe332, hcc332⟩ := Kd.N_get HO_9.out z38 x13_3 p332 (by first | exact q332 | exact of_decide_eq_true (by first | (with_reducible assumption) | assumption) | (have e_ := (Kd.N_reads' HO_9.out).1; omega))
                          obtain ⟨ua332_5, uc332_5, rfl, ul332_5, ge332_5⟩ := k38_openF hMe332
                          have hv332_5 := hcc332 5 _ rfl
                          rw [add_field _ _ 5 (by omega)] at hv332_5
                          replace hv332_5 := Option.some.inj (hv332_5.symm.trans hx332_5)
                          injection hv332_5 with hva_ hvn_ hvc_
                          rw [hva_] at ge332_5
                          rw [hvc_] at ul332_5
                          have HL332_5 := Aside0.mk (show Kd.V (Kd.int .u8) 5 _ w.heap.size _ _ ((rd_T38 x9_1 x13_3).f1.f4) from Kd.V_mk ul332_5 ge332_5)
                          clear hva_ hvn_ hvc_ ge332_5 ul332_5
                          clear hcc332 hce332
                          have HR332_5 := Aside0.mk hi332_5
                          have HC332_5 := Aside0.mk hl332_5
                          clear hi332_5 hl332_5
                          replace p332 := eq_true p332
                          replace q332 := eq_true q332
                          have ea_ := Option.some.inj (hx331_5.symm.trans hx332_5)
                          injection ea_ with ea_ en_ ec_
                          subst ea_
                          subst ec_
                          clear en_
                          refine start_ (n := 15) (S := fun w' => w'.cell? (ad330.add ((x13_3).toNat * 6)) = some (.int .i64 ((rd_T38 x9_1 x13_3).f0)) ∧ w'.cell? ⟨(ad330.add ((x13_3).toNat * 6)).block, (ad330.add ((x13_3).toNat * 6)).off + 1, none⟩ = some (.bool ((rd_T38 x9_1 x13_3).f1.f0)) ∧ w'.cell? ⟨(ad330.add ((x13_3).toNat * 6)).block, (ad330.add ((x13_3).toNat * 6)).off + 2, none⟩ = some (.int .i64 ((rd_T38 x9_1 x13_3).f1.f1)) ∧ w'.cell? ⟨(ad330.add ((x13_3).toNat * 6)).block, (ad330.add ((x13_3).toNat * 6)).off + 3, none⟩ = some (.bool ((rd_T38 x9_1 x13_3).f1.f2)) ∧ w'.cell? ⟨(ad330.add ((x13_3).toNat * 6)).block, (ad330.add ((x13_3).toNat * 6)).off + 4, none⟩ = some (.int .i64 ((rd_T38 x9_1 x13_3).f1.f3)) ∧ w'.cell? ⟨(ad330.add ((x13_3).toNat * 6)).block, (ad330.add ((x13_3).toNat * 6)).off + 5, none⟩ = some (.slice A331_5 ((rd_T38 x9_1 x13_3).f1.f4).length c331_5) ∧ w'.cell? (ad330.add ((x13_3).toNat * 6)) = some (.int .i64 ((rd_T38 x9_1 x13_3).f0)) ∧ w'.cell? ⟨(ad330.add ((x13_3).toNat * 6)).block, (ad330.add ((x13_3).toNat * 6)).off + 1, none⟩ = some (.bool ((rd_T38 x9_1 x13_3).f1.f0)) ∧ w'.cell? ⟨(ad330.add ((x13_3).toNat * 6)).block, (ad330.add ((x13_3).toNat * 6)).off + 2, none⟩ = some (.int .i64 ((rd_T38 x9_1 x13_3).f1.f1)) ∧ w'.cell? ⟨(ad330.add ((x13_3).toNat * 6)).block, (ad330.add ((x13_3).toNat * 6)).off + 3, none⟩ = some (.bool ((rd_T38 x9_1 x13_3).f1.f2)) ∧ w'.cell? ⟨(ad330.add ((x13_3).toNat * 6)).block, (ad330.add ((x13_3).toNat * 6)).off + 4, none⟩ = some (.int .i64 ((rd_T38 x9_1 x13_3).f1.f3)) ∧ w'.cell? ⟨(ad330.add ((x13_3).toNat * 6)).block, (ad330.add ((x13_3).toNat * 6)).off + 5, none⟩ = some (.slice A331_5 ((rd_T38 x9_1 x13_3).f1.f4).length c331_5)) (ds := [13]) #[false, false, false, false, false, false, false, false, false, false, false, false, false, false, false] (by kernel_rfl) rfl rfl ⟨hx331_0, hx331_1, hx331_2, hx331_3, hx331_4, hx331_5, hx332_0, hx332_1, hx332_2, hx332_3, hx332_4, hx332_5⟩ (fun hHeld => ?_); refine with_tabW phaetonlaw12_RouteEnds.tab18 phaetonlaw12_RouteEnds.bits18 (fun HT_ HW_ => ?_)
                          generalize wr.drew = w37 at HO_0 HO_8 HO_9 HO_12 HO_317004 HL330_5 BK304 BK316 HR330_5 HB HL331_5 HL332_5 HR331_5 HR332_5 hx331_0 hx331_1 hx331_2 hx331_3 hx331_4 hx331_5 hx332_0 hx332_1 hx332_2 hx332_3 hx332_4 hx332_5 hHeld ⊢
                          refine pure_ (i := 0) (N := some 70) (v := ?_) (a' := ?_) #[true, false, false, false, false, false, false, false, false, false, false, false, false, false, false] rfl rfl (any_of HT_.out (by kernel_rfl)) (fun _ _ _ h => h) (Or.inl ⟨by rfl, ?_⟩) ?_ ?_
                          rotate_left
                          · intro w'
                            go_simp
                            with_reducible rfl
                          rotate_left
                          · simp only [Act.put, List.setIfInBounds_toArray, List.set_cons_zero, List.set_cons_succ, i64_w, i32_w]
                            rfl
                          refine pure_ (i := 1) (N := some 71) (v := ?_) (a' := ?_) #[true, true, false, false, false, false, false, false, false, false, false, false, false, false, false] rfl rfl (any_of HT_.out (by kernel_rfl)) (fun _ _ _ h => h) (Or.inl ⟨by rfl, ?_⟩) ?_ ?_
                          rotate_left
                          · intro w'
                            go_simp
                            with_reducible rfl
                          rotate_left
                          · simp only [Act.put, List.setIfInBounds_toArray, List.set_cons_zero, List.set_cons_succ, i64_w, i32_w]
                            rfl
                          refine pure_ (i := 2) (N := some 72) (v := ?_) (a' := ?_) #[true, true, true, false, false, false, false, false, false, false, false, false, false, false, false] rfl rfl (any_of HT_.out (by kernel_rfl)) (fun _ _ _ h => h) (Or.inl ⟨by rfl, ?_⟩) ?_ ?_
                          rotate_left
                          · intro w'
                            go_simp
                            with_reducible rfl
                          rotate_left
                          · simp only [Act.put, List.setIfInBounds_toArray, List.set_cons_zero, List.set_cons_succ, i64_w, i32_w]
                            rfl
                          refine pure_ (i := 3) (N := some 73) (v := ?_) (a' := ?_) #[true, true, true, true, false, false, false, false, false, false, false, false, false, false, false] rfl rfl (any_of HT_.out (by kernel_rfl)) (fun _ _ _ h => h) (Or.inl ⟨by rfl, ?_⟩) ?_ ?_
                          rotate_left
                          · intro w'
                            go_simp
                            with_reducible rfl
                          rotate_left
                          · simp only [Act.put, List.setIfInBounds_toArray, List.set_cons_zero, List.set_cons_succ, i64_w, i32_w]
                            rfl
                          refine pure_ (i := 4) (N := some 74) (v := ?_) (a' := ?_) #[true, true, true, true, true, false, false, false, false, false, false, false, false, false, false] rfl rfl (any_of HT_.out (by kernel_rfl)) (fun _ _ _ h => h) (Or.inl ⟨by rfl, ?_⟩) ?_ ?_
                          rotate_left
                          · intro w'
                            go_simp
                            with_reducible rfl
                          rotate_left
                          · simp only [Act.put, List.setIfInBounds_toArray, List.set_cons_zero, List.set_cons_succ, i64_w, i32_w]
                            rfl
                          refine pure_ (i := 5) (N := some 75) (v := ?_) (a' := ?_) #[true, true, true, true, true, true, false, false, false, false, false, false, false, false, false] rfl rfl (any_of HT_.out (by kernel_rfl)) (fun _ _ _ h => h) (Or.inl ⟨by rfl, ?_⟩) ?_ ?_
                          rotate_left
                          · intro w'
                            go_simp
                            with_reducible rfl
                          rotate_left
                          · simp only [Act.put, List.setIfInBounds_toArray, List.set_cons_zero, List.set_cons_succ, i64_w, i32_w]
                            rfl
                          refine pure_ (i := 7) (N := some 77) (v := ?_) (a' := ?_) #[true, true, true, true, true, true, false, true, false, false, false, false, false, false, false] rfl rfl (any_of HT_.out (by kernel_rfl)) (fun _ _ _ h => h) (Or.inl ⟨by rfl, ?_⟩) ?_ ?_
                          rotate_left
                          · intro w'
                            go_simp
                            with_reducible rfl
                          rotate_left
                          · simp only [Act.put, List.setIfInBounds_toArray, List.set_cons_zero, List.set_cons_succ, i64_w, i32_w]
                            rfl
                          refine pure_ (i := 8) (N := some 78) (v := ?_) (a' := ?_) #[true, true, true, true, true, true, false, true, true, false, false, false, false, false, false] rfl rfl (any_of HT_.out (by kernel_rfl)) (fun _ _ _ h => h) (Or.inl ⟨by rfl, ?_⟩) ?_ ?_
                          rotate_left
                          · intro w'
                            go_simp
                            with_reducible rfl
                          rotate_left
                          · simp only [Act.put, List.setIfInBounds_toArray, List.set_cons_zero, List.set_cons_succ, i64_w, i32_w]
                            rfl
                          refine pure_ (i := 9) (N := some 79) (v := ?_) (a' := ?_) #[true, true, true, true, true, true, false, true, true, true, false, false, false, false, false] rfl rfl (any_of HT_.out (by kernel_rfl)) (fun _ _ _ h => h) (Or.inl ⟨by rfl, ?_⟩) ?_ ?_
                          rotate_left
                          · intro w'
                            go_simp
                            with_reducible rfl
                          rotate_left
                          · simp only [Act.put, List.setIfInBounds_toArray, List.set_cons_zero, List.set_cons_succ, i64_w, i32_w]
                            rfl
                          refine pure_ (i := 10) (N := some 80) (v := ?_) (a' := ?_) #[true, true, true, true, true, true, false, true, true, true, true, false, false, false, false] rfl rfl (any_of HT_.out (by kernel_rfl)) (fun _ _ _ h => h) (Or.inl ⟨by rfl, ?_⟩) ?_ ?_
                          rotate_left
                          · intro w'
                            go_simp
                            with_reducible rfl
                          rotate_left
                          · simp only [Act.put, List.setIfInBounds_toArray, List.set_cons_zero, List.set_cons_succ, i64_w, i32_w]
                            rfl
                          refine take_ (i := 6) (N := some 76) (v := ?_) (a' := ?_) #[true, true, true, true, true, true, true, true, true, true, true, false, false, false, false] rfl rfl (take_ofW HT_.out HW_.out (by kernel_rfl)) (fun _ _ _ h => h) (Or.inl ⟨by rfl, ?_⟩) hHeld ?_ ?_
                          rotate_left
                          · rintro w' ⟨s0, s1, s2, s3, s4, s5, s6, s7, s8, s9, s10, s11⟩
                            go_simp
                            with_reducible rfl
                          rotate_left
                          · simp only [Act.put, List.setIfInBounds_toArray, List.set_cons_zero, List.set_cons_succ, i64_w, i32_w]
                            rfl
                          refine take_ (i := 11) (N := some 81) (v := ?_) (a' := ?_) #[true, true, true, true, true, true, true, true, true, true, true, true, false, false, false] rfl rfl (take_ofW HT_.out HW_.out (by kernel_rfl)) (fun _ _ _ h => h) (Or.inl ⟨by rfl, ?_⟩) hHeld ?_ ?_
                          rotate_left
                          · rintro w' ⟨s0, s1, s2, s3, s4, s5, s6, s7, s8, s9, s10, s11⟩
                            go_simp
                            with_reducible rfl
                          rotate_left
                          · simp only [Act.put, List.setIfInBounds_toArray, List.set_cons_zero, List.set_cons_succ, i64_w, i32_w]
                            rfl
                          refine one_ (i := 12) (N := some 82) #[true, true, true, true, true, true, true, true, true, true, true, true, true, false, false] rfl rfl (one_of HT_.out (by kernel_rfl)) (by decide) (fun K hK => ?_)
                          refine goes_ Try.func18 (by kernel_rfl) rfl #[.slice Ao20 t306.length co20, .int .i64 ((rd_T38 x9_1 x13_3).f0), .agg #[.bool ((rd_T38 x9_1 x13_3).f1.f0), .int .i64 ((rd_T38 x9_1 x13_3).f1.f1), .bool ((rd_T38 x9_1 x13_3).f1.f2), .int .i64 ((rd_T38 x9_1 x13_3).f1.f3), .slice A331_5 ((rd_T38 x9_1 x13_3).f1.f4).length c331_5]] (by rfl) rfl rfl (by (try simp only [List.map_toArray, List.map_cons, List.map_nil]); first | done | rfl | (simp only [List.length_drop, List.length_take]; rfl)) ?_
                          with_reducible refine (route_Hops.calls k3 _ _ t306 ((rd_T38 x9_1 x13_3).f0) ((rd_T38 x9_1 x13_3).f1.f0) ((rd_T38 x9_1 x13_3).f1.f1) ((rd_T38 x9_1 x13_3).f1.f2) ((rd_T38 x9_1 x13_3).f1.f3) (fun k_ => ((some k_ ≠ (.slice Ao20 t306.length co20 : Value).ownBlock ∧ (some k_ ≠ (v322 : Value).ownBlock ∧ (some k_ ≠ (u12 : Value).ownBlock ∧ (k_ ≠ gb304 ∧ k_ ≠ gb316)))) ∧ some k_ ≠ (.slice (some ad330) x9_1.length co29 : Value).ownBlock)) _ _ ((rd_T38 x9_1 x13_3).f1.f4) t333 _ ?side1 ?side2 ?side3 A35.out).mono ?_
                          (case side1 => repeat (first | exact (Kd.R_reads' HO_0.out).2.2 | (with_reducible refine Kd.C_alloc ?_ _) | (with_reducible refine Kd.C_drewN ?_ _) | (with_reducible refine Kd.C_drew ?_)))
                          (case side2 => exact (Kd.R_reads' HO_0.out).2.1)
                          (case side3 => exact HL332_5.out)
                          rintro e w38 ⟨v334, rfl, ho0, hb⟩
                          have HS0_ := (hb.cell (World.block_lt_of_cell? _ _ (hHeld.1))).trans (hHeld.1)
                          have HS1_ := (hb.cell (World.block_lt_of_cell? _ _ (hHeld.2.1))).trans (hHeld.2.1)
                          have HS2_ := (hb.cell (World.block_lt_of_cell? _ _ (hHeld.2.2.1))).trans (hHeld.2.2.1)
                          have HS3_ := (hb.cell (World.block_lt_of_cell? _ _ (hHeld.2.2.2.1))).trans (hHeld.2.2.2.1)
                          have HS4_ := (hb.cell (World.block_lt_of_cell? _ _ (hHeld.2.2.2.2.1))).trans (hHeld.2.2.2.2.1)
                          have HS5_ := (hb.cell (World.block_lt_of_cell? _ _ (hHeld.2.2.2.2.2.1))).trans (hHeld.2.2.2.2.2.1)
                          have HS6_ := (hb.cell (World.block_lt_of_cell? _ _ (hHeld.2.2.2.2.2.2.1))).trans (hHeld.2.2.2.2.2.2.1)
                          have HS7_ := (hb.cell (World.block_lt_of_cell? _ _ (hHeld.2.2.2.2.2.2.2.1))).trans (hHeld.2.2.2.2.2.2.2.1)
                          have HS8_ := (hb.cell (World.block_lt_of_cell? _ _ (hHeld.2.2.2.2.2.2.2.2.1))).trans (hHeld.2.2.2.2.2.2.2.2.1)
                          have HS9_ := (hb.cell (World.block_lt_of_cell? _ _ (hHeld.2.2.2.2.2.2.2.2.2.1))).trans (hHeld.2.2.2.2.2.2.2.2.2.1)
                          have HS10_ := (hb.cell (World.block_lt_of_cell? _ _ (hHeld.2.2.2.2.2.2.2.2.2.2.1))).trans (hHeld.2.2.2.2.2.2.2.2.2.2.1)
                          have HS11_ := (hb.cell (World.block_lt_of_cell? _ _ (hHeld.2.2.2.2.2.2.2.2.2.2.2))).trans (hHeld.2.2.2.2.2.2.2.2.2.2.2)
                          refine ⟨_, rfl, ?_⟩
                          have n0_ := Aside0.mk (Kd.R_below (by (with_reducible repeat (first | apply Kd.R_alloc | apply Kd.R_drewN | apply Kd.R_drew)); exact HO_0.out) hb)
                          have n1_ := Aside0.mk (Kd.N_elder' (by (with_reducible repeat (first | apply Kd.N_alloc | apply Kd.N_drewN | apply Kd.N_drew)); exact HO_8.out) (Kd.N_base ho0) hb)
                          have n2_ := Aside0.mk (Kd.N_elder' (by (with_reducible repeat (first | apply Kd.N_alloc | apply Kd.N_drewN | apply Kd.N_drew)); exact HO_9.out) (Kd.N_base ho0) hb)
                          have n3_ := Aside0.mk (Kd.N_elder' (by (with_reducible repeat (first | apply Kd.N_alloc | apply Kd.N_drewN | apply Kd.N_drew)); exact HO_12.out) (Kd.N_base ho0) hb)
                          have n4_ := Aside0.mk (Kd.R_below (by (with_reducible repeat (first | apply Kd.R_alloc | apply Kd.R_drewN | apply Kd.R_drew)); exact HO_317004.out) hb)
                          have n5_ := Aside0.mk (Kd.V_elder' (by (with_reducible repeat (first | apply Kd.V_alloc | apply Kd.V_drewN | apply Kd.V_drew)); exact HL330_5.out) (Kd.N_base ho0) hb)
                          have n6_ := Aside0.mk (Kd.V_elder' (by (with_reducible repeat (first | apply Kd.V_alloc | apply Kd.V_drewN | apply Kd.V_drew)); exact HL331_5.out) (Kd.N_base ho0) hb)
                          have n7_ := Aside0.mk (Kd.V_elder' (by (with_reducible repeat (first | apply Kd.V_alloc | apply Kd.V_drewN | apply Kd.V_drew)); exact HL332_5.out) (Kd.N_base ho0) hb)
                          have n8_ := Aside0.mk (Kd.N_lower (Kd.N_mono (ok' := fun k_ => some k_ ≠ (.slice Ao20 t306.length co20 : Value).ownBlock ∧ some k_ ≠ (v322 : Value).ownBlock ∧ some k_ ≠ (.slice (some ad330) x9_1.length co29 : Value).ownBlock ∧ some k_ ≠ (u12 : Value).ownBlock ∧ k_ ≠ gb304 ∧ k_ ≠ gb316) ho0 (fun k_ hk_ => ⟨Or.elim hk_ (fun hs_ => hs_.1.1) (fun hn_ => (Kd.fresh' (Kd.R_lt (by (with_reducible repeat (first | apply Kd.R_alloc | apply Kd.R_drewN | apply Kd.R_drew)); exact HO_0.out)) k_ hn_)), Or.elim hk_ (fun hs_ => hs_.1.2.1) (fun hn_ => (Kd.fresh' (Kd.N_lt (by (with_reducible repeat (first | apply Kd.N_alloc | apply Kd.N_drewN | apply Kd.N_drew)); exact HO_8.out)) k_ hn_)), Or.elim hk_ (fun hs_ => hs_.2) (fun hn_ => (Kd.fresh' (Kd.N_lt (by (with_reducible repeat (first | apply Kd.N_alloc | apply Kd.N_drewN | apply Kd.N_drew)); exact HO_9.out)) k_ hn_)), Or.elim hk_ (fun hs_ => hs_.1.2.2.1) (fun hn_ => (Kd.fresh' (Kd.N_lt (by (with_reducible repeat (first | apply Kd.N_alloc | apply Kd.N_drewN | apply Kd.N_drew)); exact HO_12.out)) k_ hn_)), Or.elim hk_ (fun hs_ => hs_.1.2.2.2.1) (fun hn_ => (Kd.freshB (g := gb304) (o := .cells #[.int .i64 a1_0, .bool a1_1, .int .i64 a1_2, .bool a1_3, .int .i64 a1_4, .slice A1_5 l1_5.length c1_5] 27 (0, 0)) (by (with_reducible repeat (first | refine blk_drewN ?_ _ | refine blk_drew ?_ | refine blk_alloc ?_ _)); exact BK304.out) k_ hn_)), Or.elim hk_ (fun hs_ => hs_.1.2.2.2.2) (fun hn_ => (Kd.freshB (g := gb316) (o := .cells #[.bool t309, .int .i64 t310, .bool t311, .int .i64 t312, .slice Ao18 t313.length co18] 25 (0, 0)) (by (with_reducible repeat (first | refine blk_drewN ?_ _ | refine blk_drew ?_ | refine blk_alloc ?_ _)); exact BK316.out) k_ hn_))⟩)) (below_size (by repeat (first | (with_reducible first | exact HB.out | apply below_alloc | apply pw_below_drewN | apply below_drew1 | refine below_set ?_ GE304.out | refine below_set ?_ GE316.out) | exact HB.out))))
                          have n9_ := Aside0.mk (blk_below (g := gb304) (o := .cells #[.int .i64 a1_0, .bool a1_1, .int .i64 a1_2, .bool a1_3, .int .i64 a1_4, .slice A1_5 l1_5.length c1_5] 27 (0, 0)) (by (with_reducible repeat (first | refine blk_drewN ?_ _ | refine blk_drew ?_ | refine blk_alloc ?_ _)); exact BK304.out) hb)
                          have n10_ := Aside0.mk (blk_below (g := gb316) (o := .cells #[.bool t309, .int .i64 t310, .bool t311, .int .i64 t312, .slice Ao18 t313.length co18] 25 (0, 0)) (by (with_reducible repeat (first | refine blk_drewN ?_ _ | refine blk_drew ?_ | refine blk_alloc ?_ _)); exact BK316.out) hb)
                          have n11_ := Aside0.mk (Kd.C_below (by repeat (first | (with_reducible exact HR330_5.out) | (with_reducible refine Kd.C_alloc ?_ _) | (with_reducible refine Kd.C_drewN ?_ _) | (with_reducible refine Kd.C_drew ?_) | exact HR330_5.out)) hb)
                          have n12_ := Aside0.mk (Kd.C_below (by repeat (first | (with_reducible exact HR331_5.out) | (with_reducible refine Kd.C_alloc ?_ _) | (with_reducible refine Kd.C_drewN ?_ _) | (with_reducible refine Kd.C_drew ?_) | exact HR331_5.out)) hb)
                          have n13_ := Aside0.mk (Kd.C_below (by repeat (first | (with_reducible exact HR332_5.out) | (with_reducible refine Kd.C_alloc ?_ _) | (with_reducible refine Kd.C_drewN ?_ _) | (with_reducible refine Kd.C_drew ?_) | exact HR332_5.out)) hb)
                          have n14_ := Aside0.mk (below_step (by repeat (first | (with_reducible first | exact HB.out | apply below_alloc | apply pw_below_drewN | apply below_drew1 | refine below_set ?_ GE304.out | refine below_set ?_ GE316.out) | exact HB.out)) hb)
                          clear HO_0
                          clear HO_8
                          clear HO_9
                          clear HO_12
                          clear HO_317004
                          clear HL330_5
                          clear HL331_5
                          clear HL332_5
                          clear BK304
                          clear BK316
                          clear HR330_5
                          clear HR331_5
                          clear HR332_5
                          clear HB
                          have HO_0 := n0_
                          have HO_8 := n1_
                          have HO_9 := n2_
                          have HO_12 := n3_
                          have HO_317004 := n4_
                          have HL330_5 := n5_
                          have HL331_5 := n6_
                          have HL332_5 := n7_
                          have HO335 := n8_
                          have BK304 := n9_
                          have BK316 := n10_
                          have HR330_5 := n11_
                          have HR331_5 := n12_
                          have HR332_5 := n13_
                          have HB := n14_
                          clear n0_ n1_ n2_ n3_ n4_ n5_ n6_ n7_ n8_ n9_ n10_ n11_ n12_ n13_ n14_
                          (try clear hb)
                          (try clear hb2)
                          (try clear hk)
                          (try clear hi)
                          (try clear ho0)
                          obtain ⟨Ao40, co40, eo40⟩ := Kd.N_slice HO335.out
                          (first | subst eo40 | (injection eo40 with f1_ f2_ f3_; have f4_ := f1_.symm; have f5_ := f3_.symm; clear f1_ f2_ f3_; subst f4_; subst f5_))
                          refine hK.out _ _ ⟨HS0_, HS1_, HS2_, HS3_, HS4_, HS5_, HS6_, HS7_, HS8_, HS9_, HS10_, HS11_⟩ (fun hHeld => ?_)
                          clear hK K
                          refine norm_ (a' := ?_) ?_ ?_
                          rotate_left
                          · show Act.put _ (some 82) _ = _
                            simp only [Act.put, List.setIfInBounds_toArray, List.set_cons_zero, List.set_cons_succ, i64_w, i32_w]
                            rfl
                          refine last_ (i := 13) (N := some 83) #[true, true, true, true, true, true, true, true, true, true, true, true, true, true, false] rfl rfl (one_of HT_.out (by kernel_rfl)) (by decide) (fun K hK => ?_)
                          refine Kd.N_append_rows_step k38 (w0 := w) w.heap.size (by rfl) (.tmp 70) (.tmp 82) 33 38 (.agg #[(.int .i64 0), (.bool false), (.int .i64 0), (.bool false), (.int .i64 0), (.slice none 0 0)]) 64 rfl Try.underlying33 info38 rfl (by decide) (by omega) u12 x12_3 t333 _ _ _ (fun k_ => some k_ ≠ (.slice Ao20 t306.length co20 : Value).ownBlock ∧ some k_ ≠ (v322 : Value).ownBlock ∧ some k_ ≠ (.slice (some ad330) x9_1.length co29 : Value).ownBlock ∧ k_ ≠ gb304 ∧ k_ ≠ gb316) (fun k_ => ((fun k_ => some k_ ≠ (.slice Ao20 t306.length co20 : Value).ownBlock ∧ some k_ ≠ (v322 : Value).ownBlock ∧ some k_ ≠ (.slice (some ad330) x9_1.length co29 : Value).ownBlock ∧ k_ ≠ gb304 ∧ k_ ≠ gb316)) k_ ∧ some k_ ≠ (u12 : Value).ownBlock) rfl rfl ?aO ?aR (fun _ hk => hk) ?aF ?aB ?aS ?aL ?_
                          (case aR => exact (by skip; exact Kd.N_F (Kd.N_mono (ok' := (fun k_ => ((fun k_ => some k_ ≠ (.slice Ao20 t306.length co20 : Value).ownBlock ∧ some k_ ≠ (v322 : Value).ownBlock ∧ some k_ ≠ (.slice (some ad330) x9_1.length co29 : Value).ownBlock ∧ k_ ≠ gb304 ∧ k_ ≠ gb316)) k_ ∧ some k_ ≠ (u12 : Value).ownBlock)) (HO335.out) (fun k_ hk => ⟨⟨hk.1, ⟨hk.2.1, ⟨hk.2.2.1, ⟨hk.2.2.2.2.1, hk.2.2.2.2.2⟩⟩⟩⟩, hk.2.2.2.1⟩))))
                          (case aB => exact (by repeat (first | (with_reducible first | exact HB.out | apply below_alloc | apply pw_below_drewN | apply below_drew1 | refine below_set ?_ GE304.out | refine below_set ?_ GE316.out) | exact HB.out)))
                          (case aF => exact (fun k_ hk => ⟨Kd.fresh' (Kd.R_lt (by (with_reducible repeat (first | apply Kd.R_alloc | apply Kd.R_drewN | apply Kd.R_drew)); exact HO_0.out)) k_ hk, Kd.fresh' (Kd.N_lt (by (with_reducible repeat (first | apply Kd.N_alloc | apply Kd.N_drewN | apply Kd.N_drew)); exact HO_8.out)) k_ hk, Kd.fresh' (Kd.N_lt (by (with_reducible repeat (first | apply Kd.N_alloc | apply Kd.N_drewN | apply Kd.N_drew)); exact HO_9.out)) k_ hk, Kd.freshB (g := gb304) (o := .cells #[.int .i64 a1_0, .bool a1_1, .int .i64 a1_2, .bool a1_3, .int .i64 a1_4, .slice A1_5 l1_5.length c1_5] 27 (0, 0)) (by (with_reducible repeat (first | refine blk_drewN ?_ _ | refine blk_drew ?_ | refine blk_alloc ?_ _)); exact BK304.out) k_ hk, Kd.freshB (g := gb316) (o := .cells #[.bool t309, .int .i64 t310, .bool t311, .int .i64 t312, .slice Ao18 t313.length co18] 25 (0, 0)) (by (with_reducible repeat (first | refine blk_drewN ?_ _ | refine blk_drew ?_ | refine blk_alloc ?_ _)); exact BK316.out) k_ hk⟩))
                          (case aO => exact (by (with_reducible repeat (first | apply Kd.N_alloc | apply Kd.N_drewN | apply Kd.N_drew)); exact Kd.N_mono HO_12.out (fun _ hk => ⟨hk.1.1, ⟨hk.1.2.1, ⟨hk.1.2.2.1, ⟨hk.1.2.2.2.1, hk.1.2.2.2.2⟩⟩⟩⟩)))
                          (case aS => exact (below_size (by repeat (first | (with_reducible first | exact HB.out | apply below_alloc | apply pw_below_drewN | apply below_drew1 | refine below_set ?_ GE304.out | refine below_set ?_ GE316.out) | exact HB.out))))
                          (case aL => have := LMc36.out; omega)
                          intro v337 w39 ho hb hg hat
                          rw [← Ny336.out] at ho
                          have n0_ := Aside0.mk (Kd.R_over' (by (with_reducible repeat (first | apply Kd.R_alloc | apply Kd.R_drewN | apply Kd.R_drew)); exact HO_0.out) (Kd.N_typed (by (with_reducible repeat (first | apply Kd.N_alloc | apply Kd.N_drewN | apply Kd.N_drew)); exact HO_12.out)) (by decide) hg)
                          have n1_ := Aside0.mk (Kd.N_afterv (ok := (fun k_ => some k_ ≠ (.slice Ao20 t306.length co20 : Value).ownBlock ∧ some k_ ≠ (.slice (some ad330) x9_1.length co29 : Value).ownBlock ∧ some k_ ≠ (.slice Ao40 t333.length co40 : Value).ownBlock ∧ k_ ≠ gb304 ∧ k_ ≠ gb316)) (by (with_reducible repeat (first | apply Kd.N_alloc | apply Kd.N_drewN | apply Kd.N_drew)); exact Kd.N_mono HO_8.out (fun _ hk => ⟨⟨hk.1.1, ⟨hk.1.2.1, ⟨hk.2, ⟨hk.1.2.2.2.1, hk.1.2.2.2.2⟩⟩⟩⟩, hk.1.2.2.1⟩)) hg hat)
                          have n2_ := Aside0.mk (Kd.N_afterv (ok := (fun k_ => some k_ ≠ (.slice Ao20 t306.length co20 : Value).ownBlock ∧ some k_ ≠ (v322 : Value).ownBlock ∧ some k_ ≠ (.slice Ao40 t333.length co40 : Value).ownBlock ∧ k_ ≠ gb304 ∧ k_ ≠ gb316)) (by (with_reducible repeat (first | apply Kd.N_alloc | apply Kd.N_drewN | apply Kd.N_drew)); exact Kd.N_mono HO_9.out (fun _ hk => ⟨⟨hk.1.1, ⟨hk.1.2.1, ⟨hk.2, ⟨hk.1.2.2.2.1, hk.1.2.2.2.2⟩⟩⟩⟩, hk.1.2.2.1⟩)) hg hat)
                          have n3_ := Aside0.mk (Kd.R_over' (by (with_reducible repeat (first | apply Kd.R_alloc | apply Kd.R_drewN | apply Kd.R_drew)); exact HO_317004.out) (Kd.N_typed (by (with_reducible repeat (first | apply Kd.N_alloc | apply Kd.N_drewN | apply Kd.N_drew)); exact HO_12.out)) (by decide) hg)
                          have n4_ := Aside0.mk (blk_grown (g := gb304) (o := .cells #[.int .i64 a1_0, .bool a1_1, .int .i64 a1_2, .bool a1_3, .int .i64 a1_4, .slice A1_5 l1_5.length c1_5] 27 (0, 0)) (by (with_reducible repeat (first | refine blk_drewN ?_ _ | refine blk_drew ?_ | refine blk_alloc ?_ _)); exact BK304.out) hg (Kd.N_ne HO_12.out BK304.out (by decide)))
                          have n5_ := Aside0.mk (blk_grown (g := gb316) (o := .cells #[.bool t309, .int .i64 t310, .bool t311, .int .i64 t312, .slice Ao18 t313.length co18] 25 (0, 0)) (by (with_reducible repeat (first | refine blk_drewN ?_ _ | refine blk_drew ?_ | refine blk_alloc ?_ _)); exact BK316.out) hg (Kd.N_ne HO_12.out BK316.out (by decide)))
                          have n6_ := Aside0.mk (Kd.V_afterv (ok := (fun k_ => some k_ ≠ (.slice Ao20 t306.length co20 : Value).ownBlock ∧ some k_ ≠ (v322 : Value).ownBlock ∧ some k_ ≠ (.slice (some ad330) x9_1.length co29 : Value).ownBlock ∧ some k_ ≠ (.slice Ao40 t333.length co40 : Value).ownBlock ∧ k_ ≠ gb304 ∧ k_ ≠ gb316)) (by (with_reducible repeat (first | apply Kd.V_alloc | apply Kd.V_drewN | apply Kd.V_drew)); exact Kd.V_mono HL330_5.out (fun _ hk => ⟨⟨hk.1.1.1, ⟨hk.1.1.2.1, ⟨hk.1.2, ⟨hk.2, ⟨hk.1.1.2.2.2.1, hk.1.1.2.2.2.2⟩⟩⟩⟩⟩, hk.1.1.2.2.1⟩)) hg hat)
                          have n7_ := Aside0.mk (Kd.V_afterv (ok := (fun k_ => some k_ ≠ (.slice Ao20 t306.length co20 : Value).ownBlock ∧ some k_ ≠ (v322 : Value).ownBlock ∧ some k_ ≠ (.slice (some ad330) x9_1.length co29 : Value).ownBlock ∧ some k_ ≠ (.slice Ao40 t333.length co40 : Value).ownBlock ∧ k_ ≠ gb304 ∧ k_ ≠ gb316)) (by (with_reducible repeat (first | apply Kd.V_alloc | apply Kd.V_drewN | apply Kd.V_drew)); exact Kd.V_mono HL331_5.out (fun _ hk => ⟨⟨hk.1.1.1, ⟨hk.1.1.2.1, ⟨hk.1.2, ⟨hk.2, ⟨hk.1.1.2.2.2.1, hk.1.1.2.2.2.2⟩⟩⟩⟩⟩, hk.1.1.2.2.1⟩)) hg hat)
                          have n8_ := Aside0.mk (Kd.V_afterv (ok := (fun k_ => some k_ ≠ (.slice Ao20 t306.length co20 : Value).ownBlock ∧ some k_ ≠ (v322 : Value).ownBlock ∧ some k_ ≠ (.slice (some ad330) x9_1.length co29 : Value).ownBlock ∧ some k_ ≠ (.slice Ao40 t333.length co40 : Value).ownBlock ∧ k_ ≠ gb304 ∧ k_ ≠ gb316)) (by (with_reducible repeat (first | apply Kd.V_alloc | apply Kd.V_drewN | apply Kd.V_drew)); exact Kd.V_mono HL332_5.out (fun _ hk => ⟨⟨hk.1.1.1, ⟨hk.1.1.2.1, ⟨hk.1.2, ⟨hk.2, ⟨hk.1.1.2.2.2.1, hk.1.1.2.2.2.2⟩⟩⟩⟩⟩, hk.1.1.2.2.1⟩)) hg hat)
                          have n9_ := Aside0.mk (Kd.N_afterv (ok := (fun k_ => some k_ ≠ (.slice Ao20 t306.length co20 : Value).ownBlock ∧ some k_ ≠ (v322 : Value).ownBlock ∧ some k_ ≠ (.slice (some ad330) x9_1.length co29 : Value).ownBlock ∧ k_ ≠ gb304 ∧ k_ ≠ gb316)) (by (with_reducible repeat (first | apply Kd.N_alloc | apply Kd.N_drewN | apply Kd.N_drew)); exact Kd.N_mono HO335.out (fun _ hk => ⟨⟨hk.1, ⟨hk.2.1, ⟨hk.2.2.1, ⟨hk.2.2.2.2.1, hk.2.2.2.2.2⟩⟩⟩⟩, hk.2.2.2.1⟩)) hg hat)
                          have n10_ := Aside0.mk (hb)
                          have n11_ := Aside0.mk (ho)
                          clear HO_0
                          clear HO_8
                          clear HO_9
                          clear HO_317004
                          clear BK304
                          clear BK316
                          clear HL330_5
                          clear HL331_5
                          clear HL332_5
                          clear HO335
                          clear HB
                          clear HO_12
                          have HO_0 := n0_
                          have HO_8 := n1_
                          have HO_9 := n2_
                          have HO_317004 := n3_
                          have BK304 := n4_
                          have BK316 := n5_
                          have HL330_5 := n6_
                          have HL331_5 := n7_
                          have HL332_5 := n8_
                          have HO335 := n9_
                          have HB := n10_
                          have HO338 := n11_
                          clear n0_ n1_ n2_ n3_ n4_ n5_ n6_ n7_ n8_ n9_ n10_ n11_
                          clear ho hb hg hat
                          refine hK.out _ _ ?_
                          clear hK K
                          refine norm_ (a' := ?_) ?_ ?_
                          rotate_left
                          · show Act.put _ (some 83) _ = _
                            simp only [Act.put, List.setIfInBounds_toArray, List.set_cons_zero, List.set_cons_succ, i64_w, i32_w]
                            rfl
                          refine pure_ (i := 14) (N := some 12) (v := ?_) (a' := ?_) #[true, true, true, true, true, true, true, true, true, true, true, true, true, true, true] rfl rfl (any_of HT_.out (by kernel_rfl)) (fun _ _ _ h => h) (Or.inl ⟨by rfl, ?_⟩) ?_ ?_
                          rotate_left
                          · intro w'
                            go_simp
                            with_reducible rfl
                          rotate_left
                          · simp only [Act.put, List.setIfInBounds_toArray, List.set_cons_zero, List.set_cons_succ, i64_w, i32_w]
                            rfl
                          refine done_ (done_of HT_.out (by kernel_rfl)) ?_
                          try go_wp2
                          go_roundg k3
                          case measure => have := HK1.out; have := HJ24.out; have := HK3.out; omega
                          case rel => exact ⟨(y336), (wrap64 (x13_3 + 1)), (by first | rfl | (simp; done) | (simp [*]; done)), H', ⟨by have := HK1.out; have := HJ24.out; have := HK3.out; omega⟩, ⟨by (with_reducible repeat (first | apply Kd.R_alloc | apply Kd.R_drewN | apply Kd.R_drew)); exact HO_0.out⟩, ⟨by (with_reducible repeat (first | apply Kd.N_alloc | apply Kd.N_drewN | apply Kd.N_drew)); exact Kd.N_mono HO_8.out (fun _ hk => ⟨hk.1.1, ⟨hk.1.2.1, ⟨hk.2, ⟨hk.1.2.2.2.1, hk.1.2.2.2.2⟩⟩⟩⟩)⟩, ⟨by (with_reducible repeat (first | apply Kd.N_alloc | apply Kd.N_drewN | apply Kd.N_drew)); exact Kd.N_mono HO_9.out (fun _ hk => ⟨hk.1.1, ⟨hk.1.2.1, ⟨hk.2, ⟨hk.1.2.2.2.1, hk.1.2.2.2.2⟩⟩⟩⟩)⟩, ⟨by (with_reducible repeat (first | apply Kd.N_alloc | apply Kd.N_drewN | apply Kd.N_drew)); exact HO338.out⟩, ⟨by (with_reducible repeat (first | apply Kd.R_alloc | apply Kd.R_drewN | apply Kd.R_drew)); exact HO_317004.out⟩, ⟨by (with_reducible repeat (first | refine blk_drewN ?_ _ | refine blk_drew ?_ | refine blk_alloc ?_ _)); exact BK304.out⟩, ⟨by (with_reducible repeat (first | refine blk_drewN ?_ _ | refine blk_drew ?_ | refine blk_alloc ?_ _)); exact BK316.out⟩, ⟨by repeat (first | (with_reducible first | exact HB.out | apply below_alloc | apply pw_below_drewN | apply below_drew1 | refine below_set ?_ GE304.out | refine below_set ?_ GE316.out) | exact HB.out)⟩⟩
                        · rw [if_neg c36] at H
                          exact absurd H (by simp)
                    · rw [if_neg c33] at H
                      exact absurd H (by simp)
                  · rw [if_neg c32] at H
                    have c32b0 : decide (x13_3 < (x9_1.length : Int)) = false := decide_eq_false c32
                    clear c32
                    have H' := Aside0.mk H
                    clear H
                    go_wp2
                    go_roundg k3
                    case measure => have := HK1.out; have := HJ24.out; have := HK3.out; omega
                    case rel => exact ⟨(x12_3), ((wrap64 (x10_1 + (x9_1.length : Int)))), (wrap64 (x11_1 + 1)), (by first | rfl | (simp; done) | (simp [*]; done)), (by first | rfl | (simp; done) | (simp [*]; done)), H', ⟨by have := HK1.out; have := HJ24.out; have := HK3.out; omega⟩, ⟨by (with_reducible repeat (first | apply Kd.R_alloc | apply Kd.R_drewN | apply Kd.R_drew)); exact HO_0.out⟩, ⟨by (with_reducible repeat (first | apply Kd.N_alloc | apply Kd.N_drewN | apply Kd.N_drew)); exact Kd.N_mono HO_8.out (fun _ hk => ⟨hk.1, ⟨hk.2.2.1, ⟨hk.2.2.2.1, hk.2.2.2.2⟩⟩⟩)⟩, ⟨by (with_reducible repeat (first | apply Kd.N_alloc | apply Kd.N_drewN | apply Kd.N_drew)); exact Kd.N_mono HO_12.out (fun _ hk => ⟨hk.1, ⟨hk.2.1, ⟨hk.2.2.2.1, hk.2.2.2.2⟩⟩⟩)⟩, ⟨by (with_reducible repeat (first | apply Kd.R_alloc | apply Kd.R_drewN | apply Kd.R_drew)); exact HO_317004.out⟩, ⟨by (with_reducible repeat (first | refine blk_drewN ?_ _ | refine blk_drew ?_ | refine blk_alloc ?_ _)); exact BK304.out⟩, ⟨by (with_reducible repeat (first | refine blk_drewN ?_ _ | refine blk_drew ?_ | refine blk_alloc ?_ _)); exact BK316.out⟩, ⟨by repeat (first | (with_reducible first | exact HB.out | apply below_alloc | apply pw_below_drewN | apply below_drew1 | refine below_set ?_ GE304.out | refine below_set ?_ GE316.out) | exact HB.out)⟩⟩
            · replace c28 := Bool.eq_false_iff.mpr c28
              subst c28
              have H1 : (if (x9_1.length : Int) = 0 then (if x10_1 = (t321.length : Int) then (some t305) else (none)) else (none)) = some r := by rw [if_neg (show ¬ (false = true) by decide)] at H; exact H
              clear H
              have H := H1
              clear H1
              by_cases c41 : (x9_1.length : Int) = 0
              · rw [if_pos c41] at H
                have c41b0 : ((x9_1.length : Int) == 0) = true := beq_iff_eq.mpr c41
                have c41b1 : ((x9_1.length : Int) != 0) = false := bne_eq_false_iff_eq.mpr c41
                clear c41
                by_cases c42 : x10_1 = (t321.length : Int)
                · rw [if_pos c42] at H
                  have c42b0 : (x10_1 == (t321.length : Int)) = true := beq_iff_eq.mpr c42
                  have c42b1 : (x10_1 != (t321.length : Int)) = false := bne_eq_false_iff_eq.mpr c42
                  clear c42
                  obtain rfl := Option.some.inj H
                  obtain ⟨Ao43, co43, eo43⟩ := Kd.N_slice HO_9.out
                  subst eo43
                  obtain ⟨Ao44, co44, eo44⟩ := Kd.N_slice HO_8.out
                  subst eo44
                  go_wp2
                  go_ret
                  exact ⟨by first | rfl | (simp [errW_none, errW_some] <;> rfl) | (simp [*, errW_none, errW_some] <;> rfl), by repeat (first | (with_reducible first | exact HB.out | apply below_alloc | apply pw_below_drewN | apply below_drew1 | refine below_set ?_ GE304.out | refine below_set ?_ GE316.out) | exact HB.out)⟩
                · rw [if_neg c42] at H
                  exact absurd H (by simp)
              · rw [if_neg c41] at H
                exact absurd H (by simp)
  · replace c7 := Bool.eq_false_iff.mpr c7
    subst c7
    have H1 : ((route_Reach.f k t306 4 (Go.bits .and .i64 a1_0 3) t309 t310 t311 t312 t313).bind fun t318 => (if (t318.length : Int) = 0 then (some t305) else (none))) = some r := by rw [if_neg (show ¬ (false = true) by decide)] at H; exact H
    clear H
    have H := H1
    clear H1
    replace H := Option.bind_eq_some_iff.mp H
    obtain ⟨t318, A450, H⟩ := H
    replace H : (if (t318.length : Int) = 0 then (some t305) else (none)) = some r := H
    have A45 := Aside0.mk A450
    clear A450
    by_cases c46 : (t318.length : Int) = 0
    · rw [if_pos c46] at H
      have c46b0 : ((t318.length : Int) == 0) = true := beq_iff_eq.mpr c46
      have c46b1 : ((t318.length : Int) != 0) = false := bne_eq_false_iff_eq.mpr c46
      clear c46
      obtain rfl := Option.some.inj H
      go_enter Try.func4, Try.ntmps4
      go_wp2_with (first | ((with_reducible refine gate_dst (N := 3) rfl ?_); (try (refine gate_guard (by rfl) ?_; dsimp only)); refine box_event ?hg (N := 3) ?hd (cs := #[.int .i64 a1_0, .bool a1_1, .int .i64 a1_2, .bool a1_3, .int .i64 a1_4, .slice A1_5 l1_5.length c1_5]) (t := 27) ?hr ?_; (case hd => rfl); (case hg => rfl); (case hr => first | (go_simp; done) | (go_simp; rfl)); intro gb304 hg w47 hbox hb; have n0_ := Aside0.mk (below_step (by repeat (first | (with_reducible first | exact HB.out | apply below_alloc | apply pw_below_drewN | apply below_drew1) | exact HB.out)) hb); have n1_ := Aside0.mk (hbox); have n2_ := Aside0.mk ((by rw [hg]; exact (below_size (by repeat (first | (with_reducible first | exact HB.out | apply below_alloc | apply pw_below_drewN | apply below_drew1) | exact HB.out))) : w.heap.size ≤ gb304)); have n3_ := Aside0.mk ((by rw [hg]; exact (below_size (by repeat (first | (with_reducible first | exact HB.out | apply below_alloc | apply pw_below_drewN | apply below_drew1) | exact HB.out))) : w.heap.size ≤ gb304)); clear HB; have HB := n0_; have BK304 := n1_; have GW304 := n2_; have GE304 := n3_; clear n0_ n1_ n2_ n3_; clear hb hbox hg) | ((with_reducible refine gate_callee (f := 10) rfl ?_); refine goesL_ (some 14) rfl rfl Try.func10 (by kernel_rfl) rfl #[] rfl (by (try simp only [List.map_toArray, List.map_cons, List.map_nil]); first | done | rfl | (simp only [List.length_drop, List.length_take]; rfl)) ?_; (with_reducible refine (phaetonlaw12_head.calls k  t305 _ A3.out).mono ?_); rintro e w48 ⟨rfl, hb⟩; refine ⟨_, rfl, ?_⟩; have n0_ := Aside0.mk (blk_below (g := gb304) (o := .cells #[.int .i64 a1_0, .bool a1_1, .int .i64 a1_2, .bool a1_3, .int .i64 a1_4, .slice A1_5 l1_5.length c1_5] 27 (0, 0)) (by (with_reducible repeat (first | refine blk_drewN ?_ _ | refine blk_drew ?_ | refine blk_alloc ?_ _)); exact BK304.out) hb); have n1_ := Aside0.mk (below_step (by repeat (first | (with_reducible first | exact HB.out | apply below_alloc | apply pw_below_drewN | apply below_drew1 | refine below_set ?_ GE304.out) | exact HB.out)) hb); clear BK304; clear HB; have BK304 := n0_; have HB := n1_; clear n0_ n1_; (try clear hb); (try clear hb2); (try clear hk); (try clear hi)) | ((with_reducible refine gate_callee (f := 16) rfl ?_); refine goesL_ (some 16) rfl rfl Try.func16 (by kernel_rfl) rfl #[.slice A0 l0.length c0, .int .i64 10] rfl (by (try simp only [List.map_toArray, List.map_cons, List.map_nil]); first | done | rfl | (simp only [List.length_drop, List.length_take]; rfl)) ?_; (with_reducible refine (phaetonlaw12_Cut.calls k _ _ l0 10 t306 _ ?side1 ?side2 A4.out).mono ?_); (case side1 => repeat (first | exact (Kd.C_below HR0.out HB.out) | (with_reducible refine Kd.C_alloc ?_ _) | (with_reducible refine Kd.C_drewN ?_ _) | (with_reducible refine Kd.C_drew ?_))); (case side2 => exact HC0.out); rintro e w49 ⟨v307, rfl, ho0, hb⟩; refine ⟨_, rfl, ?_⟩; have n0_ := Aside0.mk (Kd.R_lower ho0 (below_size (by repeat (first | (with_reducible first | exact HB.out | apply below_alloc | apply pw_below_drewN | apply below_drew1 | refine below_set ?_ GE304.out) | exact HB.out)))); have n1_ := Aside0.mk (blk_below (g := gb304) (o := .cells #[.int .i64 a1_0, .bool a1_1, .int .i64 a1_2, .bool a1_3, .int .i64 a1_4, .slice A1_5 l1_5.length c1_5] 27 (0, 0)) (by (with_reducible repeat (first | refine blk_drewN ?_ _ | refine blk_drew ?_ | refine blk_alloc ?_ _)); exact BK304.out) hb); have n2_ := Aside0.mk (below_step (by repeat (first | (with_reducible first | exact HB.out | apply below_alloc | apply pw_below_drewN | apply below_drew1 | refine below_set ?_ GE304.out) | exact HB.out)) hb); clear BK304; clear HB; have HO308 := n0_; have BK304 := n1_; have HB := n2_; clear n0_ n1_ n2_; (try clear hb); (try clear hb2); (try clear hk); (try clear hi); (try clear ho0); have hcz50_0 : w49.cell? ⟨gb304, 0, none⟩ = some (.int .i64 a1_0) := (blk_cell BK304.out 0).trans rfl; have hcz50_1 : w49.cell? ⟨gb304, 1, none⟩ = some (.bool a1_1) := (blk_cell BK304.out 1).trans rfl; have hcz50_2 : w49.cell? ⟨gb304, 2, none⟩ = some (.int .i64 a1_2) := (blk_cell BK304.out 2).trans rfl; have hcz50_3 : w49.cell? ⟨gb304, 3, none⟩ = some (.bool a1_3) := (blk_cell BK304.out 3).trans rfl; have hcz50_4 : w49.cell? ⟨gb304, 4, none⟩ = some (.int .i64 a1_4) := (blk_cell BK304.out 4).trans rfl; have hcz50_5 : w49.cell? ⟨gb304, 5, none⟩ = some (.slice A1_5 l1_5.length c1_5) := (blk_cell BK304.out 5).trans rfl; have hfz50_0 := blk_frozen BK304.out 0; have hfz50_1 := blk_frozen BK304.out 1; have hfz50_2 := blk_frozen BK304.out 2; have hfz50_3 := blk_frozen BK304.out 3; have hfz50_4 := blk_frozen BK304.out 4; have hfz50_5 := blk_frozen BK304.out 5) | ((with_reducible refine gate_callee (f := 11) rfl ?_); refine goesL_ (some 19) rfl rfl Try.func11 (by kernel_rfl) rfl #[.agg #[.bool a1_1, .int .i64 a1_2, .bool a1_3, .int .i64 a1_4, .slice A1_5 l1_5.length c1_5]] rfl (by (try simp only [List.map_toArray, List.map_cons, List.map_nil]); first | done | rfl | (simp only [List.length_drop, List.length_take]; rfl)) ?_; (with_reducible refine (phaetonref06_Made.calls a1_1 a1_2 a1_3 a1_4 _ _ l1_5 t309 t310 t311 t312 t313 _ ?side1 ?side2 A5.out).mono ?_); (case side1 => repeat (first | exact (Kd.C_below HR1_5.out HB.out) | (with_reducible refine Kd.C_alloc ?_ _) | (with_reducible refine Kd.C_drewN ?_ _) | (with_reducible refine Kd.C_drew ?_))); (case side2 => exact HC1_5.out); rintro e w51 ⟨v314, rfl, ho0, hb⟩; refine ⟨_, rfl, ?_⟩; have n0_ := Aside0.mk (Kd.R_below (by (with_reducible repeat (first | apply Kd.R_alloc | apply Kd.R_drewN | apply Kd.R_drew)); exact HO308.out) hb); have n1_ := Aside0.mk (Kd.R_lower ho0 (below_size (by repeat (first | (with_reducible first | exact HB.out | apply below_alloc | apply pw_below_drewN | apply below_drew1 | refine below_set ?_ GE304.out) | exact HB.out)))); have n2_ := Aside0.mk (blk_below (g := gb304) (o := .cells #[.int .i64 a1_0, .bool a1_1, .int .i64 a1_2, .bool a1_3, .int .i64 a1_4, .slice A1_5 l1_5.length c1_5] 27 (0, 0)) (by (with_reducible repeat (first | refine blk_drewN ?_ _ | refine blk_drew ?_ | refine blk_alloc ?_ _)); exact BK304.out) hb); have n3_ := Aside0.mk (below_step (by repeat (first | (with_reducible first | exact HB.out | apply below_alloc | apply pw_below_drewN | apply below_drew1 | refine below_set ?_ GE304.out) | exact HB.out)) hb); clear HO308; clear BK304; clear HB; have HO308 := n0_; have HO315 := n1_; have BK304 := n2_; have HB := n3_; clear n0_ n1_ n2_ n3_; (try clear hb); (try clear hb2); (try clear hk); (try clear hi); (try clear ho0)) | ((with_reducible refine gate_dst (N := 6) rfl ?_); (try (refine gate_guard (by rfl) ?_; dsimp only)); refine box_event ?hg (N := 6) ?hd (cs := #[.bool false, .int .i64 0, .bool false, .int .i64 0, .slice none 0 0]) (t := 25) ?hr ?_; (case hd => rfl); (case hg => rfl); (case hr => first | (go_simp; done) | (go_simp; rfl)); intro gb316 hg w52 hbox hb; have n0_ := Aside0.mk (Kd.R_below (by (with_reducible repeat (first | apply Kd.R_alloc | apply Kd.R_drewN | apply Kd.R_drew)); exact HO308.out) hb); have n1_ := Aside0.mk (Kd.R_below (by (with_reducible repeat (first | apply Kd.R_alloc | apply Kd.R_drewN | apply Kd.R_drew)); exact HO315.out) hb); have n2_ := Aside0.mk (blk_below (g := gb304) (o := .cells #[.int .i64 a1_0, .bool a1_1, .int .i64 a1_2, .bool a1_3, .int .i64 a1_4, .slice A1_5 l1_5.length c1_5] 27 (0, 0)) (by (with_reducible repeat (first | refine blk_drewN ?_ _ | refine blk_drew ?_ | refine blk_alloc ?_ _)); exact BK304.out) hb); have n3_ := Aside0.mk (below_step (by repeat (first | (with_reducible first | exact HB.out | apply below_alloc | apply pw_below_drewN | apply below_drew1 | refine below_set ?_ GE304.out) | exact HB.out)) hb); have n4_ := Aside0.mk (hbox); have n5_ := Aside0.mk ((by rw [hg]; exact (below_size (by repeat (first | (with_reducible first | exact HB.out | apply below_alloc | apply pw_below_drewN | apply below_drew1 | refine below_set ?_ GE304.out) | exact HB.out))) : w.heap.size ≤ gb316)); have n6_ := Aside0.mk ((by rw [hg]; exact (below_size (by repeat (first | (with_reducible first | exact HB.out | apply below_alloc | apply pw_below_drewN | apply below_drew1 | refine below_set ?_ GE304.out) | exact HB.out))) : w.heap.size ≤ gb316)); have n7_ := Aside0.mk ((by rw [hg]; exact Nat.ne_of_lt (blk_lt (g := gb304) (o := .cells #[.int .i64 a1_0, .bool a1_1, .int .i64 a1_2, .bool a1_3, .int .i64 a1_4, .slice A1_5 l1_5.length c1_5] 27 (0, 0)) (by (with_reducible repeat (first | refine blk_drewN ?_ _ | refine blk_drew ?_ | refine blk_alloc ?_ _)); exact BK304.out)) : gb304 ≠ gb316)); have n8_ := Aside0.mk ((by rw [hg]; exact Nat.ne_of_gt (blk_lt (g := gb304) (o := .cells #[.int .i64 a1_0, .bool a1_1, .int .i64 a1_2, .bool a1_3, .int .i64 a1_4, .slice A1_5 l1_5.length c1_5] 27 (0, 0)) (by (with_reducible repeat (first | refine blk_drewN ?_ _ | refine blk_drew ?_ | refine blk_alloc ?_ _)); exact BK304.out)) : gb316 ≠ gb304)); clear HO308; clear HO315; clear BK304; clear HB; have HO308 := n0_; have HO315 := n1_; have BK304 := n2_; have HB := n3_; have BK316 := n4_; have GW316 := n5_; have GE316 := n6_; have NB304_316 := n7_; have NB316_304 := n8_; clear n0_ n1_ n2_ n3_ n4_ n5_ n6_ n7_ n8_; clear hb hbox hg; have hnb53 := NB316_304.out; have hnc53 := NB304_316.out; have hcz54_0 : w52.cell? ⟨gb316, 0, none⟩ = some (.bool false) := (blk_cell BK316.out 0).trans rfl; have hcz54_1 : w52.cell? ⟨gb316, 1, none⟩ = some (.int .i64 0) := (blk_cell BK316.out 1).trans rfl; have hcz54_2 : w52.cell? ⟨gb316, 2, none⟩ = some (.bool false) := (blk_cell BK316.out 2).trans rfl; have hcz54_3 : w52.cell? ⟨gb316, 3, none⟩ = some (.int .i64 0) := (blk_cell BK316.out 3).trans rfl; have hcz54_4 : w52.cell? ⟨gb316, 4, none⟩ = some (.slice none 0 0) := (blk_cell BK316.out 4).trans rfl; have hfz54_0 := blk_frozen BK316.out 0; have hfz54_1 := blk_frozen BK316.out 1; have hfz54_2 := blk_frozen BK316.out 2; have hfz54_3 := blk_frozen BK316.out 3; have hfz54_4 := blk_frozen BK316.out 4; obtain ⟨Ao55, co55, eo55⟩ := Kd.R_slice HO315.out; subst eo55; have hcz56_0 : w52.cell? ⟨gb304, 0, none⟩ = some (.int .i64 a1_0) := (blk_cell BK304.out 0).trans rfl; have hcz56_1 : w52.cell? ⟨gb304, 1, none⟩ = some (.bool a1_1) := (blk_cell BK304.out 1).trans rfl; have hcz56_2 : w52.cell? ⟨gb304, 2, none⟩ = some (.int .i64 a1_2) := (blk_cell BK304.out 2).trans rfl; have hcz56_3 : w52.cell? ⟨gb304, 3, none⟩ = some (.bool a1_3) := (blk_cell BK304.out 3).trans rfl; have hcz56_4 : w52.cell? ⟨gb304, 4, none⟩ = some (.int .i64 a1_4) := (blk_cell BK304.out 4).trans rfl; have hcz56_5 : w52.cell? ⟨gb304, 5, none⟩ = some (.slice A1_5 l1_5.length c1_5) := (blk_cell BK304.out 5).trans rfl; have hfz56_0 := blk_frozen BK304.out 0; have hfz56_1 := blk_frozen BK304.out 1; have hfz56_2 := blk_frozen BK304.out 2; have hfz56_3 := blk_frozen BK304.out 3; have hfz56_4 := blk_frozen BK304.out 4; have hfz56_5 := blk_frozen BK304.out 5; obtain ⟨Ao57, co57, eo57⟩ := Kd.R_slice HO308.out; subst eo57) | ((with_reducible refine gate_callee (f := 14) rfl ?_); refine goesL_ (some 24) rfl rfl Try.func14 (by kernel_rfl) rfl #[.slice Ao57 t306.length co57, .int .i64 4] rfl (by (try simp only [List.map_toArray, List.map_cons, List.map_nil]); first | done | rfl | (simp only [List.length_drop, List.length_take]; rfl)) ?_; (with_reducible refine (route_Loopless.calls k _ _ t306 4 false _ ?side1 ?side2 A6.out).mono ?_); (case side1 => refine (Kd.R_reads' (e := 45) (base := w.heap.size) (ok := fun k_ => True) (n := t306.length) (c := co57) ?_).2.2; exact (by (with_reducible repeat (first | apply Kd.R_alloc | apply Kd.R_drewN | apply Kd.R_drew)); exact (Kd.R_mono (Kd.R_far (p := ⟨gb316, 4, none⟩) (Kd.R_far (p := ⟨gb316, 3, none⟩) (Kd.R_far (p := ⟨gb316, 2, none⟩) (Kd.R_far (p := ⟨gb316, 1, none⟩) (Kd.R_far (p := ⟨gb316, 0, none⟩) (Kd.R_types HO308.out BK316.out (by decide)) (fun _ hk => hk.2) (.bool t309)) (fun _ hk => hk.2) (.int .i64 t310)) (fun _ hk => hk.2) (.bool t311)) (fun _ hk => hk.2) (.int .i64 t312)) (fun _ hk => hk.2) (.slice Ao55 t313.length co55)) (fun _ h_ => h_.1)))); (case side2 => exact (Kd.R_reads' HO308.out).2.1); rintro e w58 ⟨rfl, hb⟩; refine ⟨_, rfl, ?_⟩; have n0_ := Aside0.mk (Kd.R_below (by (with_reducible repeat (first | apply Kd.R_alloc | apply Kd.R_drewN | apply Kd.R_drew)); exact (Kd.R_mono (Kd.R_far (p := ⟨gb316, 4, none⟩) (Kd.R_far (p := ⟨gb316, 3, none⟩) (Kd.R_far (p := ⟨gb316, 2, none⟩) (Kd.R_far (p := ⟨gb316, 1, none⟩) (Kd.R_far (p := ⟨gb316, 0, none⟩) (Kd.R_types HO308.out BK316.out (by decide)) (fun _ hk => hk.2) (.bool t309)) (fun _ hk => hk.2) (.int .i64 t310)) (fun _ hk => hk.2) (.bool t311)) (fun _ hk => hk.2) (.int .i64 t312)) (fun _ hk => hk.2) (.slice Ao55 t313.length co55)) (fun _ h_ => h_.1))) hb); have n1_ := Aside0.mk (Kd.R_below (by (with_reducible repeat (first | apply Kd.R_alloc | apply Kd.R_drewN | apply Kd.R_drew)); exact (Kd.R_mono (Kd.R_far (p := ⟨gb316, 4, none⟩) (Kd.R_far (p := ⟨gb316, 3, none⟩) (Kd.R_far (p := ⟨gb316, 2, none⟩) (Kd.R_far (p := ⟨gb316, 1, none⟩) (Kd.R_far (p := ⟨gb316, 0, none⟩) (Kd.R_types HO315.out BK316.out (by decide)) (fun _ hk => hk.2) (.bool t309)) (fun _ hk => hk.2) (.int .i64 t310)) (fun _ hk => hk.2) (.bool t311)) (fun _ hk => hk.2) (.int .i64 t312)) (fun _ hk => hk.2) (.slice Ao55 t313.length co55)) (fun _ h_ => h_.1))) hb); have n2_ := Aside0.mk (blk_below (g := gb304) (o := .cells #[.int .i64 a1_0, .bool a1_1, .int .i64 a1_2, .bool a1_3, .int .i64 a1_4, .slice A1_5 l1_5.length c1_5] 27 (0, 0)) (by (with_reducible repeat (first | refine blk_drewN ?_ _ | refine blk_drew ?_ | refine blk_alloc ?_ _)); refine blk_far ?_ NB304_316.out _; (with_reducible repeat (first | refine blk_drewN ?_ _ | refine blk_drew ?_ | refine blk_alloc ?_ _)); refine blk_far ?_ NB304_316.out _; (with_reducible repeat (first | refine blk_drewN ?_ _ | refine blk_drew ?_ | refine blk_alloc ?_ _)); refine blk_far ?_ NB304_316.out _; (with_reducible repeat (first | refine blk_drewN ?_ _ | refine blk_drew ?_ | refine blk_alloc ?_ _)); refine blk_far ?_ NB304_316.out _; (with_reducible repeat (first | refine blk_drewN ?_ _ | refine blk_drew ?_ | refine blk_alloc ?_ _)); refine blk_far ?_ NB304_316.out _; (with_reducible repeat (first | refine blk_drewN ?_ _ | refine blk_drew ?_ | refine blk_alloc ?_ _)); exact BK304.out) hb); have n3_ := Aside0.mk (blk_below (g := gb316) (o := .cells #[.bool t309, .int .i64 t310, .bool t311, .int .i64 t312, .slice Ao55 t313.length co55] 25 (0, 0)) (by (with_reducible repeat (first | refine blk_drewN ?_ _ | refine blk_drew ?_ | refine blk_alloc ?_ _)); refine blk_put (cs := #[.bool t309, .int .i64 t310, .bool t311, .int .i64 t312, .slice none 0 0]) ?_ 4 _ rfl; (with_reducible repeat (first | refine blk_drewN ?_ _ | refine blk_drew ?_ | refine blk_alloc ?_ _)); refine blk_put (cs := #[.bool t309, .int .i64 t310, .bool t311, .int .i64 0, .slice none 0 0]) ?_ 3 _ rfl; (with_reducible repeat (first | refine blk_drewN ?_ _ | refine blk_drew ?_ | refine blk_alloc ?_ _)); refine blk_put (cs := #[.bool t309, .int .i64 t310, .bool false, .int .i64 0, .slice none 0 0]) ?_ 2 _ rfl; (with_reducible repeat (first | refine blk_drewN ?_ _ | refine blk_drew ?_ | refine blk_alloc ?_ _)); refine blk_put (cs := #[.bool t309, .int .i64 0, .bool false, .int .i64 0, .slice none 0 0]) ?_ 1 _ rfl; (with_reducible repeat (first | refine blk_drewN ?_ _ | refine blk_drew ?_ | refine blk_alloc ?_ _)); refine blk_put (cs := #[.bool false, .int .i64 0, .bool false, .int .i64 0, .slice none 0 0]) ?_ 0 _ rfl; (with_reducible repeat (first | refine blk_drewN ?_ _ | refine blk_drew ?_ | refine blk_alloc ?_ _)); exact BK316.out) hb); have n4_ := Aside0.mk (below_step (by repeat (first | (with_reducible first | exact HB.out | apply below_alloc | apply pw_below_drewN | apply below_drew1 | refine below_set ?_ GE304.out | refine below_set ?_ GE316.out) | exact HB.out)) hb); clear HO308; clear HO315; clear BK304; clear BK316; clear HB; have HO308 := n0_; have HO315 := n1_; have BK304 := n2_; have BK316 := n3_; have HB := n4_; clear n0_ n1_ n2_ n3_ n4_; (try clear hb); (try clear hb2); (try clear hk); (try clear hi); have hcz59_0 : w58.cell? ⟨gb316, 0, none⟩ = some (.bool t309) := (blk_cell BK316.out 0).trans rfl; have hcz59_1 : w58.cell? ⟨gb316, 1, none⟩ = some (.int .i64 t310) := (blk_cell BK316.out 1).trans rfl; have hcz59_2 : w58.cell? ⟨gb316, 2, none⟩ = some (.bool t311) := (blk_cell BK316.out 2).trans rfl; have hcz59_3 : w58.cell? ⟨gb316, 3, none⟩ = some (.int .i64 t312) := (blk_cell BK316.out 3).trans rfl; have hcz59_4 : w58.cell? ⟨gb316, 4, none⟩ = some (.slice Ao55 t313.length co55) := (blk_cell BK316.out 4).trans rfl; have hfz59_0 := blk_frozen BK316.out 0; have hfz59_1 := blk_frozen BK316.out 1; have hfz59_2 := blk_frozen BK316.out 2; have hfz59_3 := blk_frozen BK316.out 3; have hfz59_4 := blk_frozen BK316.out 4) | ((with_reducible refine gate_callee (f := 20) rfl ?_); refine goesL_ (some 29) rfl rfl Try.func20 (by kernel_rfl) rfl #[.slice Ao57 t306.length co57, .int .i64 4, .int .i64 (Go.bits .and .i64 a1_0 3), .agg #[.bool t309, .int .i64 t310, .bool t311, .int .i64 t312, .slice Ao55 t313.length co55]] rfl (by (try simp only [List.map_toArray, List.map_cons, List.map_nil]); first | done | rfl | (simp only [List.length_drop, List.length_take]; rfl)) ?_; (with_reducible refine (route_Reach.calls k _ _ t306 4 (Go.bits .and .i64 a1_0 3) t309 t310 t311 t312 (fun k_ => some k_ = (.slice Ao55 t313.length co55 : Value).ownBlock) _ _ t313 t318 _ ?side1 ?side2 ?side3 A45.out).mono ?_); (case side1 => repeat (first | exact (Kd.R_reads' HO308.out).2.2 | (with_reducible refine Kd.C_alloc ?_ _) | (with_reducible refine Kd.C_drewN ?_ _) | (with_reducible refine Kd.C_drew ?_))); (case side2 => exact (Kd.R_reads' HO308.out).2.1); (case side3 => exact Kd.R_V (Kd.R_tight rfl (Kd.R_types (Kd.R_types (Kd.R_apart' (HO315.out) (Kd.R_typed HO308.out) (by decide)) BK304.out (by decide)) BK316.out (by decide)))); rintro e w60 ⟨v319, rfl, ho0, hb⟩; refine ⟨_, rfl, ?_⟩; have n0_ := Aside0.mk (Kd.R_below (by (with_reducible repeat (first | apply Kd.R_alloc | apply Kd.R_drewN | apply Kd.R_drew)); exact HO308.out) hb); have n1_ := Aside0.mk (Kd.R_below (by (with_reducible repeat (first | apply Kd.R_alloc | apply Kd.R_drewN | apply Kd.R_drew)); exact HO315.out) hb); have n2_ := Aside0.mk (Kd.N_lower (Kd.N_mono (ok' := fun k_ => some k_ ≠ (.slice Ao57 t306.length co57 : Value).ownBlock ∧ k_ ≠ gb304 ∧ k_ ≠ gb316) ho0 (fun k_ hk_ => ⟨Or.elim hk_ (fun hs_ => ((Kd.R_types (Kd.R_types (Kd.R_apart' (HO315.out) (Kd.R_typed HO308.out) (by decide)) BK304.out (by decide)) BK316.out (by decide)).1 k_ hs_.symm).1.1.2) (fun hn_ => (Kd.fresh' (Kd.R_lt (by (with_reducible repeat (first | apply Kd.R_alloc | apply Kd.R_drewN | apply Kd.R_drew)); exact HO308.out)) k_ hn_)), Or.elim hk_ (fun hs_ => ((Kd.R_types (Kd.R_types (Kd.R_apart' (HO315.out) (Kd.R_typed HO308.out) (by decide)) BK304.out (by decide)) BK316.out (by decide)).1 k_ hs_.symm).1.2) (fun hn_ => (Kd.freshB (g := gb304) (o := .cells #[.int .i64 a1_0, .bool a1_1, .int .i64 a1_2, .bool a1_3, .int .i64 a1_4, .slice A1_5 l1_5.length c1_5] 27 (0, 0)) (by (with_reducible repeat (first | refine blk_drewN ?_ _ | refine blk_drew ?_ | refine blk_alloc ?_ _)); exact BK304.out) k_ hn_)), Or.elim hk_ (fun hs_ => ((Kd.R_types (Kd.R_types (Kd.R_apart' (HO315.out) (Kd.R_typed HO308.out) (by decide)) BK304.out (by decide)) BK316.out (by decide)).1 k_ hs_.symm).2) (fun hn_ => (Kd.freshB (g := gb316) (o := .cells #[.bool t309, .int .i64 t310, .bool t311, .int .i64 t312, .slice Ao55 t313.length co55] 25 (0, 0)) (by (with_reducible repeat (first | refine blk_drewN ?_ _ | refine blk_drew ?_ | refine blk_alloc ?_ _)); exact BK316.out) k_ hn_))⟩)) (below_size (by repeat (first | (with_reducible first | exact HB.out | apply below_alloc | apply pw_below_drewN | apply below_drew1 | refine below_set ?_ GE304.out | refine below_set ?_ GE316.out) | exact HB.out)))); have n3_ := Aside0.mk (blk_below (g := gb304) (o := .cells #[.int .i64 a1_0, .bool a1_1, .int .i64 a1_2, .bool a1_3, .int .i64 a1_4, .slice A1_5 l1_5.length c1_5] 27 (0, 0)) (by (with_reducible repeat (first | refine blk_drewN ?_ _ | refine blk_drew ?_ | refine blk_alloc ?_ _)); exact BK304.out) hb); have n4_ := Aside0.mk (blk_below (g := gb316) (o := .cells #[.bool t309, .int .i64 t310, .bool t311, .int .i64 t312, .slice Ao55 t313.length co55] 25 (0, 0)) (by (with_reducible repeat (first | refine blk_drewN ?_ _ | refine blk_drew ?_ | refine blk_alloc ?_ _)); exact BK316.out) hb); have n5_ := Aside0.mk (below_step (by repeat (first | (with_reducible first | exact HB.out | apply below_alloc | apply pw_below_drewN | apply below_drew1 | refine below_set ?_ GE304.out | refine below_set ?_ GE316.out) | exact HB.out)) hb); clear HO308; clear HO315; clear BK304; clear BK316; clear HB; have HO308 := n0_; have HO315 := n1_; have HO320 := n2_; have BK304 := n3_; have BK316 := n4_; have HB := n5_; clear n0_ n1_ n2_ n3_ n4_ n5_; (try clear hb); (try clear hb2); (try clear hk); (try clear hi); (try clear ho0); obtain ⟨Ao61, co61, eo61⟩ := Kd.N_slice HO320.out; subst eo61))
      go_ret
      exact ⟨by first | rfl | (simp [errW_none, errW_some] <;> rfl) | (simp [*, errW_none, errW_some] <;> rfl), by repeat (first | (with_reducible first | exact HB.out | apply below_alloc | apply pw_below_drewN | apply below_drew1 | refine below_set ?_ GE304.out | refine below_set ?_ GE316.out) | exact HB.out)⟩
    · rw [if_neg c46] at H
      exact absurd H (by simp)

end Go.Proofs.Ytpcabeefahldlaa.P

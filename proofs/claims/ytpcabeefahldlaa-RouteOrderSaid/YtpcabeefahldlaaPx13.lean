/- Go functions that the laws of this seat reach, each as a Lean function, and a proof that a call of the Go code comes to its answers; written by a program (the kit's print, turned in a few places). Conditions: each theorem's own premises. -/
import Derived.Test.YtpcabeefahldlaaPx0
import Derived.Test.YtpcabeefahldlaaPx2
import Derived.Test.YtpcabeefahldlaaPx6
import Derived.Test.YtpcabeefahldlaaPx8
import Derived.Test.YtpcabeefahldlaaGLoop
namespace Go.Proofs.Ytpcabeefahldlaa.P
open Go.RowKit Go.Proofs.YtpcabeefahldlaaW.PrintWords Go.Proofs.YtpcabeefahldlaaW.PrintLast Go.Proofs.YtpcabeefahldlaaW.PrintMore
attribute [local go_sem] max2_int min2_int max_two min_two max_three min_three max_four min_four   -- for this text's walks alone
set_option linter.unusedVariables false
set_option linter.unusedSimpArgs false

/-! ### phaetonlaw12_RouteOrder: function 5 -/
mutual
def phaetonlaw12_RouteOrder.l0 : Nat → List (S45) → Bool → Bool → Int → Option (Bool)
  | 0, _, _, _, _ => none
  | k + 1, x0, x3, x4, x5 => if x5 < 256 then ((some (([Go.bits .and .i64 x5 3, Go.bits .and .i64 (x5 / 4) 3, Go.bits .and .i64 (x5 / 16) 3, x5 / 64] : List Int) : List Int)).bind fun y345 => (if 0 < (y345.length : Int) then (if 1 < (y345.length : Int) then (if (rd y345 0) = (rd y345 1) then (phaetonlaw12_RouteOrder.j1 k x0 x3 x4 x5 y345 false) else (if 2 < (y345.length : Int) then (if (rd y345 0) = (rd y345 2) then (phaetonlaw12_RouteOrder.j1 k x0 x3 x4 x5 y345 false) else (if 3 < (y345.length : Int) then (if (rd y345 0) = (rd y345 3) then (phaetonlaw12_RouteOrder.j1 k x0 x3 x4 x5 y345 false) else (if (rd y345 1) = (rd y345 2) then (phaetonlaw12_RouteOrder.j1 k x0 x3 x4 x5 y345 false) else (if (rd y345 1) = (rd y345 3) then (phaetonlaw12_RouteOrder.j1 k x0 x3 x4 x5 y345 false) else (phaetonlaw12_RouteOrder.j1 k x0 x3 x4 x5 y345 ((rd y345 2) != (rd y345 3)))))) else (none))) else (none))) else (none)) else (none))) else ((route_Right.f k x0 4).bind fun t343 => (if t343 = true then ((route_Loopless.f k x0 4).bind fun t344 => (if (t344 == x4) = true then (some x3) else (none))) else (none)))
def phaetonlaw12_RouteOrder.j1 : Nat → List (S45) → Bool → Bool → Int → List Int → Bool → Option (Bool)
  | 0, _, _, _, _, _, _ => none
  | k + 1, x0, x3, x4, x5, x6, x7 => phaetonlaw12_RouteOrder.l1 k x0 x3 x4 x5 x6 x7 0
def phaetonlaw12_RouteOrder.l1 : Nat → List (S45) → Bool → Bool → Int → List Int → Bool → Int → Option (Bool)
  | 0, _, _, _, _, _, _, _ => none
  | k + 1, x0, x3, x4, x5, x6, x7, x8 => if x8 < (x0.length : Int) then (if x7 = true then (if 0 ≤ x8 then (if 0 ≤ ((rd_T45 x0 x8).f0) then (if ((rd_T45 x0 x8).f0) < (x6.length : Int) then (if 0 ≤ ((rd_T45 x0 x8).f1) then (if ((rd_T45 x0 x8).f1) < (x6.length : Int) then (phaetonlaw12_RouteOrder.l1 k x0 x3 x4 x5 x6 (decide ((rd x6 ((rd_T45 x0 x8).f0)) < (rd x6 ((rd_T45 x0 x8).f1)))) (wrap64 (x8 + 1))) else (none)) else (none)) else (none)) else (none)) else (none)) else (if x4 = true then (phaetonlaw12_RouteOrder.l0 k x0 x3 true (wrap64 (x5 + 1))) else (phaetonlaw12_RouteOrder.l0 k x0 x3 x7 (wrap64 (x5 + 1))))) else (if x4 = true then (phaetonlaw12_RouteOrder.l0 k x0 x3 true (wrap64 (x5 + 1))) else (phaetonlaw12_RouteOrder.l0 k x0 x3 x7 (wrap64 (x5 + 1))))
end
def phaetonlaw12_RouteOrder.f (k : Nat) (l0 : List (S45)) : Option (Bool) := (phaetonlaw12_head.f k).bind fun t339 => ((phaetonlaw12_Cut.f k l0 16).bind fun t340 => (phaetonlaw12_RouteOrder.l0 k t340 t339 false 0))
theorem phaetonlaw12_RouteOrder.mono_l : ∀ k, (∀ y0 y1 y2 y3, LeO (phaetonlaw12_RouteOrder.l0 k y0 y1 y2 y3) (phaetonlaw12_RouteOrder.l0 (k + 1) y0 y1 y2 y3)) ∧ (∀ y0 y1 y2 y3 y4 y5, LeO (phaetonlaw12_RouteOrder.j1 k y0 y1 y2 y3 y4 y5) (phaetonlaw12_RouteOrder.j1 (k + 1) y0 y1 y2 y3 y4 y5)) ∧ (∀ y0 y1 y2 y3 y4 y5 y6, LeO (phaetonlaw12_RouteOrder.l1 k y0 y1 y2 y3 y4 y5 y6) (phaetonlaw12_RouteOrder.l1 (k + 1) y0 y1 y2 y3 y4 y5 y6))
  | 0 => ⟨fun _ _ _ _ r h => by simp [phaetonlaw12_RouteOrder.l0] at h, fun _ _ _ _ _ _ r h => by simp [phaetonlaw12_RouteOrder.j1] at h, fun _ _ _ _ _ _ _ r h => by simp [phaetonlaw12_RouteOrder.l1] at h⟩
  | k + 1 => by
    obtain ⟨ih0, ih1, ih2⟩ := phaetonlaw12_RouteOrder.mono_l k
    refine ⟨?_, ?_, ?_⟩
    · intro y0 y1 y2 y3
      unfold phaetonlaw12_RouteOrder.l0
      repeat' first
      | (with_reducible exact ih0 _ _ _ _)
      | (with_reducible exact ih1 _ _ _ _ _ _)
      | (with_reducible exact ih2 _ _ _ _ _ _ _)
      | (with_reducible exact phaetonlaw12_Cut.mono _ _ _)
      | (with_reducible exact phaetonlaw12_head.mono _)
      | (with_reducible exact route_Loopless.mono _ _ _)
      | (with_reducible exact route_Right.mono _ _ _)
      | (with_reducible exact LeO.refl _)
      | (with_reducible exact LeO.none _)
      | (with_reducible refine LeO.ite ?_ ?_)
      | (with_reducible refine LeO.bind ?_ (fun _ => ?_))
      | exact ih0 _ _ _ _
      | exact ih1 _ _ _ _ _ _
      | exact ih2 _ _ _ _ _ _ _
      | exact phaetonlaw12_Cut.mono _ _ _
      | exact phaetonlaw12_head.mono _
      | exact route_Loopless.mono _ _ _
      | exact route_Right.mono _ _ _
      | exact LeO.none _
      | refine LeO.ite ?_ ?_
      | refine LeO.bind ?_ (fun _ => ?_)
    · intro y0 y1 y2 y3 y4 y5
      unfold phaetonlaw12_RouteOrder.j1
      repeat' first
      | (with_reducible exact ih0 _ _ _ _)
      | (with_reducible exact ih1 _ _ _ _ _ _)
      | (with_reducible exact ih2 _ _ _ _ _ _ _)
      | (with_reducible exact phaetonlaw12_Cut.mono _ _ _)
      | (with_reducible exact phaetonlaw12_head.mono _)
      | (with_reducible exact route_Loopless.mono _ _ _)
      | (with_reducible exact route_Right.mono _ _ _)
      | (with_reducible exact LeO.refl _)
      | (with_reducible exact LeO.none _)
      | (with_reducible refine LeO.ite ?_ ?_)
      | (with_reducible refine LeO.bind ?_ (fun _ => ?_))
      | exact ih0 _ _ _ _
      | exact ih1 _ _ _ _ _ _
      | exact ih2 _ _ _ _ _ _ _
      | exact phaetonlaw12_Cut.mono _ _ _
      | exact phaetonlaw12_head.mono _
      | exact route_Loopless.mono _ _ _
      | exact route_Right.mono _ _ _
      | exact LeO.none _
      | refine LeO.ite ?_ ?_
      | refine LeO.bind ?_ (fun _ => ?_)
    · intro y0 y1 y2 y3 y4 y5 y6
      unfold phaetonlaw12_RouteOrder.l1
      repeat' first
      | (with_reducible exact ih0 _ _ _ _)
      | (with_reducible exact ih1 _ _ _ _ _ _)
      | (with_reducible exact ih2 _ _ _ _ _ _ _)
      | (with_reducible exact phaetonlaw12_Cut.mono _ _ _)
      | (with_reducible exact phaetonlaw12_head.mono _)
      | (with_reducible exact route_Loopless.mono _ _ _)
      | (with_reducible exact route_Right.mono _ _ _)
      | (with_reducible exact LeO.refl _)
      | (with_reducible exact LeO.none _)
      | (with_reducible refine LeO.ite ?_ ?_)
      | (with_reducible refine LeO.bind ?_ (fun _ => ?_))
      | exact ih0 _ _ _ _
      | exact ih1 _ _ _ _ _ _
      | exact ih2 _ _ _ _ _ _ _
      | exact phaetonlaw12_Cut.mono _ _ _
      | exact phaetonlaw12_head.mono _
      | exact route_Loopless.mono _ _ _
      | exact route_Right.mono _ _ _
      | exact LeO.none _
      | refine LeO.ite ?_ ?_
      | refine LeO.bind ?_ (fun _ => ?_)
theorem phaetonlaw12_RouteOrder.mono : ∀ a0 k, LeO (phaetonlaw12_RouteOrder.f k a0) (phaetonlaw12_RouteOrder.f (k + 1) a0) := by
  intro a0 k
  obtain ⟨ih0, ih1, ih2⟩ := phaetonlaw12_RouteOrder.mono_l k
  unfold phaetonlaw12_RouteOrder.f
  repeat' first
      | (with_reducible exact ih0 _ _ _ _)
      | (with_reducible exact ih1 _ _ _ _ _ _)
      | (with_reducible exact ih2 _ _ _ _ _ _ _)
      | (with_reducible exact phaetonlaw12_Cut.mono _ _ _)
      | (with_reducible exact phaetonlaw12_head.mono _)
      | (with_reducible exact route_Loopless.mono _ _ _)
      | (with_reducible exact route_Right.mono _ _ _)
      | (with_reducible exact LeO.refl _)
      | (with_reducible exact LeO.none _)
      | (with_reducible refine LeO.ite ?_ ?_)
      | (with_reducible refine LeO.bind ?_ (fun _ => ?_))
      | exact ih0 _ _ _ _
      | exact ih1 _ _ _ _ _ _
      | exact ih2 _ _ _ _ _ _ _
      | exact phaetonlaw12_Cut.mono _ _ _
      | exact phaetonlaw12_head.mono _
      | exact route_Loopless.mono _ _ _
      | exact route_Right.mono _ _ _
      | exact LeO.none _
      | refine LeO.ite ?_ ?_
      | refine LeO.bind ?_ (fun _ => ?_)
set_option maxHeartbeats 8000000 in
set_option maxRecDepth 100000 in
theorem phaetonlaw12_RouteOrder.calls (k : Nat) (A0 : Option Addr) (c0 : Nat) (l0 : List (S45)) (r : Bool) (w : World) (hr0 : Kd.C k45 w A0 l0.length l0) (hc0 : l0.length ≤ c0) (h : phaetonlaw12_RouteOrder.f k l0 = some r) :
    Calls Try.prog 5 #[.slice A0 l0.length c0] w fun e w' => e = .returned (.bool r) ∧ Below w.heap.size w w' := by
  have HR0 := Aside0.mk hr0
  have HC0 := Aside0.mk hc0
  clear hr0 hc0
  have HB := Aside0.mk (Below.refl w.heap.size w)
  have H : ((phaetonlaw12_head.f k).bind fun t339 => ((phaetonlaw12_Cut.f k l0 16).bind fun t340 => (phaetonlaw12_RouteOrder.l0 k t340 t339 false 0))) = some r := h
  clear h
  replace H := Option.bind_eq_some_iff.mp H
  obtain ⟨t339, A20, H⟩ := H
  replace H : ((phaetonlaw12_Cut.f k l0 16).bind fun t340 => (phaetonlaw12_RouteOrder.l0 k t340 t339 false 0)) = some r := H
  have A2 := Aside0.mk A20
  clear A20
  replace H := Option.bind_eq_some_iff.mp H
  obtain ⟨t340, A30, H⟩ := H
  replace H : (phaetonlaw12_RouteOrder.l0 k t340 t339 false 0) = some r := H
  have A3 := Aside0.mk A30
  clear A30
  have H' := Aside0.mk H
  clear H
  go_enter Try.func5, Try.ntmps5
  go_wp2_with (first | (go_at_call 10; (with_reducible refine (phaetonlaw12_head.calls k  t339 _ A2.out).mono ?_); rintro e w4 ⟨rfl, hb⟩; have n0_ := Aside0.mk (below_step (by repeat (first | (with_reducible first | exact HB.out | apply below_alloc | apply pw_below_drewN | apply below_drew1) | exact HB.out)) hb); clear HB; have HB := n0_; clear n0_; (try clear hb); (try clear hb2); (try clear hk); (try clear hi)) | (go_at_call 16; (with_reducible refine (phaetonlaw12_Cut.calls k _ _ l0 16 t340 _ ?side1 ?side2 A3.out).mono ?_); (case side1 => repeat (first | exact (Kd.C_below HR0.out HB.out) | (with_reducible refine Kd.C_alloc ?_ _) | (with_reducible refine Kd.C_drewN ?_ _) | (with_reducible refine Kd.C_drew ?_))); (case side2 => exact HC0.out); rintro e w5 ⟨v341, rfl, ho0, hb⟩; have n0_ := Aside0.mk (Kd.R_lower ho0 (below_size (by repeat (first | (with_reducible first | exact HB.out | apply below_alloc | apply pw_below_drewN | apply below_drew1) | exact HB.out)))); have n1_ := Aside0.mk (below_step (by repeat (first | (with_reducible first | exact HB.out | apply below_alloc | apply pw_below_drewN | apply below_drew1) | exact HB.out)) hb); clear HB; have HO342 := n0_; have HB := n1_; clear n0_ n1_; (try clear hb); (try clear hb2); (try clear hk); (try clear hi); (try clear ho0)))
  repeat (go_quiet (first | (go_at_call 10; (with_reducible refine (phaetonlaw12_head.calls k  t339 _ A2.out).mono ?_); rintro e w4 ⟨rfl, hb⟩; have n0_ := Aside0.mk (below_step (by repeat (first | (with_reducible first | exact HB.out | apply below_alloc | apply pw_below_drewN | apply below_drew1) | exact HB.out)) hb); clear HB; have HB := n0_; clear n0_; (try clear hb); (try clear hb2); (try clear hk); (try clear hi)) | (go_at_call 16; (with_reducible refine (phaetonlaw12_Cut.calls k _ _ l0 16 t340 _ ?side1 ?side2 A3.out).mono ?_); (case side1 => repeat (first | exact (Kd.C_below HR0.out HB.out) | (with_reducible refine Kd.C_alloc ?_ _) | (with_reducible refine Kd.C_drewN ?_ _) | (with_reducible refine Kd.C_drew ?_))); (case side2 => exact HC0.out); rintro e w5 ⟨v341, rfl, ho0, hb⟩; have n0_ := Aside0.mk (Kd.R_lower ho0 (below_size (by repeat (first | (with_reducible first | exact HB.out | apply below_alloc | apply pw_below_drewN | apply below_drew1) | exact HB.out)))); have n1_ := Aside0.mk (below_step (by repeat (first | (with_reducible first | exact HB.out | apply below_alloc | apply pw_below_drewN | apply below_drew1) | exact HB.out)) hb); clear HB; have HO342 := n0_; have HB := n1_; clear n0_ n1_; (try clear hb); (try clear hb2); (try clear hk); (try clear hi); (try clear ho0))); try go_wp2_with (first | (go_at_call 10; (with_reducible refine (phaetonlaw12_head.calls k  t339 _ A2.out).mono ?_); rintro e w4 ⟨rfl, hb⟩; have n0_ := Aside0.mk (below_step (by repeat (first | (with_reducible first | exact HB.out | apply below_alloc | apply pw_below_drewN | apply below_drew1) | exact HB.out)) hb); clear HB; have HB := n0_; clear n0_; (try clear hb); (try clear hb2); (try clear hk); (try clear hi)) | (go_at_call 16; (with_reducible refine (phaetonlaw12_Cut.calls k _ _ l0 16 t340 _ ?side1 ?side2 A3.out).mono ?_); (case side1 => repeat (first | exact (Kd.C_below HR0.out HB.out) | (with_reducible refine Kd.C_alloc ?_ _) | (with_reducible refine Kd.C_drewN ?_ _) | (with_reducible refine Kd.C_drew ?_))); (case side2 => exact HC0.out); rintro e w5 ⟨v341, rfl, ho0, hb⟩; have n0_ := Aside0.mk (Kd.R_lower ho0 (below_size (by repeat (first | (with_reducible first | exact HB.out | apply below_alloc | apply pw_below_drewN | apply below_drew1) | exact HB.out)))); have n1_ := Aside0.mk (below_step (by repeat (first | (with_reducible first | exact HB.out | apply below_alloc | apply pw_below_drewN | apply below_drew1) | exact HB.out)) hb); clear HB; have HO342 := n0_; have HB := n1_; clear n0_ n1_; (try clear hb); (try clear hb2); (try clear hk); (try clear hi); (try clear ho0))))
  go_loopg [4, 5] k (fun kq v4 v5 w' => ∃ (x4_1 : Bool) (x5_1 : Int), v4 = .bool x4_1 ∧ v5 = .int .i64 x5_1 ∧ Aside0 (phaetonlaw12_RouteOrder.l0 kq t340 t339 x4_1 x5_1 = some r) ∧ Aside0 (kq ≤ k) ∧ Aside0 (Kd.R k45 45 w' w.heap.size (fun _ => True) v341 t340) ∧ Aside0 (Below w.heap.size w w'))
  case atStart => exact ⟨(false), (0), (by first | rfl | (simp; done) | (simp [*]; done)), (by first | rfl | (simp; done) | (simp [*]; done)), H', ⟨Nat.le_refl _⟩, ⟨by (with_reducible repeat (first | apply Kd.R_alloc | apply Kd.R_drewN | apply Kd.R_drew)); exact HO342.out⟩, ⟨by repeat (first | (with_reducible first | exact HB.out | apply below_alloc | apply pw_below_drewN | apply below_drew1) | exact HB.out)⟩⟩
  case round =>
    clear H'
    try clear p2
    try clear c5
    obtain ⟨x4_1, x5_1, rfl, rfl, HA, HK1, HO_0, HB⟩ := hrel
    cases gk with
    | zero => exact absurd HA.out (by simp [phaetonlaw12_RouteOrder.l0])
    | succ k1 =>
      have H := HA.out
      clear HA
      simp only [phaetonlaw12_RouteOrder.l0] at H
      by_cases c6 : x5_1 < 256
      · rw [if_pos c6] at H
        have c6b0 : decide (x5_1 < 256) = true := decide_eq_true c6
        clear c6
        obtain ⟨y345, hy345⟩ : ∃ y_ : List Int, y_ = (([Go.bits .and .i64 x5_1 3, Go.bits .and .i64 (x5_1 / 4) 3, Go.bits .and .i64 (x5_1 / 16) 3, x5_1 / 64] : List Int)) := ⟨_, rfl⟩
        replace H : (if 0 < (y345.length : Int) then (if 1 < (y345.length : Int) then (if (rd y345 0) = (rd y345 1) then (phaetonlaw12_RouteOrder.j1 k1 t340 t339 x4_1 x5_1 y345 false) else (if 2 < (y345.length : Int) then (if (rd y345 0) = (rd y345 2) then (phaetonlaw12_RouteOrder.j1 k1 t340 t339 x4_1 x5_1 y345 false) else (if 3 < (y345.length : Int) then (if (rd y345 0) = (rd y345 3) then (phaetonlaw12_RouteOrder.j1 k1 t340 t339 x4_1 x5_1 y345 false) else (if (rd y345 1) = (rd y345 2) then (phaetonlaw12_RouteOrder.j1 k1 t340 t339 x4_1 x5_1 y345 false) else (if (rd y345 1) = (rd y345 3) then (phaetonlaw12_RouteOrder.j1 k1 t340 t339 x4_1 x5_1 y345 false) else (phaetonlaw12_RouteOrder.j1 k1 t340 t339 x4_1 x5_1 y345 ((rd y345 2) != (rd y345 3)))))) else (none))) else (none))) else (none)) else (none)) = some r := by first | (rw [hy345]; with_reducible exact H) | (have H2_ := (Option.bind_some _ _).symm.trans H; rw [hy345]; with_reducible exact H2_) | (have H2_ := (Option.bind_some _ _).symm.trans H; with_reducible exact H2_) | with_reducible exact H | (rw [hy345]; exact H) | exact H
        have Ny345 := Aside0.mk hy345
        clear hy345
        have HC7 := Aside0.mk H
        clear H
        go_upto_region 8 with (first | ((with_reducible refine gate_dst (N := 26) rfl ?_); refine Kd.R_lit (Kd.int .i64) _ 3 ?hg (N := 26) ?hd (xs := ([Go.bits .and .i64 x5_1 3, Go.bits .and .i64 (x5_1 / 4) 3, Go.bits .and .i64 (x5_1 / 16) 3, x5_1 / 64] : List Int)) (inner := [.int .i64 (Go.bits .and .i64 x5_1 3), .int .i64 (Go.bits .and .i64 (x5_1 / 4) 3), .int .i64 (Go.bits .and .i64 (x5_1 / 16) 3), .int .i64 (x5_1 / 64)]) (ok := fun _ => True) (okp := fun _ => True) ?hr ?hp (fun _ hk => hk) trivial (Below.refl _ _) (Nat.le_refl _) (by simp) ?_; (case hd => rfl); (case hg => rfl); (case hr => first | (go_simp; done) | (go_simp; rfl)); (case hp => exact (Reps.one (show Kd.M (Kd.int .i64) _ _ _ (Go.bits .and .i64 x5_1 3) [.int .i64 (Go.bits .and .i64 x5_1 3)] from rfl) (Reps.one (show Kd.M (Kd.int .i64) _ _ _ (Go.bits .and .i64 (x5_1 / 4) 3) [.int .i64 (Go.bits .and .i64 (x5_1 / 4) 3)] from rfl) (Reps.one (show Kd.M (Kd.int .i64) _ _ _ (Go.bits .and .i64 (x5_1 / 16) 3) [.int .i64 (Go.bits .and .i64 (x5_1 / 16) 3)] from rfl) (Reps.one (show Kd.M (Kd.int .i64) _ _ _ (x5_1 / 64) [.int .i64 (x5_1 / 64)] from rfl) (Reps.none _ _)))))); intro v346 w8 ho9 hb hg_ hnew_; clear hg_ hnew_; (first | rw [← Ny345.out] at ho9 | (simp only [Int.reduceToNat] at ho9; rw [← Ny345.out] at ho9)); have n0_ := Aside0.mk (Kd.R_below (by (with_reducible repeat (first | apply Kd.R_alloc | apply Kd.R_drewN | apply Kd.R_drew)); exact HO_0.out) hb); have n1_ := Aside0.mk (Kd.R_lower ho9 (below_size (by repeat (first | (with_reducible first | exact HB.out | apply below_alloc | apply pw_below_drewN | apply below_drew1) | exact HB.out)))); have n2_ := Aside0.mk (below_step (by repeat (first | (with_reducible first | exact HB.out | apply below_alloc | apply pw_below_drewN | apply below_drew1) | exact HB.out)) hb); clear HO_0; clear HB; have HO_0 := n0_; have HO347 := n1_; have HB := n2_; clear n0_ n1_ n2_; clear hb ho9))
        repeat (go_quiet (first | ((with_reducible refine gate_dst (N := 26) rfl ?_); refine Kd.R_lit (Kd.int .i64) _ 3 ?hg (N := 26) ?hd (xs := ([Go.bits .and .i64 x5_1 3, Go.bits .and .i64 (x5_1 / 4) 3, Go.bits .and .i64 (x5_1 / 16) 3, x5_1 / 64] : List Int)) (inner := [.int .i64 (Go.bits .and .i64 x5_1 3), .int .i64 (Go.bits .and .i64 (x5_1 / 4) 3), .int .i64 (Go.bits .and .i64 (x5_1 / 16) 3), .int .i64 (x5_1 / 64)]) (ok := fun _ => True) (okp := fun _ => True) ?hr ?hp (fun _ hk => hk) trivial (Below.refl _ _) (Nat.le_refl _) (by simp) ?_; (case hd => rfl); (case hg => rfl); (case hr => first | (go_simp; done) | (go_simp; rfl)); (case hp => exact (Reps.one (show Kd.M (Kd.int .i64) _ _ _ (Go.bits .and .i64 x5_1 3) [.int .i64 (Go.bits .and .i64 x5_1 3)] from rfl) (Reps.one (show Kd.M (Kd.int .i64) _ _ _ (Go.bits .and .i64 (x5_1 / 4) 3) [.int .i64 (Go.bits .and .i64 (x5_1 / 4) 3)] from rfl) (Reps.one (show Kd.M (Kd.int .i64) _ _ _ (Go.bits .and .i64 (x5_1 / 16) 3) [.int .i64 (Go.bits .and .i64 (x5_1 / 16) 3)] from rfl) (Reps.one (show Kd.M (Kd.int .i64) _ _ _ (x5_1 / 64) [.int .i64 (x5_1 / 64)] from rfl) (Reps.none _ _)))))); intro v346 w8 ho9 hb hg_ hnew_; clear hg_ hnew_; (first | rw [← Ny345.out] at ho9 | (simp only [Int.reduceToNat] at ho9; rw [← Ny345.out] at ho9)); have n0_ := Aside0.mk (Kd.R_below (by (with_reducible repeat (first | apply Kd.R_alloc | apply Kd.R_drewN | apply Kd.R_drew)); exact HO_0.out) hb); have n1_ := Aside0.mk (Kd.R_lower ho9 (below_size (by repeat (first | (with_reducible first | exact HB.out | apply below_alloc | apply pw_below_drewN | apply below_drew1) | exact HB.out)))); have n2_ := Aside0.mk (below_step (by repeat (first | (with_reducible first | exact HB.out | apply below_alloc | apply pw_below_drewN | apply below_drew1) | exact HB.out)) hb); clear HO_0; clear HB; have HO_0 := n0_; have HO347 := n1_; have HB := n2_; clear n0_ n1_ n2_; clear hb ho9)); go_upto_region 8 with (first | ((with_reducible refine gate_dst (N := 26) rfl ?_); refine Kd.R_lit (Kd.int .i64) _ 3 ?hg (N := 26) ?hd (xs := ([Go.bits .and .i64 x5_1 3, Go.bits .and .i64 (x5_1 / 4) 3, Go.bits .and .i64 (x5_1 / 16) 3, x5_1 / 64] : List Int)) (inner := [.int .i64 (Go.bits .and .i64 x5_1 3), .int .i64 (Go.bits .and .i64 (x5_1 / 4) 3), .int .i64 (Go.bits .and .i64 (x5_1 / 16) 3), .int .i64 (x5_1 / 64)]) (ok := fun _ => True) (okp := fun _ => True) ?hr ?hp (fun _ hk => hk) trivial (Below.refl _ _) (Nat.le_refl _) (by simp) ?_; (case hd => rfl); (case hg => rfl); (case hr => first | (go_simp; done) | (go_simp; rfl)); (case hp => exact (Reps.one (show Kd.M (Kd.int .i64) _ _ _ (Go.bits .and .i64 x5_1 3) [.int .i64 (Go.bits .and .i64 x5_1 3)] from rfl) (Reps.one (show Kd.M (Kd.int .i64) _ _ _ (Go.bits .and .i64 (x5_1 / 4) 3) [.int .i64 (Go.bits .and .i64 (x5_1 / 4) 3)] from rfl) (Reps.one (show Kd.M (Kd.int .i64) _ _ _ (Go.bits .and .i64 (x5_1 / 16) 3) [.int .i64 (Go.bits .and .i64 (x5_1 / 16) 3)] from rfl) (Reps.one (show Kd.M (Kd.int .i64) _ _ _ (x5_1 / 64) [.int .i64 (x5_1 / 64)] from rfl) (Reps.none _ _)))))); intro v346 w8 ho9 hb hg_ hnew_; clear hg_ hnew_; (first | rw [← Ny345.out] at ho9 | (simp only [Int.reduceToNat] at ho9; rw [← Ny345.out] at ho9)); have n0_ := Aside0.mk (Kd.R_below (by (with_reducible repeat (first | apply Kd.R_alloc | apply Kd.R_drewN | apply Kd.R_drew)); exact HO_0.out) hb); have n1_ := Aside0.mk (Kd.R_lower ho9 (below_size (by repeat (first | (with_reducible first | exact HB.out | apply below_alloc | apply pw_below_drewN | apply below_drew1) | exact HB.out)))); have n2_ := Aside0.mk (below_step (by repeat (first | (with_reducible first | exact HB.out | apply below_alloc | apply pw_below_drewN | apply below_drew1) | exact HB.out)) hb); clear HO_0; clear HB; have HO_0 := n0_; have HO347 := n1_; have HB := n2_; clear n0_ n1_ n2_; clear hb ho9)))
        (try simp only [Act.put, List.setIfInBounds_toArray, List.set_cons_zero, List.set_cons_succ])
        go_cut [7] (fun v7 wc => ∃ (kq : Nat) (x7_6 : Bool), v7 = .bool x7_6 ∧ Aside0 (phaetonlaw12_RouteOrder.j1 kq t340 t339 x4_1 x5_1 y345 x7_6 = some r) ∧ Aside0 (kq ≤ k1) ∧ Aside0 (Kd.R k45 45 wc w.heap.size (fun _ => True) v341 t340) ∧ Aside0 (Kd.R (Kd.int .i64) 3 wc w.heap.size (fun _ => True) v346 y345) ∧ Aside0 (Below w.heap.size w wc))
        case first =>
          have H := HC7.out
          clear HC7
          by_cases c10 : 0 < (y345.length : Int)
          · rw [if_pos c10] at H
            have c10b0 : decide (0 < (y345.length : Int)) = true := decide_eq_true c10
            have c10b1 : decide (0 < y345.length) = true := decide_eq_true (by omega)
            clear c10
            (first | rw [c10b0] | (simp only [i64_w, i32_w]; rw [c10b0]) | skip)
            by_cases c11 : 1 < (y345.length : Int)
            · rw [if_pos c11] at H
              have c11b0 : decide (1 < (y345.length : Int)) = true := decide_eq_true c11
              have c11b1 : decide (1 < y345.length) = true := decide_eq_true (by omega)
              clear c11
              by_cases c12 : (rd y345 0) = (rd y345 1)
              · rw [if_pos c12] at H
                have c12b0 : ((rd y345 0) == (rd y345 1)) = true := beq_iff_eq.mpr c12
                have c12b1 : ((rd y345 0) != (rd y345 1)) = false := bne_eq_false_iff_eq.mpr c12
                clear c12
                have H' := Aside0.mk H
                clear H
                obtain ⟨Ao13, co13, eo13⟩ := Kd.R_slice HO347.out
                subst eo13
                have p348 : 0 ≤ (0 : Int) := (by omega)
                have q348 : 0 < (y345.length : Int) := of_decide_eq_true (by first | (with_reducible assumption) | assumption)
                obtain ⟨ad348, e348, hx348_0⟩ := Kd.at_int (Kd.R_reads' HO347.out).2.2 0 p348 q348
                cases e348
                have qi348 : (0 < y345.length) = True := eq_true (by omega)
                (try rw [show ((0 : Int)).toNat = 0 from rfl] at hx348_0)
                (try rw [Addr.add_zero'] at hx348_0)
                replace p348 := eq_true p348
                replace q348 := eq_true q348
                have p349 : 0 ≤ (1 : Int) := (by omega)
                have q349 : 1 < (y345.length : Int) := of_decide_eq_true (by first | (with_reducible assumption) | assumption)
                obtain ⟨ad349, e349, hx349_0⟩ := Kd.at_int (Kd.R_reads' HO347.out).2.2 1 p349 q349
                obtain rfl : ad348 = ad349 := (by injection e349)
                (try simp only [show (1 : Int).toNat = 1 from rfl, Nat.reduceMul, Nat.reduceEqDiff, Go.Addr.add, ↓reduceIte] at hx349_0)
                have qi349 : (1 < y345.length) = True := eq_true (by omega)
                (try rw [show ((1 : Int)).toNat = 1 from rfl] at hx349_0)
                replace p349 := eq_true p349
                replace q349 := eq_true q349
                go_wp2
                repeat (go_quiet (fail); try go_wp2)
                go_meet
                case rel => exact ⟨_, (false), (by first | rfl | (simp; done) | (simp [*]; done)), H', ⟨by have := HK1.out; first | omega | exact Nat.le_refl _⟩, ⟨by (with_reducible repeat (first | apply Kd.R_alloc | apply Kd.R_drewN | apply Kd.R_drew)); exact HO_0.out⟩, ⟨by (with_reducible repeat (first | apply Kd.R_alloc | apply Kd.R_drewN | apply Kd.R_drew)); exact HO347.out⟩, ⟨by repeat (first | (with_reducible first | exact HB.out | apply below_alloc | apply pw_below_drewN | apply below_drew1) | exact HB.out)⟩⟩
              · rw [if_neg c12] at H
                have c12b0 : ((rd y345 0) == (rd y345 1)) = false := beq_eq_false_iff_ne.mpr c12
                have c12b1 : ((rd y345 0) != (rd y345 1)) = true := bne_iff_ne.mpr c12
                by_cases c14 : 2 < (y345.length : Int)
                · rw [if_pos c14] at H
                  have c14b0 : decide (2 < (y345.length : Int)) = true := decide_eq_true c14
                  have c14b1 : decide (2 < y345.length) = true := decide_eq_true (by omega)
                  clear c14
                  by_cases c15 : (rd y345 0) = (rd y345 2)
                  · rw [if_pos c15] at H
                    have c15b0 : ((rd y345 0) == (rd y345 2)) = true := beq_iff_eq.mpr c15
                    have c15b1 : ((rd y345 0) != (rd y345 2)) = false := bne_eq_false_iff_eq.mpr c15
                    clear c15
                    have H' := Aside0.mk H
                    clear H
                    obtain ⟨Ao16, co16, eo16⟩ := Kd.R_slice HO347.out
                    subst eo16
                    have p348 : 0 ≤ (0 : Int) := (by omega)
                    have q348 : 0 < (y345.length : Int) := of_decide_eq_true (by first | (with_reducible assumption) | assumption)
                    obtain ⟨ad348, e348, hx348_0⟩ := Kd.at_int (Kd.R_reads' HO347.out).2.2 0 p348 q348
                    cases e348
                    have qi348 : (0 < y345.length) = True := eq_true (by omega)
                    (try rw [show ((0 : Int)).toNat = 0 from rfl] at hx348_0)
                    (try rw [Addr.add_zero'] at hx348_0)
                    replace p348 := eq_true p348
                    replace q348 := eq_true q348
                    have p349 : 0 ≤ (1 : Int) := (by omega)
                    have q349 : 1 < (y345.length : Int) := of_decide_eq_true (by first | (with_reducible assumption) | assumption)
                    obtain ⟨ad349, e349, hx349_0⟩ := Kd.at_int (Kd.R_reads' HO347.out).2.2 1 p349 q349
                    obtain rfl : ad348 = ad349 := (by injection e349)
                    (try simp only [show (1 : Int).toNat = 1 from rfl, Nat.reduceMul, Nat.reduceEqDiff, Go.Addr.add, ↓reduceIte] at hx349_0)
                    have qi349 : (1 < y345.length) = True := eq_true (by omega)
                    (try rw [show ((1 : Int)).toNat = 1 from rfl] at hx349_0)
                    replace p349 := eq_true p349
                    replace q349 := eq_true q349
                    have p350 : 0 ≤ (0 : Int) := (by omega)
                    have q350 : 0 < (y345.length : Int) := of_decide_eq_true (by first | (with_reducible assumption) | assumption)
                    obtain ⟨ad350, e350, hx350_0⟩ := Kd.at_int (Kd.R_reads' HO347.out).2.2 0 p350 q350
                    obtain rfl : ad348 = ad350 := (by injection e350)
                    have qi350 : (0 < y345.length) = True := eq_true (by omega)
                    (try rw [show ((0 : Int)).toNat = 0 from rfl] at hx350_0)
                    (try rw [Addr.add_zero'] at hx350_0)
                    replace p350 := eq_true p350
                    replace q350 := eq_true q350
                    have p351 : 0 ≤ (2 : Int) := (by omega)
                    have q351 : 2 < (y345.length : Int) := of_decide_eq_true (by first | (with_reducible assumption) | assumption)
                    obtain ⟨ad351, e351, hx351_0⟩ := Kd.at_int (Kd.R_reads' HO347.out).2.2 2 p351 q351
                    obtain rfl : ad348 = ad351 := (by injection e351)
                    (try simp only [show (2 : Int).toNat = 2 from rfl, Nat.reduceMul, Nat.reduceEqDiff, Go.Addr.add, ↓reduceIte] at hx351_0)
                    have qi351 : (2 < y345.length) = True := eq_true (by omega)
                    (try rw [show ((2 : Int)).toNat = 2 from rfl] at hx351_0)
                    replace p351 := eq_true p351
                    replace q351 := eq_true q351
                    go_wp2
                    repeat (go_quiet (fail); try go_wp2)
                    go_meet
                    case rel => exact ⟨_, (false), (by first | rfl | (simp; done) | (simp [*]; done)), H', ⟨by have := HK1.out; first | omega | exact Nat.le_refl _⟩, ⟨by (with_reducible repeat (first | apply Kd.R_alloc | apply Kd.R_drewN | apply Kd.R_drew)); exact HO_0.out⟩, ⟨by (with_reducible repeat (first | apply Kd.R_alloc | apply Kd.R_drewN | apply Kd.R_drew)); exact HO347.out⟩, ⟨by repeat (first | (with_reducible first | exact HB.out | apply below_alloc | apply pw_below_drewN | apply below_drew1) | exact HB.out)⟩⟩
                  · rw [if_neg c15] at H
                    have c15b0 : ((rd y345 0) == (rd y345 2)) = false := beq_eq_false_iff_ne.mpr c15
                    have c15b1 : ((rd y345 0) != (rd y345 2)) = true := bne_iff_ne.mpr c15
                    by_cases c17 : 3 < (y345.length : Int)
                    · rw [if_pos c17] at H
                      have c17b0 : decide (3 < (y345.length : Int)) = true := decide_eq_true c17
                      have c17b1 : decide (3 < y345.length) = true := decide_eq_true (by omega)
                      clear c17
                      by_cases c18 : (rd y345 0) = (rd y345 3)
                      · rw [if_pos c18] at H
                        have c18b0 : ((rd y345 0) == (rd y345 3)) = true := beq_iff_eq.mpr c18
                        have c18b1 : ((rd y345 0) != (rd y345 3)) = false := bne_eq_false_iff_eq.mpr c18
                        clear c18
                        have H' := Aside0.mk H
                        clear H
                        obtain ⟨Ao19, co19, eo19⟩ := Kd.R_slice HO347.out
                        subst eo19
                        have p348 : 0 ≤ (0 : Int) := (by omega)
                        have q348 : 0 < (y345.length : Int) := of_decide_eq_true (by first | (with_reducible assumption) | assumption)
                        obtain ⟨ad348, e348, hx348_0⟩ := Kd.at_int (Kd.R_reads' HO347.out).2.2 0 p348 q348
                        cases e348
                        have qi348 : (0 < y345.length) = True := eq_true (by omega)
                        (try rw [show ((0 : Int)).toNat = 0 from rfl] at hx348_0)
                        (try rw [Addr.add_zero'] at hx348_0)
                        replace p348 := eq_true p348
                        replace q348 := eq_true q348
                        have p349 : 0 ≤ (1 : Int) := (by omega)
                        have q349 : 1 < (y345.length : Int) := of_decide_eq_true (by first | (with_reducible assumption) | assumption)
                        obtain ⟨ad349, e349, hx349_0⟩ := Kd.at_int (Kd.R_reads' HO347.out).2.2 1 p349 q349
                        obtain rfl : ad348 = ad349 := (by injection e349)
                        (try simp only [show (1 : Int).toNat = 1 from rfl, Nat.reduceMul, Nat.reduceEqDiff, Go.Addr.add, ↓reduceIte] at hx349_0)
                        have qi349 : (1 < y345.length) = True := eq_true (by omega)
                        (try rw [show ((1 : Int)).toNat = 1 from rfl] at hx349_0)
                        replace p349 := eq_true p349
                        replace q349 := eq_true q349
                        have p350 : 0 ≤ (0 : Int) := (by omega)
                        have q350 : 0 < (y345.length : Int) := of_decide_eq_true (by first | (with_reducible assumption) | assumption)
                        obtain ⟨ad350, e350, hx350_0⟩ := Kd.at_int (Kd.R_reads' HO347.out).2.2 0 p350 q350
                        obtain rfl : ad348 = ad350 := (by injection e350)
                        have qi350 : (0 < y345.length) = True := eq_true (by omega)
                        (try rw [show ((0 : Int)).toNat = 0 from rfl] at hx350_0)
                        (try rw [Addr.add_zero'] at hx350_0)
                        replace p350 := eq_true p350
                        replace q350 := eq_true q350
                        have p351 : 0 ≤ (2 : Int) := (by omega)
                        have q351 : 2 < (y345.length : Int) := of_decide_eq_true (by first | (with_reducible assumption) | assumption)
                        obtain ⟨ad351, e351, hx351_0⟩ := Kd.at_int (Kd.R_reads' HO347.out).2.2 2 p351 q351
                        obtain rfl : ad348 = ad351 := (by injection e351)
                        (try simp only [show (2 : Int).toNat = 2 from rfl, Nat.reduceMul, Nat.reduceEqDiff, Go.Addr.add, ↓reduceIte] at hx351_0)
                        have qi351 : (2 < y345.length) = True := eq_true (by omega)
                        (try rw [show ((2 : Int)).toNat = 2 from rfl] at hx351_0)
                        replace p351 := eq_true p351
                        replace q351 := eq_true q351
                        have p352 : 0 ≤ (0 : Int) := (by omega)
                        have q352 : 0 < (y345.length : Int) := of_decide_eq_true (by first | (with_reducible assumption) | assumption)
                        obtain ⟨ad352, e352, hx352_0⟩ := Kd.at_int (Kd.R_reads' HO347.out).2.2 0 p352 q352
                        obtain rfl : ad348 = ad352 := (by injection e352)
                        have qi352 : (0 < y345.length) = True := eq_true (by omega)
                        (try rw [show ((0 : Int)).toNat = 0 from rfl] at hx352_0)
                        (try rw [Addr.add_zero'] at hx352_0)
                        replace p352 := eq_true p352
                        replace q352 := eq_true q352
                        have p353 : 0 ≤ (3 : Int) := (by omega)
                        have q353 : 3 < (y345.length : Int) := of_decide_eq_true (by first | (with_reducible assumption) | assumption)
                        obtain ⟨ad353, e353, hx353_0⟩ := Kd.at_int (Kd.R_reads' HO347.out).2.2 3 p353 q353
                        obtain rfl : ad348 = ad353 := (by injection e353)
                        (try simp only [show (3 : Int).toNat = 3 from rfl, Nat.reduceMul, Nat.reduceEqDiff, Go.Addr.add, ↓reduceIte] at hx353_0)
                        have qi353 : (3 < y345.length) = True := eq_true (by omega)
                        (try rw [show ((3 : Int)).toNat = 3 from rfl] at hx353_0)
                        replace p353 := eq_true p353
                        replace q353 := eq_true q353
                        go_wp2
                        repeat (go_quiet (fail); try go_wp2)
                        go_meet
                        case rel => exact ⟨_, (false), (by first | rfl | (simp; done) | (simp [*]; done)), H', ⟨by have := HK1.out; first | omega | exact Nat.le_refl _⟩, ⟨by (with_reducible repeat (first | apply Kd.R_alloc | apply Kd.R_drewN | apply Kd.R_drew)); exact HO_0.out⟩, ⟨by (with_reducible repeat (first | apply Kd.R_alloc | apply Kd.R_drewN | apply Kd.R_drew)); exact HO347.out⟩, ⟨by repeat (first | (with_reducible first | exact HB.out | apply below_alloc | apply pw_below_drewN | apply below_drew1) | exact HB.out)⟩⟩
                      · rw [if_neg c18] at H
                        have c18b0 : ((rd y345 0) == (rd y345 3)) = false := beq_eq_false_iff_ne.mpr c18
                        have c18b1 : ((rd y345 0) != (rd y345 3)) = true := bne_iff_ne.mpr c18
                        by_cases c20 : (rd y345 1) = (rd y345 2)
                        · rw [if_pos c20] at H
                          have c20b0 : ((rd y345 1) == (rd y345 2)) = true := beq_iff_eq.mpr c20
                          have c20b1 : ((rd y345 1) != (rd y345 2)) = false := bne_eq_false_iff_eq.mpr c20
                          clear c20
                          have H' := Aside0.mk H
                          clear H
                          obtain ⟨Ao21, co21, eo21⟩ := Kd.R_slice HO347.out
                          subst eo21
                          have p348 : 0 ≤ (0 : Int) := (by omega)
                          have q348 : 0 < (y345.length : Int) := of_decide_eq_true (by first | (with_reducible assumption) | assumption)
                          obtain ⟨ad348, e348, hx348_0⟩ := Kd.at_int (Kd.R_reads' HO347.out).2.2 0 p348 q348
                          cases e348
                          have qi348 : (0 < y345.length) = True := eq_true (by omega)
                          (try rw [show ((0 : Int)).toNat = 0 from rfl] at hx348_0)
                          (try rw [Addr.add_zero'] at hx348_0)
                          replace p348 := eq_true p348
                          replace q348 := eq_true q348
                          have p349 : 0 ≤ (1 : Int) := (by omega)
                          have q349 : 1 < (y345.length : Int) := of_decide_eq_true (by first | (with_reducible assumption) | assumption)
                          obtain ⟨ad349, e349, hx349_0⟩ := Kd.at_int (Kd.R_reads' HO347.out).2.2 1 p349 q349
                          obtain rfl : ad348 = ad349 := (by injection e349)
                          (try simp only [show (1 : Int).toNat = 1 from rfl, Nat.reduceMul, Nat.reduceEqDiff, Go.Addr.add, ↓reduceIte] at hx349_0)
                          have qi349 : (1 < y345.length) = True := eq_true (by omega)
                          (try rw [show ((1 : Int)).toNat = 1 from rfl] at hx349_0)
                          replace p349 := eq_true p349
                          replace q349 := eq_true q349
                          have p350 : 0 ≤ (0 : Int) := (by omega)
                          have q350 : 0 < (y345.length : Int) := of_decide_eq_true (by first | (with_reducible assumption) | assumption)
                          obtain ⟨ad350, e350, hx350_0⟩ := Kd.at_int (Kd.R_reads' HO347.out).2.2 0 p350 q350
                          obtain rfl : ad348 = ad350 := (by injection e350)
                          have qi350 : (0 < y345.length) = True := eq_true (by omega)
                          (try rw [show ((0 : Int)).toNat = 0 from rfl] at hx350_0)
                          (try rw [Addr.add_zero'] at hx350_0)
                          replace p350 := eq_true p350
                          replace q350 := eq_true q350
                          have p351 : 0 ≤ (2 : Int) := (by omega)
                          have q351 : 2 < (y345.length : Int) := of_decide_eq_true (by first | (with_reducible assumption) | assumption)
                          obtain ⟨ad351, e351, hx351_0⟩ := Kd.at_int (Kd.R_reads' HO347.out).2.2 2 p351 q351
                          obtain rfl : ad348 = ad351 := (by injection e351)
                          (try simp only [show (2 : Int).toNat = 2 from rfl, Nat.reduceMul, Nat.reduceEqDiff, Go.Addr.add, ↓reduceIte] at hx351_0)
                          have qi351 : (2 < y345.length) = True := eq_true (by omega)
                          (try rw [show ((2 : Int)).toNat = 2 from rfl] at hx351_0)
                          replace p351 := eq_true p351
                          replace q351 := eq_true q351
                          have p352 : 0 ≤ (0 : Int) := (by omega)
                          have q352 : 0 < (y345.length : Int) := of_decide_eq_true (by first | (with_reducible assumption) | assumption)
                          obtain ⟨ad352, e352, hx352_0⟩ := Kd.at_int (Kd.R_reads' HO347.out).2.2 0 p352 q352
                          obtain rfl : ad348 = ad352 := (by injection e352)
                          have qi352 : (0 < y345.length) = True := eq_true (by omega)
                          (try rw [show ((0 : Int)).toNat = 0 from rfl] at hx352_0)
                          (try rw [Addr.add_zero'] at hx352_0)
                          replace p352 := eq_true p352
                          replace q352 := eq_true q352
                          have p353 : 0 ≤ (3 : Int) := (by omega)
                          have q353 : 3 < (y345.length : Int) := of_decide_eq_true (by first | (with_reducible assumption) | assumption)
                          obtain ⟨ad353, e353, hx353_0⟩ := Kd.at_int (Kd.R_reads' HO347.out).2.2 3 p353 q353
                          obtain rfl : ad348 = ad353 := (by injection e353)
                          (try simp only [show (3 : Int).toNat = 3 from rfl, Nat.reduceMul, Nat.reduceEqDiff, Go.Addr.add, ↓reduceIte] at hx353_0)
                          have qi353 : (3 < y345.length) = True := eq_true (by omega)
                          (try rw [show ((3 : Int)).toNat = 3 from rfl] at hx353_0)
                          replace p353 := eq_true p353
                          replace q353 := eq_true q353
                          have p354 : 0 ≤ (1 : Int) := (by omega)
                          have q354 : 1 < (y345.length : Int) := of_decide_eq_true (by first | (with_reducible assumption) | assumption)
                          obtain ⟨ad354, e354, hx354_0⟩ := Kd.at_int (Kd.R_reads' HO347.out).2.2 1 p354 q354
                          obtain rfl : ad348 = ad354 := (by injection e354)
                          (try simp only [show (1 : Int).toNat = 1 from rfl, Nat.reduceMul, Nat.reduceEqDiff, Go.Addr.add, ↓reduceIte] at hx354_0)
                          have qi354 : (1 < y345.length) = True := eq_true (by omega)
                          (try rw [show ((1 : Int)).toNat = 1 from rfl] at hx354_0)
                          replace p354 := eq_true p354
                          replace q354 := eq_true q354
                          have p355 : 0 ≤ (2 : Int) := (by omega)
                          have q355 : 2 < (y345.length : Int) := of_decide_eq_true (by first | (with_reducible assumption) | assumption)
                          obtain ⟨ad355, e355, hx355_0⟩ := Kd.at_int (Kd.R_reads' HO347.out).2.2 2 p355 q355
                          obtain rfl : ad348 = ad355 := (by injection e355)
                          (try simp only [show (2 : Int).toNat = 2 from rfl, Nat.reduceMul, Nat.reduceEqDiff, Go.Addr.add, ↓reduceIte] at hx355_0)
                          have qi355 : (2 < y345.length) = True := eq_true (by omega)
                          (try rw [show ((2 : Int)).toNat = 2 from rfl] at hx355_0)
                          replace p355 := eq_true p355
                          replace q355 := eq_true q355
                          go_wp2
                          repeat (go_quiet (fail); try go_wp2)
                          go_meet
                          case rel => exact ⟨_, (false), (by first | rfl | (simp; done) | (simp [*]; done)), H', ⟨by have := HK1.out; first | omega | exact Nat.le_refl _⟩, ⟨by (with_reducible repeat (first | apply Kd.R_alloc | apply Kd.R_drewN | apply Kd.R_drew)); exact HO_0.out⟩, ⟨by (with_reducible repeat (first | apply Kd.R_alloc | apply Kd.R_drewN | apply Kd.R_drew)); exact HO347.out⟩, ⟨by repeat (first | (with_reducible first | exact HB.out | apply below_alloc | apply pw_below_drewN | apply below_drew1) | exact HB.out)⟩⟩
                        · rw [if_neg c20] at H
                          have c20b0 : ((rd y345 1) == (rd y345 2)) = false := beq_eq_false_iff_ne.mpr c20
                          have c20b1 : ((rd y345 1) != (rd y345 2)) = true := bne_iff_ne.mpr c20
                          by_cases c22 : (rd y345 1) = (rd y345 3)
                          · rw [if_pos c22] at H
                            have c22b0 : ((rd y345 1) == (rd y345 3)) = true := beq_iff_eq.mpr c22
                            have c22b1 : ((rd y345 1) != (rd y345 3)) = false := bne_eq_false_iff_eq.mpr c22
                            clear c22
                            have H' := Aside0.mk H
                            clear H
                            obtain ⟨Ao23, co23, eo23⟩ := Kd.R_slice HO347.out
                            subst eo23
                            have p348 : 0 ≤ (0 : Int) := (by omega)
                            have q348 : 0 < (y345.length : Int) := of_decide_eq_true (by first | (with_reducible assumption) | assumption)
                            obtain ⟨ad348, e348, hx348_0⟩ := Kd.at_int (Kd.R_reads' HO347.out).2.2 0 p348 q348
                            cases e348
                            have qi348 : (0 < y345.length) = True := eq_true (by omega)
                            (try rw [show ((0 : Int)).toNat = 0 from rfl] at hx348_0)
                            (try rw [Addr.add_zero'] at hx348_0)
                            replace p348 := eq_true p348
                            replace q348 := eq_true q348
                            have p349 : 0 ≤ (1 : Int) := (by omega)
                            have q349 : 1 < (y345.length : Int) := of_decide_eq_true (by first | (with_reducible assumption) | assumption)
                            obtain ⟨ad349, e349, hx349_0⟩ := Kd.at_int (Kd.R_reads' HO347.out).2.2 1 p349 q349
                            obtain rfl : ad348 = ad349 := (by injection e349)
                            (try simp only [show (1 : Int).toNat = 1 from rfl, Nat.reduceMul, Nat.reduceEqDiff, Go.Addr.add, ↓reduceIte] at hx349_0)
                            have qi349 : (1 < y345.length) = True := eq_true (by omega)
                            (try rw [show ((1 : Int)).toNat = 1 from rfl] at hx349_0)
                            replace p349 := eq_true p349
                            replace q349 := eq_true q349
                            have p350 : 0 ≤ (0 : Int) := (by omega)
                            have q350 : 0 < (y345.length : Int) := of_decide_eq_true (by first | (with_reducible assumption) | assumption)
                            obtain ⟨ad350, e350, hx350_0⟩ := Kd.at_int (Kd.R_reads' HO347.out).2.2 0 p350 q350
                            obtain rfl : ad348 = ad350 := (by injection e350)
                            have qi350 : (0 < y345.length) = True := eq_true (by omega)
                            (try rw [show ((0 : Int)).toNat = 0 from rfl] at hx350_0)
                            (try rw [Addr.add_zero'] at hx350_0)
                            replace p350 := eq_true p350
                            replace q350 := eq_true q350
                            have p351 : 0 ≤ (2 : Int) := (by omega)
                            have q351 : 2 < (y345.length : Int) := of_decide_eq_true (by first | (with_reducible assumption) | assumption)
                            obtain ⟨ad351, e351, hx351_0⟩ := Kd.at_int (Kd.R_reads' HO347.out).2.2 2 p351 q351
                            obtain rfl : ad348 = ad351 := (by injection e351)
                            (try simp only [show (2 : Int).toNat = 2 from rfl, Nat.reduceMul, Nat.reduceEqDiff, Go.Addr.add, ↓reduceIte] at hx351_0)
                            have qi351 : (2 < y345.length) = True := eq_true (by omega)
                            (try rw [show ((2 : Int)).toNat = 2 from rfl] at hx351_0)
                            replace p351 := eq_true p351
                            replace q351 := eq_true q351
                            have p352 : 0 ≤ (0 : Int) := (by omega)
                            have q352 : 0 < (y345.length : Int) := of_decide_eq_true (by first | (with_reducible assumption) | assumption)
                            obtain ⟨ad352, e352, hx352_0⟩ := Kd.at_int (Kd.R_reads' HO347.out).2.2 0 p352 q352
                            obtain rfl : ad348 = ad352 := (by injection e352)
                            have qi352 : (0 < y345.length) = True := eq_true (by omega)
                            (try rw [show ((0 : Int)).toNat = 0 from rfl] at hx352_0)
                            (try rw [Addr.add_zero'] at hx352_0)
                            replace p352 := eq_true p352
                            replace q352 := eq_true q352
                            have p353 : 0 ≤ (3 : Int) := (by omega)
                            have q353 : 3 < (y345.length : Int) := of_decide_eq_true (by first | (with_reducible assumption) | assumption)
                            obtain ⟨ad353, e353, hx353_0⟩ := Kd.at_int (Kd.R_reads' HO347.out).2.2 3 p353 q353
                            obtain rfl : ad348 = ad353 := (by injection e353)
                            (try simp only [show (3 : Int).toNat = 3 from rfl, Nat.reduceMul, Nat.reduceEqDiff, Go.Addr.add, ↓reduceIte] at hx353_0)
                            have qi353 : (3 < y345.length) = True := eq_true (by omega)
                            (try rw [show ((3 : Int)).toNat = 3 from rfl] at hx353_0)
                            replace p353 := eq_true p353
                            replace q353 := eq_true q353
                            have p354 : 0 ≤ (1 : Int) := (by omega)
                            have q354 : 1 < (y345.length : Int) := of_decide_eq_true (by first | (with_reducible assumption) | assumption)
                            obtain ⟨ad354, e354, hx354_0⟩ := Kd.at_int (Kd.R_reads' HO347.out).2.2 1 p354 q354
                            obtain rfl : ad348 = ad354 := (by injection e354)
                            (try simp only [show (1 : Int).toNat = 1 from rfl, Nat.reduceMul, Nat.reduceEqDiff, Go.Addr.add, ↓reduceIte] at hx354_0)
                            have qi354 : (1 < y345.length) = True := eq_true (by omega)
                            (try rw [show ((1 : Int)).toNat = 1 from rfl] at hx354_0)
                            replace p354 := eq_true p354
                            replace q354 := eq_true q354
                            have p355 : 0 ≤ (2 : Int) := (by omega)
                            have q355 : 2 < (y345.length : Int) := of_decide_eq_true (by first | (with_reducible assumption) | assumption)
                            obtain ⟨ad355, e355, hx355_0⟩ := Kd.at_int (Kd.R_reads' HO347.out).2.2 2 p355 q355
                            obtain rfl : ad348 = ad355 := (by injection e355)
                            (try simp only [show (2 : Int).toNat = 2 from rfl, Nat.reduceMul, Nat.reduceEqDiff, Go.Addr.add, ↓reduceIte] at hx355_0)
                            have qi355 : (2 < y345.length) = True := eq_true (by omega)
                            (try rw [show ((2 : Int)).toNat = 2 from rfl] at hx355_0)
                            replace p355 := eq_true p355
                            replace q355 := eq_true q355
                            have p356 : 0 ≤ (1 : Int) := (by omega)
                            have q356 : 1 < (y345.length : Int) := of_decide_eq_true (by first | (with_reducible assumption) | assumption)
                            obtain ⟨ad356, e356, hx356_0⟩ := Kd.at_int (Kd.R_reads' HO347.out).2.2 1 p356 q356
                            obtain rfl : ad348 = ad356 := (by injection e356)
                            (try simp only [show (1 : Int).toNat = 1 from rfl, Nat.reduceMul, Nat.reduceEqDiff, Go.Addr.add, ↓reduceIte] at hx356_0)
                            have qi356 : (1 < y345.length) = True := eq_true (by omega)
                            (try rw [show ((1 : Int)).toNat = 1 from rfl] at hx356_0)
                            replace p356 := eq_true p356
                            replace q356 := eq_true q356
                            have p357 : 0 ≤ (3 : Int) := (by omega)
                            have q357 : 3 < (y345.length : Int) := of_decide_eq_true (by first | (with_reducible assumption) | assumption)
                            obtain ⟨ad357, e357, hx357_0⟩ := Kd.at_int (Kd.R_reads' HO347.out).2.2 3 p357 q357
                            obtain rfl : ad348 = ad357 := (by injection e357)
                            (try simp only [show (3 : Int).toNat = 3 from rfl, Nat.reduceMul, Nat.reduceEqDiff, Go.Addr.add, ↓reduceIte] at hx357_0)
                            have qi357 : (3 < y345.length) = True := eq_true (by omega)
                            (try rw [show ((3 : Int)).toNat = 3 from rfl] at hx357_0)
                            replace p357 := eq_true p357
                            replace q357 := eq_true q357
                            go_wp2
                            repeat (go_quiet (fail); try go_wp2)
                            go_meet
                            case rel => exact ⟨_, (false), (by first | rfl | (simp; done) | (simp [*]; done)), H', ⟨by have := HK1.out; first | omega | exact Nat.le_refl _⟩, ⟨by (with_reducible repeat (first | apply Kd.R_alloc | apply Kd.R_drewN | apply Kd.R_drew)); exact HO_0.out⟩, ⟨by (with_reducible repeat (first | apply Kd.R_alloc | apply Kd.R_drewN | apply Kd.R_drew)); exact HO347.out⟩, ⟨by repeat (first | (with_reducible first | exact HB.out | apply below_alloc | apply pw_below_drewN | apply below_drew1) | exact HB.out)⟩⟩
                          · rw [if_neg c22] at H
                            have c22b0 : ((rd y345 1) == (rd y345 3)) = false := beq_eq_false_iff_ne.mpr c22
                            have c22b1 : ((rd y345 1) != (rd y345 3)) = true := bne_iff_ne.mpr c22
                            have H' := Aside0.mk H
                            clear H
                            obtain ⟨Ao24, co24, eo24⟩ := Kd.R_slice HO347.out
                            subst eo24
                            have p348 : 0 ≤ (0 : Int) := (by omega)
                            have q348 : 0 < (y345.length : Int) := of_decide_eq_true (by first | (with_reducible assumption) | assumption)
                            obtain ⟨ad348, e348, hx348_0⟩ := Kd.at_int (Kd.R_reads' HO347.out).2.2 0 p348 q348
                            cases e348
                            have qi348 : (0 < y345.length) = True := eq_true (by omega)
                            (try rw [show ((0 : Int)).toNat = 0 from rfl] at hx348_0)
                            (try rw [Addr.add_zero'] at hx348_0)
                            replace p348 := eq_true p348
                            replace q348 := eq_true q348
                            have p349 : 0 ≤ (1 : Int) := (by omega)
                            have q349 : 1 < (y345.length : Int) := of_decide_eq_true (by first | (with_reducible assumption) | assumption)
                            obtain ⟨ad349, e349, hx349_0⟩ := Kd.at_int (Kd.R_reads' HO347.out).2.2 1 p349 q349
                            obtain rfl : ad348 = ad349 := (by injection e349)
                            (try simp only [show (1 : Int).toNat = 1 from rfl, Nat.reduceMul, Nat.reduceEqDiff, Go.Addr.add, ↓reduceIte] at hx349_0)
                            have qi349 : (1 < y345.length) = True := eq_true (by omega)
                            (try rw [show ((1 : Int)).toNat = 1 from rfl] at hx349_0)
                            replace p349 := eq_true p349
                            replace q349 := eq_true q349
                            have p350 : 0 ≤ (0 : Int) := (by omega)
                            have q350 : 0 < (y345.length : Int) := of_decide_eq_true (by first | (with_reducible assumption) | assumption)
                            obtain ⟨ad350, e350, hx350_0⟩ := Kd.at_int (Kd.R_reads' HO347.out).2.2 0 p350 q350
                            obtain rfl : ad348 = ad350 := (by injection e350)
                            have qi350 : (0 < y345.length) = True := eq_true (by omega)
                            (try rw [show ((0 : Int)).toNat = 0 from rfl] at hx350_0)
                            (try rw [Addr.add_zero'] at hx350_0)
                            replace p350 := eq_true p350
                            replace q350 := eq_true q350
                            have p351 : 0 ≤ (2 : Int) := (by omega)
                            have q351 : 2 < (y345.length : Int) := of_decide_eq_true (by first | (with_reducible assumption) | assumption)
                            obtain ⟨ad351, e351, hx351_0⟩ := Kd.at_int (Kd.R_reads' HO347.out).2.2 2 p351 q351
                            obtain rfl : ad348 = ad351 := (by injection e351)
                            (try simp only [show (2 : Int).toNat = 2 from rfl, Nat.reduceMul, Nat.reduceEqDiff, Go.Addr.add, ↓reduceIte] at hx351_0)
                            have qi351 : (2 < y345.length) = True := eq_true (by omega)
                            (try rw [show ((2 : Int)).toNat = 2 from rfl] at hx351_0)
                            replace p351 := eq_true p351
                            replace q351 := eq_true q351
                            have p352 : 0 ≤ (0 : Int) := (by omega)
                            have q352 : 0 < (y345.length : Int) := of_decide_eq_true (by first | (with_reducible assumption) | assumption)
                            obtain ⟨ad352, e352, hx352_0⟩ := Kd.at_int (Kd.R_reads' HO347.out).2.2 0 p352 q352
                            obtain rfl : ad348 = ad352 := (by injection e352)
                            have qi352 : (0 < y345.length) = True := eq_true (by omega)
                            (try rw [show ((0 : Int)).toNat = 0 from rfl] at hx352_0)
                            (try rw [Addr.add_zero'] at hx352_0)
                            replace p352 := eq_true p352
                            replace q352 := eq_true q352
                            have p353 : 0 ≤ (3 : Int) := (by omega)
                            have q353 : 3 < (y345.length : Int) := of_decide_eq_true (by first | (with_reducible assumption) | assumption)
                            obtain ⟨ad353, e353, hx353_0⟩ := Kd.at_int (Kd.R_reads' HO347.out).2.2 3 p353 q353
                            obtain rfl : ad348 = ad353 := (by injection e353)
                            (try simp only [show (3 : Int).toNat = 3 from rfl, Nat.reduceMul, Nat.reduceEqDiff, Go.Addr.add, ↓reduceIte] at hx353_0)
                            have qi353 : (3 < y345.length) = True := eq_true (by omega)
                            (try rw [show ((3 : Int)).toNat = 3 from rfl] at hx353_0)
                            replace p353 := eq_true p353
                            replace q353 := eq_true q353
                            have p354 : 0 ≤ (1 : Int) := (by omega)
                            have q354 : 1 < (y345.length : Int) := of_decide_eq_true (by first | (with_reducible assumption) | assumption)
                            obtain ⟨ad354, e354, hx354_0⟩ := Kd.at_int (Kd.R_reads' HO347.out).2.2 1 p354 q354
                            obtain rfl : ad348 = ad354 := (by injection e354)
                            (try simp only [show (1 : Int).toNat = 1 from rfl, Nat.reduceMul, Nat.reduceEqDiff, Go.Addr.add, ↓reduceIte] at hx354_0)
                            have qi354 : (1 < y345.length) = True := eq_true (by omega)
                            (try rw [show ((1 : Int)).toNat = 1 from rfl] at hx354_0)
                            replace p354 := eq_true p354
                            replace q354 := eq_true q354
                            have p355 : 0 ≤ (2 : Int) := (by omega)
                            have q355 : 2 < (y345.length : Int) := of_decide_eq_true (by first | (with_reducible assumption) | assumption)
                            obtain ⟨ad355, e355, hx355_0⟩ := Kd.at_int (Kd.R_reads' HO347.out).2.2 2 p355 q355
                            obtain rfl : ad348 = ad355 := (by injection e355)
                            (try simp only [show (2 : Int).toNat = 2 from rfl, Nat.reduceMul, Nat.reduceEqDiff, Go.Addr.add, ↓reduceIte] at hx355_0)
                            have qi355 : (2 < y345.length) = True := eq_true (by omega)
                            (try rw [show ((2 : Int)).toNat = 2 from rfl] at hx355_0)
                            replace p355 := eq_true p355
                            replace q355 := eq_true q355
                            have p356 : 0 ≤ (1 : Int) := (by omega)
                            have q356 : 1 < (y345.length : Int) := of_decide_eq_true (by first | (with_reducible assumption) | assumption)
                            obtain ⟨ad356, e356, hx356_0⟩ := Kd.at_int (Kd.R_reads' HO347.out).2.2 1 p356 q356
                            obtain rfl : ad348 = ad356 := (by injection e356)
                            (try simp only [show (1 : Int).toNat = 1 from rfl, Nat.reduceMul, Nat.reduceEqDiff, Go.Addr.add, ↓reduceIte] at hx356_0)
                            have qi356 : (1 < y345.length) = True := eq_true (by omega)
                            (try rw [show ((1 : Int)).toNat = 1 from rfl] at hx356_0)
                            replace p356 := eq_true p356
                            replace q356 := eq_true q356
                            have p357 : 0 ≤ (3 : Int) := (by omega)
                            have q357 : 3 < (y345.length : Int) := of_decide_eq_true (by first | (with_reducible assumption) | assumption)
                            obtain ⟨ad357, e357, hx357_0⟩ := Kd.at_int (Kd.R_reads' HO347.out).2.2 3 p357 q357
                            obtain rfl : ad348 = ad357 := (by injection e357)
                            (try simp only [show (3 : Int).toNat = 3 from rfl, Nat.reduceMul, Nat.reduceEqDiff, Go.Addr.add, ↓reduceIte] at hx357_0)
                            have qi357 : (3 < y345.length) = True := eq_true (by omega)
                            (try rw [show ((3 : Int)).toNat = 3 from rfl] at hx357_0)
                            replace p357 := eq_true p357
                            replace q357 := eq_true q357
                            have p358 : 0 ≤ (2 : Int) := (by omega)
                            have q358 : 2 < (y345.length : Int) := of_decide_eq_true (by first | (with_reducible assumption) | assumption)
                            obtain ⟨ad358, e358, hx358_0⟩ := Kd.at_int (Kd.R_reads' HO347.out).2.2 2 p358 q358
                            obtain rfl : ad348 = ad358 := (by injection e358)
                            (try simp only [show (2 : Int).toNat = 2 from rfl, Nat.reduceMul, Nat.reduceEqDiff, Go.Addr.add, ↓reduceIte] at hx358_0)
                            have qi358 : (2 < y345.length) = True := eq_true (by omega)
                            (try rw [show ((2 : Int)).toNat = 2 from rfl] at hx358_0)
                            replace p358 := eq_true p358
                            replace q358 := eq_true q358
                            have p359 : 0 ≤ (3 : Int) := (by omega)
                            have q359 : 3 < (y345.length : Int) := of_decide_eq_true (by first | (with_reducible assumption) | assumption)
                            obtain ⟨ad359, e359, hx359_0⟩ := Kd.at_int (Kd.R_reads' HO347.out).2.2 3 p359 q359
                            obtain rfl : ad348 = ad359 := (by injection e359)
                            (try simp only [show (3 : Int).toNat = 3 from rfl, Nat.reduceMul, Nat.reduceEqDiff, Go.Addr.add, ↓reduceIte] at hx359_0)
                            have qi359 : (3 < y345.length) = True := eq_true (by omega)
                            (try rw [show ((3 : Int)).toNat = 3 from rfl] at hx359_0)
                            replace p359 := eq_true p359
                            replace q359 := eq_true q359
                            go_wp2
                            repeat (go_quiet (fail); try go_wp2)
                            go_meet
                            case rel => exact ⟨_, (((rd y345 2) != (rd y345 3))), (by first | rfl | (simp; done) | (simp [*]; done)), H', ⟨by have := HK1.out; first | omega | exact Nat.le_refl _⟩, ⟨by (with_reducible repeat (first | apply Kd.R_alloc | apply Kd.R_drewN | apply Kd.R_drew)); exact HO_0.out⟩, ⟨by (with_reducible repeat (first | apply Kd.R_alloc | apply Kd.R_drewN | apply Kd.R_drew)); exact HO347.out⟩, ⟨by repeat (first | (with_reducible first | exact HB.out | apply below_alloc | apply pw_below_drewN | apply below_drew1) | exact HB.out)⟩⟩
                    · rw [if_neg c17] at H
                      exact absurd H (by simp)
                · rw [if_neg c14] at H
                  exact absurd H (by simp)
            · rw [if_neg c11] at H
              exact absurd H (by simp)
          · rw [if_neg c10] at H
            exact absurd H (by simp)
        case rest =>
          clear HC7
          try clear c1
          try clear c2
          try clear p2
          try clear p3
          try clear q3
          try clear hx3
          try clear qi3
          try clear c5
          try clear c6
          try clear c6b0
          try clear c10
          try clear c10b0
          try clear c10b1
          try clear c11
          try clear c11b0
          try clear c11b1
          try clear c12
          try clear c12b0
          try clear c12b1
          try clear c14
          try clear c14b0
          try clear c14b1
          try clear c15
          try clear c15b0
          try clear c15b1
          try clear c17
          try clear c17b0
          try clear c17b1
          try clear c18
          try clear c18b0
          try clear c18b1
          try clear c20
          try clear c20b0
          try clear c20b1
          try clear c22
          try clear c22b0
          try clear c22b1
          try clear hx348_0
          try clear hx349_0
          try clear hx350_0
          try clear hx351_0
          try clear hx352_0
          try clear hx353_0
          try clear hx354_0
          try clear hx355_0
          try clear hx356_0
          try clear hx357_0
          try clear hx358_0
          try clear hx359_0
          try clear p2
          try clear p348
          try clear p349
          try clear p350
          try clear p351
          try clear p352
          try clear p353
          try clear p354
          try clear p355
          try clear p356
          try clear p357
          try clear p358
          try clear p359
          try clear q348
          try clear q349
          try clear q350
          try clear q351
          try clear q352
          try clear q353
          try clear q354
          try clear q355
          try clear q356
          try clear q357
          try clear q358
          try clear q359
          obtain ⟨kq, x7_6, rfl, HA, HJ6, HO_0, HO_6, HB⟩ := hcut
          cases kq with
          | zero => exact absurd HA.out (by simp [phaetonlaw12_RouteOrder.j1])
          | succ kj6 =>
            have H := HA.out
            clear HA
            simp only [phaetonlaw12_RouteOrder.j1] at H
            have H' := Aside0.mk H
            clear H
            go_wp2
            repeat (go_quiet (fail); try go_wp2)
            go_loopg [7, 8] kj6 (fun kq v7 v8 w' => ∃ (x7_3 : Bool) (x8_3 : Int), v7 = .bool x7_3 ∧ v8 = .int .i64 x8_3 ∧ Aside0 (phaetonlaw12_RouteOrder.l1 kq t340 t339 x4_1 x5_1 y345 x7_3 x8_3 = some r) ∧ Aside0 (kq ≤ kj6) ∧ Aside0 (Kd.R k45 45 w' w.heap.size (fun _ => True) v341 t340) ∧ Aside0 (Kd.R (Kd.int .i64) 3 w' w.heap.size (fun _ => True) v346 y345) ∧ Aside0 (Below w.heap.size w w'))
            case atStart => exact ⟨(x7_6), (0), (by first | rfl | (simp; done) | (simp [*]; done)), (by first | rfl | (simp; done) | (simp [*]; done)), H', ⟨Nat.le_refl _⟩, ⟨by (with_reducible repeat (first | apply Kd.R_alloc | apply Kd.R_drewN | apply Kd.R_drew)); exact HO_0.out⟩, ⟨by (with_reducible repeat (first | apply Kd.R_alloc | apply Kd.R_drewN | apply Kd.R_drew)); exact HO_6.out⟩, ⟨by repeat (first | (with_reducible first | exact HB.out | apply below_alloc | apply pw_below_drewN | apply below_drew1) | exact HB.out)⟩⟩
            case round =>
              clear H'
              try clear c1
              try clear c2
              try clear p2
              try clear p3
              try clear q3
              try clear hx3
              try clear qi3
              try clear c5
              try clear c6
              try clear c6b0
              try clear c10
              try clear c10b0
              try clear c10b1
              try clear c11
              try clear c11b0
              try clear c11b1
              try clear c12
              try clear c12b0
              try clear c12b1
              try clear c14
              try clear c14b0
              try clear c14b1
              try clear c15
              try clear c15b0
              try clear c15b1
              try clear c17
              try clear c17b0
              try clear c17b1
              try clear c18
              try clear c18b0
              try clear c18b1
              try clear c20
              try clear c20b0
              try clear c20b1
              try clear c22
              try clear c22b0
              try clear c22b1
              try clear hx348_0
              try clear hx349_0
              try clear hx350_0
              try clear hx351_0
              try clear hx352_0
              try clear hx353_0
              try clear hx354_0
              try clear hx355_0
              try clear hx356_0
              try clear hx357_0
              try clear hx358_0
              try clear hx359_0
              try clear p2
              try clear p3
              try clear p348
              try clear p349
              try clear p350
              try clear p351
              try clear p352
              try clear p353
              try clear p354
              try clear p355
              try clear p356
              try clear p357
              try clear p358
              try clear p359
              try clear q3
              try clear q348
              try clear q349
              try clear q350
              try clear q351
              try clear q352
              try clear q353
              try clear q354
              try clear q355
              try clear q356
              try clear q357
              try clear q358
              try clear q359
              obtain ⟨x7_3, x8_3, rfl, rfl, HA, HK3, HO_0, HO_6, HB⟩ := hrel
              cases gk with
              | zero => exact absurd HA.out (by simp [phaetonlaw12_RouteOrder.l1])
              | succ k3 =>
                have H := HA.out
                clear HA
                simp only [phaetonlaw12_RouteOrder.l1] at H
                by_cases c25 : x8_3 < (t340.length : Int)
                · rw [if_pos c25] at H
                  have c25b0 : decide (x8_3 < (t340.length : Int)) = true := decide_eq_true c25
                  clear c25
                  by_cases c26 : x7_3 = true
                  · subst c26
                    have H1 : (if 0 ≤ x8_3 then (if 0 ≤ ((rd_T45 t340 x8_3).f0) then (if ((rd_T45 t340 x8_3).f0) < (y345.length : Int) then (if 0 ≤ ((rd_T45 t340 x8_3).f1) then (if ((rd_T45 t340 x8_3).f1) < (y345.length : Int) then (phaetonlaw12_RouteOrder.l1 k3 t340 t339 x4_1 x5_1 y345 (decide ((rd y345 ((rd_T45 t340 x8_3).f0)) < (rd y345 ((rd_T45 t340 x8_3).f1)))) (wrap64 (x8_3 + 1))) else (none)) else (none)) else (none)) else (none)) else (none)) = some r := by rw [if_pos rfl] at H; exact H
                    clear H
                    have H := H1
                    clear H1
                    by_cases c27 : 0 ≤ x8_3
                    · rw [if_pos c27] at H
                      have c27b0 : decide (0 ≤ x8_3) = true := decide_eq_true c27
                      clear c27
                      by_cases c28 : 0 ≤ ((rd_T45 t340 x8_3).f0)
                      · rw [if_pos c28] at H
                        have c28b0 : decide (0 ≤ ((rd_T45 t340 x8_3).f0)) = true := decide_eq_true c28
                        clear c28
                        by_cases c29 : ((rd_T45 t340 x8_3).f0) < (y345.length : Int)
                        · rw [if_pos c29] at H
                          have c29b0 : decide (((rd_T45 t340 x8_3).f0) < (y345.length : Int)) = true := decide_eq_true c29
                          clear c29
                          by_cases c30 : 0 ≤ ((rd_T45 t340 x8_3).f1)
                          · rw [if_pos c30] at H
                            have c30b0 : decide (0 ≤ ((rd_T45 t340 x8_3).f1)) = true := decide_eq_true c30
                            clear c30
                            by_cases c31 : ((rd_T45 t340 x8_3).f1) < (y345.length : Int)
                            · rw [if_pos c31] at H
                              have c31b0 : decide (((rd_T45 t340 x8_3).f1) < (y345.length : Int)) = true := decide_eq_true c31
                              clear c31
                              have H' := Aside0.mk H
                              clear H
                              obtain ⟨Ao32, co32, eo32⟩ := Kd.R_slice HO_0.out
                              subst eo32
                              have p360 : 0 ≤ (x8_3 : Int) := of_decide_eq_true (by first | (with_reducible assumption) | assumption)
                              have q360 : x8_3 < (t340.length : Int) := of_decide_eq_true (by first | (with_reducible assumption) | assumption)
                              obtain ⟨ad360, e360, hx360_0, hx360_1, hx360_2, hx360_3, hx360_4, hx360_5⟩ := at_T45 (Kd.R_reads' HO_0.out).2.2 x8_3 p360 q360
                              cases e360
                              replace p360 := eq_true p360
                              replace q360 := eq_true q360
                              obtain ⟨Ao33, co33, eo33⟩ := Kd.R_slice HO_6.out
                              subst eo33
                              have p361 : 0 ≤ (((rd_T45 t340 x8_3).f0) : Int) := of_decide_eq_true (by first | (with_reducible assumption) | assumption)
                              have q361 : ((rd_T45 t340 x8_3).f0) < (y345.length : Int) := of_decide_eq_true (by first | (with_reducible assumption) | assumption)
                              obtain ⟨ad361, e361, hx361_0⟩ := Kd.at_int (Kd.R_reads' HO_6.out).2.2 ((rd_T45 t340 x8_3).f0) p361 q361
                              cases e361
                              replace p361 := eq_true p361
                              replace q361 := eq_true q361
                              have p362 : 0 ≤ (x8_3 : Int) := of_decide_eq_true (by first | (with_reducible assumption) | assumption)
                              have q362 : x8_3 < (t340.length : Int) := of_decide_eq_true (by first | (with_reducible assumption) | assumption)
                              obtain ⟨ad362, e362, hx362_0, hx362_1, hx362_2, hx362_3, hx362_4, hx362_5⟩ := at_T45 (Kd.R_reads' HO_0.out).2.2 x8_3 p362 q362
                              obtain rfl : ad360 = ad362 := (by injection e362)
                              replace p362 := eq_true p362
                              replace q362 := eq_true q362
                              have p363 : 0 ≤ (((rd_T45 t340 x8_3).f1) : Int) := of_decide_eq_true (by first | (with_reducible assumption) | assumption)
                              have q363 : ((rd_T45 t340 x8_3).f1) < (y345.length : Int) := of_decide_eq_true (by first | (with_reducible assumption) | assumption)
                              obtain ⟨ad363, e363, hx363_0⟩ := Kd.at_int (Kd.R_reads' HO_6.out).2.2 ((rd_T45 t340 x8_3).f1) p363 q363
                              obtain rfl : ad361 = ad363 := (by injection e363)
                              replace p363 := eq_true p363
                              replace q363 := eq_true q363
                              go_wp2
                              repeat (go_quiet (fail); try go_wp2)
                              go_roundg k3
                              case measure => have := HK1.out; have := HJ6.out; have := HK3.out; omega
                              case rel => exact ⟨(decide ((rd y345 ((rd_T45 t340 x8_3).f0)) < (rd y345 ((rd_T45 t340 x8_3).f1)))), (wrap64 (x8_3 + 1)), (by first | rfl | (simp; done) | (simp [*]; done)), (by first | rfl | (simp; done) | (simp [*]; done)), H', ⟨by have := HK1.out; have := HJ6.out; have := HK3.out; omega⟩, ⟨by (with_reducible repeat (first | apply Kd.R_alloc | apply Kd.R_drewN | apply Kd.R_drew)); exact HO_0.out⟩, ⟨by (with_reducible repeat (first | apply Kd.R_alloc | apply Kd.R_drewN | apply Kd.R_drew)); exact HO_6.out⟩, ⟨by repeat (first | (with_reducible first | exact HB.out | apply below_alloc | apply pw_below_drewN | apply below_drew1) | exact HB.out)⟩⟩
                            · rw [if_neg c31] at H
                              exact absurd H (by simp)
                          · rw [if_neg c30] at H
                            exact absurd H (by simp)
                        · rw [if_neg c29] at H
                          exact absurd H (by simp)
                      · rw [if_neg c28] at H
                        exact absurd H (by simp)
                    · rw [if_neg c27] at H
                      exact absurd H (by simp)
                  · replace c26 := Bool.eq_false_iff.mpr c26
                    subst c26
                    have H1 : (if x4_1 = true then (phaetonlaw12_RouteOrder.l0 k3 t340 t339 true (wrap64 (x5_1 + 1))) else (phaetonlaw12_RouteOrder.l0 k3 t340 t339 false (wrap64 (x5_1 + 1)))) = some r := by rw [if_neg (show ¬ (false = true) by decide)] at H; exact H
                    clear H
                    have H := H1
                    clear H1
                    by_cases c34 : x4_1 = true
                    · subst c34
                      have H1 : (phaetonlaw12_RouteOrder.l0 k3 t340 t339 true (wrap64 (x5_1 + 1))) = some r := by rw [if_pos rfl] at H; exact H
                      clear H
                      have H := H1
                      clear H1
                      have H' := Aside0.mk H
                      clear H
                      obtain ⟨Ao35, co35, eo35⟩ := Kd.R_slice HO_0.out
                      subst eo35
                      go_wp2
                      repeat (go_quiet (fail); try go_wp2)
                      go_roundg k3
                      case measure => have := HK1.out; have := HJ6.out; have := HK3.out; omega
                      case rel => exact ⟨(true), (wrap64 (x5_1 + 1)), (by first | rfl | (simp; done) | (simp [*]; done)), (by first | rfl | (simp; done) | (simp [*]; done)), H', ⟨by have := HK1.out; have := HJ6.out; have := HK3.out; omega⟩, ⟨by (with_reducible repeat (first | apply Kd.R_alloc | apply Kd.R_drewN | apply Kd.R_drew)); exact HO_0.out⟩, ⟨by repeat (first | (with_reducible first | exact HB.out | apply below_alloc | apply pw_below_drewN | apply below_drew1) | exact HB.out)⟩⟩
                    · replace c34 := Bool.eq_false_iff.mpr c34
                      subst c34
                      have H1 : (phaetonlaw12_RouteOrder.l0 k3 t340 t339 false (wrap64 (x5_1 + 1))) = some r := by rw [if_neg (show ¬ (false = true) by decide)] at H; exact H
                      clear H
                      have H := H1
                      clear H1
                      have H' := Aside0.mk H
                      clear H
                      obtain ⟨Ao36, co36, eo36⟩ := Kd.R_slice HO_0.out
                      subst eo36
                      go_wp2
                      repeat (go_quiet (fail); try go_wp2)
                      go_roundg k3
                      case measure => have := HK1.out; have := HJ6.out; have := HK3.out; omega
                      case rel => exact ⟨(false), (wrap64 (x5_1 + 1)), (by first | rfl | (simp; done) | (simp [*]; done)), (by first | rfl | (simp; done) | (simp [*]; done)), H', ⟨by have := HK1.out; have := HJ6.out; have := HK3.out; omega⟩, ⟨by (with_reducible repeat (first | apply Kd.R_alloc | apply Kd.R_drewN | apply Kd.R_drew)); exact HO_0.out⟩, ⟨by repeat (first | (with_reducible first | exact HB.out | apply below_alloc | apply pw_below_drewN | apply below_drew1) | exact HB.out)⟩⟩
                · rw [if_neg c25] at H
                  have c25b0 : decide (x8_3 < (t340.length : Int)) = false := decide_eq_false c25
                  clear c25
                  by_cases c37 : x4_1 = true
                  · subst c37
                    have H1 : (phaetonlaw12_RouteOrder.l0 k3 t340 t339 true (wrap64 (x5_1 + 1))) = some r := by rw [if_pos rfl] at H; exact H
                    clear H
                    have H := H1
                    clear H1
                    have H' := Aside0.mk H
                    clear H
                    obtain ⟨Ao38, co38, eo38⟩ := Kd.R_slice HO_0.out
                    subst eo38
                    go_wp2
                    repeat (go_quiet (fail); try go_wp2)
                    go_roundg k3
                    case measure => have := HK1.out; have := HJ6.out; have := HK3.out; omega
                    case rel => exact ⟨(true), (wrap64 (x5_1 + 1)), (by first | rfl | (simp; done) | (simp [*]; done)), (by first | rfl | (simp; done) | (simp [*]; done)), H', ⟨by have := HK1.out; have := HJ6.out; have := HK3.out; omega⟩, ⟨by (with_reducible repeat (first | apply Kd.R_alloc | apply Kd.R_drewN | apply Kd.R_drew)); exact HO_0.out⟩, ⟨by repeat (first | (with_reducible first | exact HB.out | apply below_alloc | apply pw_below_drewN | apply below_drew1) | exact HB.out)⟩⟩
                  · replace c37 := Bool.eq_false_iff.mpr c37
                    subst c37
                    have H1 : (phaetonlaw12_RouteOrder.l0 k3 t340 t339 x7_3 (wrap64 (x5_1 + 1))) = some r := by rw [if_neg (show ¬ (false = true) by decide)] at H; exact H
                    clear H
                    have H := H1
                    clear H1
                    have H' := Aside0.mk H
                    clear H
                    obtain ⟨Ao39, co39, eo39⟩ := Kd.R_slice HO_0.out
                    subst eo39
                    go_wp2
                    repeat (go_quiet (fail); try go_wp2)
                    go_roundg k3
                    case measure => have := HK1.out; have := HJ6.out; have := HK3.out; omega
                    case rel => exact ⟨(x7_3), (wrap64 (x5_1 + 1)), (by first | rfl | (simp; done) | (simp [*]; done)), (by first | rfl | (simp; done) | (simp [*]; done)), H', ⟨by have := HK1.out; have := HJ6.out; have := HK3.out; omega⟩, ⟨by (with_reducible repeat (first | apply Kd.R_alloc | apply Kd.R_drewN | apply Kd.R_drew)); exact HO_0.out⟩, ⟨by repeat (first | (with_reducible first | exact HB.out | apply below_alloc | apply pw_below_drewN | apply below_drew1) | exact HB.out)⟩⟩
      · rw [if_neg c6] at H
        have c6b0 : decide (x5_1 < 256) = false := decide_eq_false c6
        clear c6
        replace H := Option.bind_eq_some_iff.mp H
        obtain ⟨t343, A400, H⟩ := H
        replace H : (if t343 = true then ((route_Loopless.f k1 t340 4).bind fun t344 => (if (t344 == x4_1) = true then (some t339) else (none))) else (none)) = some r := H
        have A40 := Aside0.mk A400
        clear A400
        by_cases c41 : t343 = true
        · subst c41
          have H1 : ((route_Loopless.f k1 t340 4).bind fun t344 => (if (t344 == x4_1) = true then (some t339) else (none))) = some r := by rw [if_pos rfl] at H; exact H
          clear H
          have H := H1
          clear H1
          replace H := Option.bind_eq_some_iff.mp H
          obtain ⟨t344, A420, H⟩ := H
          replace H : (if (t344 == x4_1) = true then (some t339) else (none)) = some r := H
          have A42 := Aside0.mk A420
          clear A420
          by_cases c43 : (t344 == x4_1) = true
          · rw [if_pos c43] at H
            have c43b0 : (t344 == x4_1) = true := c43
            (try (have c43b1 : decide (t344 = x4_1) = true := by simpa using c43))
            (try (have c43b2 : (t344 == x4_1) = true := by simpa using c43))
            clear c43
            obtain rfl := Option.some.inj H
            obtain ⟨Ao44, co44, eo44⟩ := Kd.R_slice HO_0.out
            subst eo44
            go_wp2_with (first | (go_at_call 12; (with_reducible refine (route_Right.calls k1 _ _ t340 4 true _ ?side1 ?side2 A40.out).mono ?_); (case side1 => repeat (first | exact (Kd.R_reads' HO_0.out).2.2 | (with_reducible refine Kd.C_alloc ?_ _) | (with_reducible refine Kd.C_drewN ?_ _) | (with_reducible refine Kd.C_drew ?_))); (case side2 => exact (Kd.R_reads' HO_0.out).2.1); rintro e w45 ⟨rfl, hb⟩; have n0_ := Aside0.mk (Kd.R_below (by (with_reducible repeat (first | apply Kd.R_alloc | apply Kd.R_drewN | apply Kd.R_drew)); exact HO_0.out) hb); have n1_ := Aside0.mk (below_step (by repeat (first | (with_reducible first | exact HB.out | apply below_alloc | apply pw_below_drewN | apply below_drew1) | exact HB.out)) hb); clear HO_0; clear HB; have HO_0 := n0_; have HB := n1_; clear n0_ n1_; (try clear hb); (try clear hb2); (try clear hk); (try clear hi)) | (go_at_call 14; (with_reducible refine (route_Loopless.calls k1 _ _ t340 4 t344 _ ?side1 ?side2 A42.out).mono ?_); (case side1 => repeat (first | exact (Kd.R_reads' HO_0.out).2.2 | (with_reducible refine Kd.C_alloc ?_ _) | (with_reducible refine Kd.C_drewN ?_ _) | (with_reducible refine Kd.C_drew ?_))); (case side2 => exact (Kd.R_reads' HO_0.out).2.1); rintro e w46 ⟨rfl, hb⟩; have n0_ := Aside0.mk (Kd.R_below (by (with_reducible repeat (first | apply Kd.R_alloc | apply Kd.R_drewN | apply Kd.R_drew)); exact HO_0.out) hb); have n1_ := Aside0.mk (below_step (by repeat (first | (with_reducible first | exact HB.out | apply below_alloc | apply pw_below_drewN | apply below_drew1) | exact HB.out)) hb); clear HO_0; clear HB; have HO_0 := n0_; have HB := n1_; clear n0_ n1_; (try clear hb); (try clear hb2); (try clear hk); (try clear hi)))
            repeat (go_quiet (first | (go_at_call 12; (with_reducible refine (route_Right.calls k1 _ _ t340 4 true _ ?side1 ?side2 A40.out).mono ?_); (case side1 => repeat (first | exact (Kd.R_reads' HO_0.out).2.2 | (with_reducible refine Kd.C_alloc ?_ _) | (with_reducible refine Kd.C_drewN ?_ _) | (with_reducible refine Kd.C_drew ?_))); (case side2 => exact (Kd.R_reads' HO_0.out).2.1); rintro e w45 ⟨rfl, hb⟩; have n0_ := Aside0.mk (Kd.R_below (by (with_reducible repeat (first | apply Kd.R_alloc | apply Kd.R_drewN | apply Kd.R_drew)); exact HO_0.out) hb); have n1_ := Aside0.mk (below_step (by repeat (first | (with_reducible first | exact HB.out | apply below_alloc | apply pw_below_drewN | apply below_drew1) | exact HB.out)) hb); clear HO_0; clear HB; have HO_0 := n0_; have HB := n1_; clear n0_ n1_; (try clear hb); (try clear hb2); (try clear hk); (try clear hi)) | (go_at_call 14; (with_reducible refine (route_Loopless.calls k1 _ _ t340 4 t344 _ ?side1 ?side2 A42.out).mono ?_); (case side1 => repeat (first | exact (Kd.R_reads' HO_0.out).2.2 | (with_reducible refine Kd.C_alloc ?_ _) | (with_reducible refine Kd.C_drewN ?_ _) | (with_reducible refine Kd.C_drew ?_))); (case side2 => exact (Kd.R_reads' HO_0.out).2.1); rintro e w46 ⟨rfl, hb⟩; have n0_ := Aside0.mk (Kd.R_below (by (with_reducible repeat (first | apply Kd.R_alloc | apply Kd.R_drewN | apply Kd.R_drew)); exact HO_0.out) hb); have n1_ := Aside0.mk (below_step (by repeat (first | (with_reducible first | exact HB.out | apply below_alloc | apply pw_below_drewN | apply below_drew1) | exact HB.out)) hb); clear HO_0; clear HB; have HO_0 := n0_; have HB := n1_; clear n0_ n1_; (try clear hb); (try clear hb2); (try clear hk); (try clear hi))); try go_wp2_with (first | (go_at_call 12; (with_reducible refine (route_Right.calls k1 _ _ t340 4 true _ ?side1 ?side2 A40.out).mono ?_); (case side1 => repeat (first | exact (Kd.R_reads' HO_0.out).2.2 | (with_reducible refine Kd.C_alloc ?_ _) | (with_reducible refine Kd.C_drewN ?_ _) | (with_reducible refine Kd.C_drew ?_))); (case side2 => exact (Kd.R_reads' HO_0.out).2.1); rintro e w45 ⟨rfl, hb⟩; have n0_ := Aside0.mk (Kd.R_below (by (with_reducible repeat (first | apply Kd.R_alloc | apply Kd.R_drewN | apply Kd.R_drew)); exact HO_0.out) hb); have n1_ := Aside0.mk (below_step (by repeat (first | (with_reducible first | exact HB.out | apply below_alloc | apply pw_below_drewN | apply below_drew1) | exact HB.out)) hb); clear HO_0; clear HB; have HO_0 := n0_; have HB := n1_; clear n0_ n1_; (try clear hb); (try clear hb2); (try clear hk); (try clear hi)) | (go_at_call 14; (with_reducible refine (route_Loopless.calls k1 _ _ t340 4 t344 _ ?side1 ?side2 A42.out).mono ?_); (case side1 => repeat (first | exact (Kd.R_reads' HO_0.out).2.2 | (with_reducible refine Kd.C_alloc ?_ _) | (with_reducible refine Kd.C_drewN ?_ _) | (with_reducible refine Kd.C_drew ?_))); (case side2 => exact (Kd.R_reads' HO_0.out).2.1); rintro e w46 ⟨rfl, hb⟩; have n0_ := Aside0.mk (Kd.R_below (by (with_reducible repeat (first | apply Kd.R_alloc | apply Kd.R_drewN | apply Kd.R_drew)); exact HO_0.out) hb); have n1_ := Aside0.mk (below_step (by repeat (first | (with_reducible first | exact HB.out | apply below_alloc | apply pw_below_drewN | apply below_drew1) | exact HB.out)) hb); clear HO_0; clear HB; have HO_0 := n0_; have HB := n1_; clear n0_ n1_; (try clear hb); (try clear hb2); (try clear hk); (try clear hi))))
            go_ret
            exact ⟨by first | rfl | (simp [errW_none, errW_some] <;> rfl) | (simp [*, errW_none, errW_some] <;> rfl), by repeat (first | (with_reducible first | exact HB.out | apply below_alloc | apply pw_below_drewN | apply below_drew1) | exact HB.out)⟩
          · rw [if_neg c43] at H
            exact absurd H (by simp)
        · replace c41 := Bool.eq_false_iff.mpr c41
          subst c41
          have H1 : (none) = some r := by rw [if_neg (show ¬ (false = true) by decide)] at H; exact H
          clear H
          have H := H1
          clear H1
          exact absurd H (by simp)

end Go.Proofs.Ytpcabeefahldlaa.P

/- Go functions that the laws of this seat reach, each as a Lean function, and a proof that a call of the Go code comes to its answers; written by a program (the kit's print, turned in a few places). Conditions: each theorem's own premises. -/
import Derived.Test.YtpcabeefahldlaaPx0
import Derived.Test.YtpcabeefahldlaaPx2
import Derived.Test.YtpcabeefahldlaaPx6
import Derived.Test.YtpcabeefahldlaaPx8
import Derived.Test.YtpcabeefahldlaaGLoop
namespace Go.Proofs.Ytpcabeefahldlaa.P
open Go.RowKit Go.Proofs.YtpcabeefahldlaaW.PrintWords Go.Proofs.YtpcabeefahldlaaW.PrintLast Go.Proofs.YtpcabeefahldlaaW.PrintMore
attribute [local go_sem] max2_int min2_int max_two min_two max_three min_three max_four min_four   -- for this text's walks alone
set_option linter.unusedVariables false
set_option linter.unusedSimpArgs false

/-! ### phaetonlaw12_RouteBack: function 8 -/
mutual
def phaetonlaw12_RouteBack.l0 : Nat → Bool → Int → List (S45) → Int → Int → Int → Bool → Int → Int → Int → Option (Bool)
  | 0, _, _, _, _, _, _, _, _, _, _ => none
  | k + 1, x5, x6, x7, x8, x501000, x501001, x501002, x501003, x501004, x501005 => if x8 < x6 then (if x6 = 0 then (none) else (if x7.length < 2932031007402 then (phaetonlaw12_RouteBack.l0 k x5 x6 (x7 ++ [(⟨x8, Int.tmod (wrap64 (x8 + 1)) x6, (⟨x501002, x501003, x501004⟩ : S43), x501005⟩ : S45)]) (wrap64 (x8 + 1)) x501000 x501001 x501002 x501003 x501004 x501005) else (none))) else (phaetonlaw12_RouteBack.l1 k x5 x6 x7 (([] : List (S45))) 0)
def phaetonlaw12_RouteBack.l1 : Nat → Bool → Int → List (S45) → List (S45) → Int → Option (Bool)
  | 0, _, _, _, _, _ => none
  | k + 1, x5, x6, x7, x10, x11 => if x11 < x6 then (if 0 ≤ x11 then (if x11 ≤ (wrap64 (x11 + 1)) then (if (wrap64 (x11 + 1)) ≤ (x7.length : Int) then ((phaetonlaw12_Cut.f k ((x7.take ((wrap64 (x11 + 1)) : Int).toNat).drop (x11 : Int).toNat) 1).bind fun t515 => (if x10.length + t515.length < 2932031007402 then (phaetonlaw12_RouteBack.l1 k x5 x6 x7 (x10 ++ t515) (wrap64 (x11 + 1))) else (none))) else (none)) else (none)) else (none)) else (if (x10.length : Int) = x6 then ((route_Right.f k x10 x6).bind fun t521 => (if t521 = true then ((route_Loopless.f k x10 x6).bind fun t522 => (if t522 = true then (phaetonlaw12_RouteBack.j2 k x5 x6 x10 true) else ((route_Loopless.f k x10 4).bind fun t523 => (phaetonlaw12_RouteBack.j2 k x5 x6 x10 t523)))) else (phaetonlaw12_RouteBack.j2 k x5 x6 x10 true))) else (phaetonlaw12_RouteBack.j2 k x5 x6 x10 true))
def phaetonlaw12_RouteBack.j2 : Nat → Bool → Int → List (S45) → Bool → Option (Bool)
  | 0, _, _, _, _ => none
  | k + 1, x5, x6, x10, x69 => if x69 = true then (none) else (phaetonlaw12_RouteBack.l2 k x5 x6 x10 0)
def phaetonlaw12_RouteBack.l2 : Nat → Bool → Int → List (S45) → Int → Option (Bool)
  | 0, _, _, _, _ => none
  | k + 1, x5, x6, x10, x12 => if x12 < x6 then ((some (([] : List (S45)) : List (S45))).bind fun y524 => (if 0 ≤ x12 then (if x12 ≤ (x10.length : Int) then ((some (x10.take (x12 : Int).toNat : List (S45))).bind fun y527 => (if y524.length + y527.length < 2932031007402 then ((some (y524 ++ y527 : List (S45))).bind fun y531 => (if 0 ≤ (wrap64 (x12 + 1)) then (if (wrap64 (x12 + 1)) ≤ (x10.length : Int) then ((some (x10.drop ((wrap64 (x12 + 1)) : Int).toNat : List (S45))).bind fun y534 => (if y531.length + y534.length < 2932031007402 then ((route_Loopless.f k (y531 ++ y534) x6).bind fun t541 => (if t541 = true then (phaetonlaw12_RouteBack.l2 k x5 x6 x10 (wrap64 (x12 + 1))) else (none))) else (none))) else (none)) else (none))) else (none))) else (none)) else (none))) else (some x5)
end
def phaetonlaw12_RouteBack.f (k : Nat) (a0 : Int) (a1_0 : Int) (a1_1 : Int) (a1_2 : Bool) (a1_3 : Int) (a1_4 : Int) (a1_5 : Int) : Option (Bool) := (phaetonlaw12_head.f k).bind fun t501 => (phaetonlaw12_RouteBack.l0 k t501 (wrap64 (2 + (Int.tmod (wrap64 (a0)) 3))) (([] : List (S45))) 0 a1_0 a1_1 a1_2 a1_3 a1_4 a1_5)
theorem phaetonlaw12_RouteBack.mono_l : ∀ k, (∀ y0 y1 y2 y3 y4 y5 y6 y7 y8 y9, LeO (phaetonlaw12_RouteBack.l0 k y0 y1 y2 y3 y4 y5 y6 y7 y8 y9) (phaetonlaw12_RouteBack.l0 (k + 1) y0 y1 y2 y3 y4 y5 y6 y7 y8 y9)) ∧ (∀ y0 y1 y2 y3 y4, LeO (phaetonlaw12_RouteBack.l1 k y0 y1 y2 y3 y4) (phaetonlaw12_RouteBack.l1 (k + 1) y0 y1 y2 y3 y4)) ∧ (∀ y0 y1 y2 y3, LeO (phaetonlaw12_RouteBack.j2 k y0 y1 y2 y3) (phaetonlaw12_RouteBack.j2 (k + 1) y0 y1 y2 y3)) ∧ (∀ y0 y1 y2 y3, LeO (phaetonlaw12_RouteBack.l2 k y0 y1 y2 y3) (phaetonlaw12_RouteBack.l2 (k + 1) y0 y1 y2 y3))
  | 0 => ⟨fun _ _ _ _ _ _ _ _ _ _ r h => by simp [phaetonlaw12_RouteBack.l0] at h, fun _ _ _ _ _ r h => by simp [phaetonlaw12_RouteBack.l1] at h, fun _ _ _ _ r h => by simp [phaetonlaw12_RouteBack.j2] at h, fun _ _ _ _ r h => by simp [phaetonlaw12_RouteBack.l2] at h⟩
  | k + 1 => by
    obtain ⟨ih0, ih1, ih2, ih3⟩ := phaetonlaw12_RouteBack.mono_l k
    refine ⟨?_, ?_, ?_, ?_⟩
    · intro y0 y1 y2 y3 y4 y5 y6 y7 y8 y9
      unfold phaetonlaw12_RouteBack.l0
      repeat' first
      | (with_reducible exact ih0 _ _ _ _ _ _ _ _ _ _)
      | (with_reducible exact ih1 _ _ _ _ _)
      | (with_reducible exact ih2 _ _ _ _)
      | (with_reducible exact ih3 _ _ _ _)
      | (with_reducible exact phaetonlaw12_Cut.mono _ _ _)
      | (with_reducible exact phaetonlaw12_head.mono _)
      | (with_reducible exact route_Loopless.mono _ _ _)
      | (with_reducible exact route_Right.mono _ _ _)
      | (with_reducible exact LeO.refl _)
      | (with_reducible exact LeO.none _)
      | (with_reducible refine LeO.ite ?_ ?_)
      | (with_reducible refine LeO.bind ?_ (fun _ => ?_))
      | exact ih0 _ _ _ _ _ _ _ _ _ _
      | exact ih1 _ _ _ _ _
      | exact ih2 _ _ _ _
      | exact ih3 _ _ _ _
      | exact phaetonlaw12_Cut.mono _ _ _
      | exact phaetonlaw12_head.mono _
      | exact route_Loopless.mono _ _ _
      | exact route_Right.mono _ _ _
      | exact LeO.none _
      | refine LeO.ite ?_ ?_
      | refine LeO.bind ?_ (fun _ => ?_)
    · intro y0 y1 y2 y3 y4
      unfold phaetonlaw12_RouteBack.l1
      repeat' first
      | (with_reducible exact ih0 _ _ _ _ _ _ _ _ _ _)
      | (with_reducible exact ih1 _ _ _ _ _)
      | (with_reducible exact ih2 _ _ _ _)
      | (with_reducible exact ih3 _ _ _ _)
      | (with_reducible exact phaetonlaw12_Cut.mono _ _ _)
      | (with_reducible exact phaetonlaw12_head.mono _)
      | (with_reducible exact route_Loopless.mono _ _ _)
      | (with_reducible exact route_Right.mono _ _ _)
      | (with_reducible exact LeO.refl _)
      | (with_reducible exact LeO.none _)
      | (with_reducible refine LeO.ite ?_ ?_)
      | (with_reducible refine LeO.bind ?_ (fun _ => ?_))
      | exact ih0 _ _ _ _ _ _ _ _ _ _
      | exact ih1 _ _ _ _ _
      | exact ih2 _ _ _ _
      | exact ih3 _ _ _ _
      | exact phaetonlaw12_Cut.mono _ _ _
      | exact phaetonlaw12_head.mono _
      | exact route_Loopless.mono _ _ _
      | exact route_Right.mono _ _ _
      | exact LeO.none _
      | refine LeO.ite ?_ ?_
      | refine LeO.bind ?_ (fun _ => ?_)
    · intro y0 y1 y2 y3
      unfold phaetonlaw12_RouteBack.j2
      repeat' first
      | (with_reducible exact ih0 _ _ _ _ _ _ _ _ _ _)
      | (with_reducible exact ih1 _ _ _ _ _)
      | (with_reducible exact ih2 _ _ _ _)
      | (with_reducible exact ih3 _ _ _ _)
      | (with_reducible exact phaetonlaw12_Cut.mono _ _ _)
      | (with_reducible exact phaetonlaw12_head.mono _)
      | (with_reducible exact route_Loopless.mono _ _ _)
      | (with_reducible exact route_Right.mono _ _ _)
      | (with_reducible exact LeO.refl _)
      | (with_reducible exact LeO.none _)
      | (with_reducible refine LeO.ite ?_ ?_)
      | (with_reducible refine LeO.bind ?_ (fun _ => ?_))
      | exact ih0 _ _ _ _ _ _ _ _ _ _
      | exact ih1 _ _ _ _ _
      | exact ih2 _ _ _ _
      | exact ih3 _ _ _ _
      | exact phaetonlaw12_Cut.mono _ _ _
      | exact phaetonlaw12_head.mono _
      | exact route_Loopless.mono _ _ _
      | exact route_Right.mono _ _ _
      | exact LeO.none _
      | refine LeO.ite ?_ ?_
      | refine LeO.bind ?_ (fun _ => ?_)
    · intro y0 y1 y2 y3
      unfold phaetonlaw12_RouteBack.l2
      repeat' first
      | (with_reducible exact ih0 _ _ _ _ _ _ _ _ _ _)
      | (with_reducible exact ih1 _ _ _ _ _)
      | (with_reducible exact ih2 _ _ _ _)
      | (with_reducible exact ih3 _ _ _ _)
      | (with_reducible exact phaetonlaw12_Cut.mono _ _ _)
      | (with_reducible exact phaetonlaw12_head.mono _)
      | (with_reducible exact route_Loopless.mono _ _ _)
      | (with_reducible exact route_Right.mono _ _ _)
      | (with_reducible exact LeO.refl _)
      | (with_reducible exact LeO.none _)
      | (with_reducible refine LeO.ite ?_ ?_)
      | (with_reducible refine LeO.bind ?_ (fun _ => ?_))
      | exact ih0 _ _ _ _ _ _ _ _ _ _
      | exact ih1 _ _ _ _ _
      | exact ih2 _ _ _ _
      | exact ih3 _ _ _ _
      | exact phaetonlaw12_Cut.mono _ _ _
      | exact phaetonlaw12_head.mono _
      | exact route_Loopless.mono _ _ _
      | exact route_Right.mono _ _ _
      | exact LeO.none _
      | refine LeO.ite ?_ ?_
      | refine LeO.bind ?_ (fun _ => ?_)
theorem phaetonlaw12_RouteBack.mono : ∀ a0 a1 a2 a3 a4 a5 a6 k, LeO (phaetonlaw12_RouteBack.f k a0 a1 a2 a3 a4 a5 a6) (phaetonlaw12_RouteBack.f (k + 1) a0 a1 a2 a3 a4 a5 a6) := by
  intro a0 a1 a2 a3 a4 a5 a6 k
  obtain ⟨ih0, ih1, ih2, ih3⟩ := phaetonlaw12_RouteBack.mono_l k
  unfold phaetonlaw12_RouteBack.f
  repeat' first
      | (with_reducible exact ih0 _ _ _ _ _ _ _ _ _ _)
      | (with_reducible exact ih1 _ _ _ _ _)
      | (with_reducible exact ih2 _ _ _ _)
      | (with_reducible exact ih3 _ _ _ _)
      | (with_reducible exact phaetonlaw12_Cut.mono _ _ _)
      | (with_reducible exact phaetonlaw12_head.mono _)
      | (with_reducible exact route_Loopless.mono _ _ _)
      | (with_reducible exact route_Right.mono _ _ _)
      | (with_reducible exact LeO.refl _)
      | (with_reducible exact LeO.none _)
      | (with_reducible refine LeO.ite ?_ ?_)
      | (with_reducible refine LeO.bind ?_ (fun _ => ?_))
      | exact ih0 _ _ _ _ _ _ _ _ _ _
      | exact ih1 _ _ _ _ _
      | exact ih2 _ _ _ _
      | exact ih3 _ _ _ _
      | exact phaetonlaw12_Cut.mono _ _ _
      | exact phaetonlaw12_head.mono _
      | exact route_Loopless.mono _ _ _
      | exact route_Right.mono _ _ _
      | exact LeO.none _
      | refine LeO.ite ?_ ?_
      | refine LeO.bind ?_ (fun _ => ?_)
set_option maxHeartbeats 8000000 in
set_option maxRecDepth 100000 in
theorem phaetonlaw12_RouteBack.calls (k : Nat) (a0 : Int) (a1_0 : Int) (a1_1 : Int) (a1_2 : Bool) (a1_3 : Int) (a1_4 : Int) (a1_5 : Int) (r : Bool) (w : World) (h : phaetonlaw12_RouteBack.f k a0 a1_0 a1_1 a1_2 a1_3 a1_4 a1_5 = some r) :
    Calls Try.prog 8 #[.int .u8 a0, .agg #[.int .i64 a1_0, .int .i64 a1_1, .bool a1_2, .int .i64 a1_3, .int .i64 a1_4, .int .i64 a1_5]] w fun e w' => e = .returned (.bool r) ∧ Below w.heap.size w w' := by
  have hu45 := Try.underlying45
  have hu43 := Try.underlying43
  have HB := Aside0.mk (Below.refl w.heap.size w)
  have H : ((phaetonlaw12_head.f k).bind fun t501 => (phaetonlaw12_RouteBack.l0 k t501 (wrap64 (2 + (Int.tmod (wrap64 (a0)) 3))) (([] : List (S45))) 0 a1_0 a1_1 a1_2 a1_3 a1_4 a1_5)) = some r := h
  clear h
  replace H := Option.bind_eq_some_iff.mp H
  obtain ⟨t501, A30, H⟩ := H
  replace H : (phaetonlaw12_RouteBack.l0 k t501 (wrap64 (2 + (Int.tmod (wrap64 (a0)) 3))) (([] : List (S45))) 0 a1_0 a1_1 a1_2 a1_3 a1_4 a1_5) = some r := H
  have A3 := Aside0.mk A30
  clear A30
  obtain ⟨y502, hy502⟩ : ∃ y_ : List (S45), y_ = (([] : List (S45))) := ⟨_, rfl⟩
  replace H : (phaetonlaw12_RouteBack.l0 k t501 (wrap64 (2 + (Int.tmod (wrap64 (a0)) 3))) y502 0 a1_0 a1_1 a1_2 a1_3 a1_4 a1_5) = some r := by first | (rw [hy502]; with_reducible exact H) | (have H2_ := (Option.bind_some _ _).symm.trans H; rw [hy502]; with_reducible exact H2_) | (have H2_ := (Option.bind_some _ _).symm.trans H; with_reducible exact H2_) | with_reducible exact H | (rw [hy502]; exact H) | exact H
  have Ny502 := Aside0.mk hy502
  clear hy502
  have H' := Aside0.mk H
  clear H
  go_enter Try.func8, Try.ntmps8
  go_wp2_with (first | ((with_reducible refine gate_dst (N := 3) rfl ?_); refine box_event ?hg (N := 3) ?hd (cs := #[.int .i64 a1_0, .int .i64 a1_1, .bool a1_2, .int .i64 a1_3, .int .i64 a1_4, .int .i64 a1_5]) (t := 45) ?hr ?_; (case hd => rfl); (case hg => rfl); (case hr => first | (go_simp; done) | (go_simp; rfl)); intro gb500 hg w4 hbox hb; have n0_ := Aside0.mk (below_step (by repeat (first | (with_reducible first | exact HB.out | apply below_alloc | apply pw_below_drewN | apply below_drew1) | exact HB.out)) hb); have n1_ := Aside0.mk (hbox); have n2_ := Aside0.mk ((by rw [hg]; exact (below_size (by repeat (first | (with_reducible first | exact HB.out | apply below_alloc | apply pw_below_drewN | apply below_drew1) | exact HB.out))) : w.heap.size ≤ gb500)); have n3_ := Aside0.mk ((by rw [hg]; exact (below_size (by repeat (first | (with_reducible first | exact HB.out | apply below_alloc | apply pw_below_drewN | apply below_drew1) | exact HB.out))) : w.heap.size ≤ gb500)); clear HB; have HB := n0_; have BK500 := n1_; have GW500 := n2_; have GE500 := n3_; clear n0_ n1_ n2_ n3_; clear hb hbox hg) | ((with_reducible refine gate_callee (f := 10) rfl ?_); refine goesL_ (some 14) rfl rfl Try.func10 (by kernel_rfl) rfl #[] rfl (by (try simp only [List.map_toArray, List.map_cons, List.map_nil]); first | done | rfl | (simp only [List.length_drop, List.length_take]; rfl)) ?_; (with_reducible refine (phaetonlaw12_head.calls k  t501 _ A3.out).mono ?_); rintro e w5 ⟨rfl, hb⟩; refine ⟨_, rfl, ?_⟩; have n0_ := Aside0.mk (blk_below (g := gb500) (o := .cells #[.int .i64 a1_0, .int .i64 a1_1, .bool a1_2, .int .i64 a1_3, .int .i64 a1_4, .int .i64 a1_5] 45 (0, 0)) (by (with_reducible repeat (first | refine blk_drewN ?_ _ | refine blk_drew ?_ | refine blk_alloc ?_ _)); exact BK500.out) hb); have n1_ := Aside0.mk (below_step (by repeat (first | (with_reducible first | exact HB.out | apply below_alloc | apply pw_below_drewN | apply below_drew1 | refine below_set ?_ GE500.out) | exact HB.out)) hb); clear BK500; clear HB; have BK500 := n0_; have HB := n1_; clear n0_ n1_; (try clear hb); (try clear hb2); (try clear hk); (try clear hi)) | ((with_reducible refine gate_dst (N := 19) rfl ?_); refine Kd.R_lit k45 _ 45 ?hg (N := 19) ?hd (xs := ([] : List (S45))) (inner := []) (ok := fun _ => True) (okp := fun _ => True) ?hr ?hp (fun _ hk => hk) trivial (Below.refl _ _) (Nat.le_refl _) (by simp) ?_; (case hd => rfl); (case hg => rfl); (case hr => first | (go_simp; done) | (go_simp; rfl)); (case hp => exact (Reps.none _ _)); intro v503 w6 ho7 hb hg_ hnew_; clear hg_ hnew_; (first | rw [← Ny502.out] at ho7 | (simp only [Int.reduceToNat] at ho7; rw [← Ny502.out] at ho7)); have n0_ := Aside0.mk (Kd.R_lower (Kd.R_newB ho7 (g := gb500) (o := .cells #[.int .i64 a1_0, .int .i64 a1_1, .bool a1_2, .int .i64 a1_3, .int .i64 a1_4, .int .i64 a1_5] 45 (0, 0)) (by (with_reducible repeat (first | refine blk_drewN ?_ _ | refine blk_drew ?_ | refine blk_alloc ?_ _)); exact BK500.out)) (below_size (by repeat (first | (with_reducible first | exact HB.out | apply below_alloc | apply pw_below_drewN | apply below_drew1 | refine below_set ?_ GE500.out) | exact HB.out)))); have n1_ := Aside0.mk (blk_below (g := gb500) (o := .cells #[.int .i64 a1_0, .int .i64 a1_1, .bool a1_2, .int .i64 a1_3, .int .i64 a1_4, .int .i64 a1_5] 45 (0, 0)) (by (with_reducible repeat (first | refine blk_drewN ?_ _ | refine blk_drew ?_ | refine blk_alloc ?_ _)); exact BK500.out) hb); have n2_ := Aside0.mk (below_step (by repeat (first | (with_reducible first | exact HB.out | apply below_alloc | apply pw_below_drewN | apply below_drew1 | refine below_set ?_ GE500.out) | exact HB.out)) hb); clear BK500; clear HB; have HO504 := n0_; have BK500 := n1_; have HB := n2_; clear n0_ n1_ n2_; clear hb ho7))
  go_loopg [7, 8] k (fun kq v7 v8 w' => ∃ (x7_1 : List (S45)) (x8_1 : Int), v8 = .int .i64 x8_1 ∧ Aside0 (phaetonlaw12_RouteBack.l0 kq t501 (wrap64 (2 + (Int.tmod (wrap64 (a0)) 3))) x7_1 x8_1 a1_0 a1_1 a1_2 a1_3 a1_4 a1_5 = some r) ∧ Aside0 (kq ≤ k) ∧ Aside0 (Kd.R k45 45 w' w.heap.size (fun k_ => k_ ≠ gb500) v7 x7_1) ∧ Aside0 (w'.heap[gb500]? = some (.cells #[.int .i64 a1_0, .int .i64 a1_1, .bool a1_2, .int .i64 a1_3, .int .i64 a1_4, .int .i64 a1_5] 45 (0, 0))) ∧ Aside0 (Below w.heap.size w w'))
  case atStart => exact ⟨(y502), (0), (by first | rfl | (simp; done) | (simp [*]; done)), H', ⟨Nat.le_refl _⟩, ⟨by (with_reducible repeat (first | apply Kd.R_alloc | apply Kd.R_drewN | apply Kd.R_drew)); exact Kd.R_mono HO504.out (fun _ hk => hk.2)⟩, ⟨by (with_reducible repeat (first | refine blk_drewN ?_ _ | refine blk_drew ?_ | refine blk_alloc ?_ _)); exact BK500.out⟩, ⟨by repeat (first | (with_reducible first | exact HB.out | apply below_alloc | apply pw_below_drewN | apply below_drew1 | refine below_set ?_ GE500.out) | exact HB.out)⟩⟩
  case round =>
    clear H'
    try clear c1
    try clear p2
    try clear p6
    obtain ⟨x7_1, x8_1, rfl, HA, HK1, HO_7, BK500, HB⟩ := hrel
    cases gk with
    | zero => exact absurd HA.out (by simp [phaetonlaw12_RouteBack.l0])
    | succ k1 =>
      have H := HA.out
      clear HA
      simp only [phaetonlaw12_RouteBack.l0] at H
      by_cases c8 : x8_1 < (wrap64 (2 + (Int.tmod (wrap64 (a0)) 3)))
      · rw [if_pos c8] at H
        have c8b0 : decide (x8_1 < (wrap64 (2 + (Int.tmod (wrap64 (a0)) 3)))) = true := decide_eq_true c8
        clear c8
        by_cases c9 : (wrap64 (2 + (Int.tmod (wrap64 (a0)) 3))) = 0
        · rw [if_pos c9] at H
          exact absurd H (by simp)
        · rw [if_neg c9] at H
          have c9b0 : ((wrap64 (2 + (Int.tmod (wrap64 (a0)) 3))) == 0) = false := beq_eq_false_iff_ne.mpr c9
          have c9b1 : ((wrap64 (2 + (Int.tmod (wrap64 (a0)) 3))) != 0) = true := bne_iff_ne.mpr c9
          by_cases c10 : x7_1.length < 2932031007402
          · rw [if_pos c10] at H
            have LMc10 := Aside0.mk c10
            clear c10
            obtain ⟨y505, hy505⟩ : ∃ y_ : List (S45), y_ = (x7_1 ++ [(⟨x8_1, Int.tmod (wrap64 (x8_1 + 1)) (wrap64 (2 + (Int.tmod (wrap64 (a0)) 3))), (⟨a1_2, a1_3, a1_4⟩ : S43), a1_5⟩ : S45)]) := ⟨_, rfl⟩
            replace H : (phaetonlaw12_RouteBack.l0 k1 t501 (wrap64 (2 + (Int.tmod (wrap64 (a0)) 3))) y505 (wrap64 (x8_1 + 1)) a1_0 a1_1 a1_2 a1_3 a1_4 a1_5) = some r := by first | (rw [hy505]; with_reducible exact H) | (have H2_ := (Option.bind_some _ _).symm.trans H; rw [hy505]; with_reducible exact H2_) | (have H2_ := (Option.bind_some _ _).symm.trans H; with_reducible exact H2_) | with_reducible exact H | (rw [hy505]; exact H) | exact H
            have Ny505 := Aside0.mk hy505
            clear hy505
            have H' := Aside0.mk H
            clear H
            have hcz11_0 : wr.cell? ⟨gb500, 0, none⟩ = some (.int .i64 a1_0) := (blk_cell BK500.out 0).trans rfl
            have hcz11_1 : wr.cell? ⟨gb500, 1, none⟩ = some (.int .i64 a1_1) := (blk_cell BK500.out 1).trans rfl
            have hcz11_2 : wr.cell? ⟨gb500, 2, none⟩ = some (.bool a1_2) := (blk_cell BK500.out 2).trans rfl
            have hcz11_3 : wr.cell? ⟨gb500, 3, none⟩ = some (.int .i64 a1_3) := (blk_cell BK500.out 3).trans rfl
            have hcz11_4 : wr.cell? ⟨gb500, 4, none⟩ = some (.int .i64 a1_4) := (blk_cell BK500.out 4).trans rfl
            have hcz11_5 : wr.cell? ⟨gb500, 5, none⟩ = some (.int .i64 a1_5) := (blk_cell BK500.out 5).trans rfl
            have hfz11_0 := blk_frozen BK500.out 0
            have hfz11_1 := blk_frozen BK500.out 1
            have hfz11_2 := blk_frozen BK500.out 2
            have hfz11_3 := blk_frozen BK500.out 3
            have hfz11_4 := blk_frozen BK500.out 4
            have hfz11_5 := blk_frozen BK500.out 5
            go_wp2_with (first | ((with_reducible refine gate_builtin (b := .append) (xs := #[.tmp 33, .tmp 35]) rfl ?_); at_builtin; refine Kd.R_append k45 (w0 := w) w.heap.size rfl (.tmp 33) (.tmp 35) 22 45 (.agg #[(.int .i64 0), (.int .i64 0), (.bool false), (.int .i64 0), (.int .i64 0), (.int .i64 0)]) 48 rfl Try.underlying22 info45 rfl (by decide) (by omega) u7 x7_1 (⟨x8_1, Int.tmod (wrap64 (x8_1 + 1)) (wrap64 (2 + (Int.tmod (wrap64 (a0)) 3))), (⟨a1_2, a1_3, a1_4⟩ : S43), a1_5⟩ : S45) [.int .i64 x8_1, .int .i64 (Int.tmod (wrap64 (x8_1 + 1)) (wrap64 (2 + (Int.tmod (wrap64 (a0)) 3)))), .bool a1_2, .int .i64 a1_3, .int .i64 a1_4, .int .i64 a1_5] (fun k_ => k_ ≠ gb500) (fun _ => False) rfl (by first | rfl | (go_simp; done) | (go_simp; rfl)) ?aP (fun _ hk => hk.elim) ?aF ?aO ?aB ?aS ?aL ?_; (case aP => exact k45_mkM _ _ _ (⟨x8_1, Int.tmod (wrap64 (x8_1 + 1)) (wrap64 (2 + (Int.tmod (wrap64 (a0)) 3))), (⟨a1_2, a1_3, a1_4⟩ : S43), a1_5⟩ : S45)); (case aB => exact (by repeat (first | (with_reducible first | exact HB.out | apply below_alloc | apply pw_below_drewN | apply below_drew1 | refine below_set ?_ GE500.out) | exact HB.out))); (case aF => exact (fun k_ hk => Kd.freshB (g := gb500) (o := .cells #[.int .i64 a1_0, .int .i64 a1_1, .bool a1_2, .int .i64 a1_3, .int .i64 a1_4, .int .i64 a1_5] 45 (0, 0)) (by (with_reducible repeat (first | refine blk_drewN ?_ _ | refine blk_drew ?_ | refine blk_alloc ?_ _)); exact BK500.out) k_ hk)); (case aO => exact (by (with_reducible repeat (first | apply Kd.R_alloc | apply Kd.R_drewN | apply Kd.R_drew)); exact HO_7.out)); (case aS => exact (below_size (by repeat (first | (with_reducible first | exact HB.out | apply below_alloc | apply pw_below_drewN | apply below_drew1 | refine below_set ?_ GE500.out) | exact HB.out)))); (case aL => have := LMc10.out; omega); intro v506 w12 ho hb hg hat; rw [← Ny505.out] at ho; have n0_ := Aside0.mk (blk_grown (g := gb500) (o := .cells #[.int .i64 a1_0, .int .i64 a1_1, .bool a1_2, .int .i64 a1_3, .int .i64 a1_4, .int .i64 a1_5] 45 (0, 0)) (by (with_reducible repeat (first | refine blk_drewN ?_ _ | refine blk_drew ?_ | refine blk_alloc ?_ _)); exact BK500.out) hg (Kd.R_away HO_7.out (fun _ hk => hk))); have n1_ := Aside0.mk (hb); have n2_ := Aside0.mk (ho); clear BK500; clear HB; clear HO_7; have BK500 := n0_; have HB := n1_; have HO507 := n2_; clear n0_ n1_ n2_; clear ho hb hg hat))
            go_roundg k1
            case measure => have := HK1.out; omega
            case rel => exact ⟨(y505), (wrap64 (x8_1 + 1)), (by first | rfl | (simp; done) | (simp [*]; done)), H', ⟨by have := HK1.out; omega⟩, ⟨by (with_reducible repeat (first | apply Kd.R_alloc | apply Kd.R_drewN | apply Kd.R_drew)); exact HO507.out⟩, ⟨by (with_reducible repeat (first | refine blk_drewN ?_ _ | refine blk_drew ?_ | refine blk_alloc ?_ _)); exact BK500.out⟩, ⟨by repeat (first | (with_reducible first | exact HB.out | apply below_alloc | apply pw_below_drewN | apply below_drew1 | refine below_set ?_ GE500.out) | exact HB.out)⟩⟩
          · rw [if_neg c10] at H
            exact absurd H (by simp)
      · rw [if_neg c8] at H
        have c8b0 : decide (x8_1 < (wrap64 (2 + (Int.tmod (wrap64 (a0)) 3)))) = false := decide_eq_false c8
        clear c8
        obtain ⟨y508, hy508⟩ : ∃ y_ : List (S45), y_ = (([] : List (S45))) := ⟨_, rfl⟩
        replace H : (phaetonlaw12_RouteBack.l1 k1 t501 (wrap64 (2 + (Int.tmod (wrap64 (a0)) 3))) x7_1 y508 0) = some r := by first | (rw [hy508]; with_reducible exact H) | (have H2_ := (Option.bind_some _ _).symm.trans H; rw [hy508]; with_reducible exact H2_) | (have H2_ := (Option.bind_some _ _).symm.trans H; with_reducible exact H2_) | with_reducible exact H | (rw [hy508]; exact H) | exact H
        have Ny508 := Aside0.mk hy508
        clear hy508
        have H' := Aside0.mk H
        clear H
        go_wp2_with (first | ((with_reducible refine gate_dst (N := 37) rfl ?_); refine Kd.R_lit k45 _ 45 ?hg (N := 37) ?hd (xs := ([] : List (S45))) (inner := []) (ok := fun _ => True) (okp := fun _ => True) ?hr ?hp (fun _ hk => hk) trivial (Below.refl _ _) (Nat.le_refl _) (by simp) ?_; (case hd => rfl); (case hg => rfl); (case hr => first | (go_simp; done) | (go_simp; rfl)); (case hp => exact (Reps.none _ _)); intro v509 w13 ho14 hb hg_ hnew_; clear hg_ hnew_; (first | rw [← Ny508.out] at ho14 | (simp only [Int.reduceToNat] at ho14; rw [← Ny508.out] at ho14)); have n0_ := Aside0.mk (Kd.R_elder' (by (with_reducible repeat (first | apply Kd.R_alloc | apply Kd.R_drewN | apply Kd.R_drew)); exact HO_7.out) (Kd.R_base ho14) hb); have n1_ := Aside0.mk (Kd.R_lower (Kd.R_newB (Kd.R_new' ho14 (Kd.R_lt (by (with_reducible repeat (first | apply Kd.R_alloc | apply Kd.R_drewN | apply Kd.R_drew)); exact HO_7.out))) (g := gb500) (o := .cells #[.int .i64 a1_0, .int .i64 a1_1, .bool a1_2, .int .i64 a1_3, .int .i64 a1_4, .int .i64 a1_5] 45 (0, 0)) (by (with_reducible repeat (first | refine blk_drewN ?_ _ | refine blk_drew ?_ | refine blk_alloc ?_ _)); exact BK500.out)) (below_size (by repeat (first | (with_reducible first | exact HB.out | apply below_alloc | apply pw_below_drewN | apply below_drew1 | refine below_set ?_ GE500.out) | exact HB.out)))); have n2_ := Aside0.mk (blk_below (g := gb500) (o := .cells #[.int .i64 a1_0, .int .i64 a1_1, .bool a1_2, .int .i64 a1_3, .int .i64 a1_4, .int .i64 a1_5] 45 (0, 0)) (by (with_reducible repeat (first | refine blk_drewN ?_ _ | refine blk_drew ?_ | refine blk_alloc ?_ _)); exact BK500.out) hb); have n3_ := Aside0.mk (below_step (by repeat (first | (with_reducible first | exact HB.out | apply below_alloc | apply pw_below_drewN | apply below_drew1 | refine below_set ?_ GE500.out) | exact HB.out)) hb); clear HO_7; clear BK500; clear HB; have HO_7 := n0_; have HO510 := n1_; have BK500 := n2_; have HB := n3_; clear n0_ n1_ n2_ n3_; clear hb ho14))
        go_loopg [10, 11] k1 (fun kq v10 v11 w' => ∃ (x10_2 : List (S45)) (x11_2 : Int), v11 = .int .i64 x11_2 ∧ Aside0 (phaetonlaw12_RouteBack.l1 kq t501 (wrap64 (2 + (Int.tmod (wrap64 (a0)) 3))) x7_1 x10_2 x11_2 = some r) ∧ Aside0 (kq ≤ k1) ∧ Aside0 (Kd.R k45 45 w' w.heap.size (fun k_ => some k_ ≠ (v10 : Value).ownBlock ∧ k_ ≠ gb500) u7 x7_1) ∧ Aside0 (Kd.R k45 45 w' w.heap.size (fun k_ => some k_ ≠ (u7 : Value).ownBlock ∧ k_ ≠ gb500) v10 x10_2) ∧ Aside0 (w'.heap[gb500]? = some (.cells #[.int .i64 a1_0, .int .i64 a1_1, .bool a1_2, .int .i64 a1_3, .int .i64 a1_4, .int .i64 a1_5] 45 (0, 0))) ∧ Aside0 (Below w.heap.size w w'))
        case atStart => exact ⟨(y508), (0), (by first | rfl | (simp; done) | (simp [*]; done)), H', ⟨Nat.le_refl _⟩, ⟨by (with_reducible repeat (first | apply Kd.R_alloc | apply Kd.R_drewN | apply Kd.R_drew)); exact Kd.R_mono HO_7.out (fun _ hk => ⟨hk.2, hk.1⟩)⟩, ⟨by (with_reducible repeat (first | apply Kd.R_alloc | apply Kd.R_drewN | apply Kd.R_drew)); exact Kd.R_mono HO510.out (fun _ hk => ⟨hk.1.2, hk.2⟩)⟩, ⟨by (with_reducible repeat (first | refine blk_drewN ?_ _ | refine blk_drew ?_ | refine blk_alloc ?_ _)); exact BK500.out⟩, ⟨by repeat (first | (with_reducible first | exact HB.out | apply below_alloc | apply pw_below_drewN | apply below_drew1 | refine below_set ?_ GE500.out) | exact HB.out)⟩⟩
        case round =>
          clear H'
          try clear c1
          try clear p2
          try clear p6
          try clear c8
          try clear c8b0
          try clear c9
          try clear c9b0
          try clear c9b1
          try clear c10
          try clear hcz11_0
          try clear hcz11_1
          try clear hcz11_2
          try clear hcz11_3
          try clear hcz11_4
          try clear hcz11_5
          try clear hfz11_0
          try clear hfz11_1
          try clear hfz11_2
          try clear hfz11_3
          try clear hfz11_4
          try clear hfz11_5
          try clear p2
          try clear p6
          obtain ⟨x10_2, x11_2, rfl, HA, HK2, HO_7, HO_10, BK500, HB⟩ := hrel
          cases gk with
          | zero => exact absurd HA.out (by simp [phaetonlaw12_RouteBack.l1])
          | succ k2 =>
            have H := HA.out
            clear HA
            simp only [phaetonlaw12_RouteBack.l1] at H
            by_cases c15 : x11_2 < (wrap64 (2 + (Int.tmod (wrap64 (a0)) 3)))
            · rw [if_pos c15] at H
              have c15b0 : decide (x11_2 < (wrap64 (2 + (Int.tmod (wrap64 (a0)) 3)))) = true := decide_eq_true c15
              clear c15
              by_cases c16 : 0 ≤ x11_2
              · rw [if_pos c16] at H
                have c16b0 := eq_true c16
                have c16b1 : decide (0 ≤ x11_2) = true := decide_eq_true c16
                clear c16
                by_cases c17 : x11_2 ≤ (wrap64 (x11_2 + 1))
                · rw [if_pos c17] at H
                  have c17b0 := eq_true c17
                  have c17b1 : decide (x11_2 ≤ (wrap64 (x11_2 + 1))) = true := decide_eq_true c17
                  by_cases c18 : (wrap64 (x11_2 + 1)) ≤ (x7_1.length : Int)
                  · rw [if_pos c18] at H
                    have c18b0 := eq_true c18
                    have c18b1 : decide ((wrap64 (x11_2 + 1)) ≤ (x7_1.length : Int)) = true := decide_eq_true c18
                    obtain ⟨y511, hy511⟩ : ∃ y_ : List (S45), y_ = ((x7_1.take ((wrap64 (x11_2 + 1)) : Int).toNat).drop (x11_2 : Int).toNat) := ⟨_, rfl⟩
                    replace H : ((phaetonlaw12_Cut.f k2 y511 1).bind fun t515 => (if x10_2.length + t515.length < 2932031007402 then (phaetonlaw12_RouteBack.l1 k2 t501 (wrap64 (2 + (Int.tmod (wrap64 (a0)) 3))) x7_1 (x10_2 ++ t515) (wrap64 (x11_2 + 1))) else (none))) = some r := by first | (rw [hy511]; with_reducible exact H) | (have H2_ := (Option.bind_some _ _).symm.trans H; rw [hy511]; with_reducible exact H2_) | (have H2_ := (Option.bind_some _ _).symm.trans H; with_reducible exact H2_) | with_reducible exact H | (rw [hy511]; exact H) | exact H
                    have Ny511 := Aside0.mk hy511
                    clear hy511
                    replace H := Option.bind_eq_some_iff.mp H
                    obtain ⟨t515, A190, H⟩ := H
                    replace H : (if x10_2.length + t515.length < 2932031007402 then (phaetonlaw12_RouteBack.l1 k2 t501 (wrap64 (2 + (Int.tmod (wrap64 (a0)) 3))) x7_1 (x10_2 ++ t515) (wrap64 (x11_2 + 1))) else (none)) = some r := H
                    have A19 := Aside0.mk A190
                    clear A190
                    by_cases c20 : x10_2.length + t515.length < 2932031007402
                    · rw [if_pos c20] at H
                      have LMc20 := Aside0.mk c20
                      clear c20
                      obtain ⟨y518, hy518⟩ : ∃ y_ : List (S45), y_ = (x10_2 ++ t515) := ⟨_, rfl⟩
                      replace H : (phaetonlaw12_RouteBack.l1 k2 t501 (wrap64 (2 + (Int.tmod (wrap64 (a0)) 3))) x7_1 y518 (wrap64 (x11_2 + 1))) = some r := by first | (rw [hy518]; with_reducible exact H) | (have H2_ := (Option.bind_some _ _).symm.trans H; rw [hy518]; with_reducible exact H2_) | (have H2_ := (Option.bind_some _ _).symm.trans H; with_reducible exact H2_) | with_reducible exact H | (rw [hy518]; exact H) | exact H
                      have Ny518 := Aside0.mk hy518
                      clear hy518
                      have H' := Aside0.mk H
                      clear H
                      obtain ⟨Ao22, co22, eo22⟩ := Kd.R_slice HO_7.out
                      subst eo22
                      have q21 : ((wrap64 (x11_2 + 1)) : Int) ≤ ((x7_1.length : Int) : Int) := of_decide_eq_true (by first | (with_reducible assumption) | assumption)
                      obtain ⟨i021, hi021, _, hsz21, _⟩ := info_parts info45
                      have hroom21 : x7_1.length ≤ co22 := (Kd.R_reads' HO_7.out).2.1
                      have hC21 : Kd.C k45 _ Ao22 x7_1.length x7_1 := (Kd.R_reads' HO_7.out).2.2
                      have ql21 : (x11_2 : Int) ≤ ((wrap64 (x11_2 + 1)) : Int) := of_decide_eq_true (by first | (with_reducible assumption) | assumption)
                      have q021 : (0 : Int) ≤ (x11_2 : Int) := of_decide_eq_true (by first | (with_reducible assumption) | assumption)
                      have hcut21 := cut_mid (P := Try.prog) 22 45 .i64 .i64 Try.underlying22 hi021 6 hsz21 Ao22 x7_1.length co22 x11_2 (wrap64 (x11_2 + 1)) q021 ql21 q21 hroom21
                      have hr21 := Kd.C_mid (lo := (x11_2 : Int).toNat) (hi := ((wrap64 (x11_2 + 1)) : Int).toNat) (c := co22) hC21 (by omega) (by omega) hroom21
                      obtain ⟨A21, hA21⟩ : ∃ A1, A1 = (if co22 = (x11_2 : Int).toNat then Ao22 else (Ao22 : Option Addr).map (·.add ((x11_2 : Int).toNat * 6))) := ⟨_, rfl⟩
                      obtain ⟨c21, hc21⟩ : ∃ c1, c1 = co22 - (x11_2 : Int).toNat := ⟨_, rfl⟩
                      have hy21 : y511.length = ((wrap64 (x11_2 + 1)) : Int).toNat - (x11_2 : Int).toNat := (by rw [Ny511.out, List.length_drop, List.length_take] <;> omega)
                      rw [show ((x7_1).take ((wrap64 (x11_2 + 1)) : Int).toNat).drop (x11_2 : Int).toNat = y511 from Ny511.out.symm] at hr21
                      replace hr21 : Kd.C k45 _ A21 y511.length y511 := (by rw [hA21]; exact hr21)
                      rw [← hy21, ← hA21, ← hc21] at hcut21
                      have HR514 := Aside0.mk hr21
                      have HC514 := Aside0.mk (show y511.length ≤ c21 from by rw [hy21, hc21]; exact Nat.sub_le_sub_right (Nat.le_trans (by omega) hroom21) _)
                      clear hr21 hC21 hroom21 hi021 hsz21 hc21
                      have KY21 := Aside0.mk hy21
                      have KA21 := Aside0.mk hA21
                      clear hy21 hA21
                      have KL21 := Aside0.mk (show ((wrap64 (x11_2 + 1)) : Int).toNat ≤ x7_1.length from by omega)
                      have KM21 := Aside0.mk (show (x11_2 : Int).toNat ≤ ((wrap64 (x11_2 + 1)) : Int).toNat from by omega)
                      replace q21 := eq_true q21
                      go_wp2_with (first | ((with_reducible refine gate_callee (f := 16) rfl ?_); refine goesL_ (some 49) rfl rfl Try.func16 (by kernel_rfl) rfl #[.slice A21 y511.length c21, .int .i64 1] rfl (by (try simp only [List.map_toArray, List.map_cons, List.map_nil]); first | done | rfl | (simp only [List.length_drop, List.length_take]; rfl)) ?_; (with_reducible refine (phaetonlaw12_Cut.calls k2 _ _ y511 1 t515 _ ?side1 ?side2 A19.out).mono ?_); (case side1 => repeat (first | exact (by repeat (first | (with_reducible exact HR514.out) | (with_reducible refine Kd.C_alloc ?_ _) | (with_reducible refine Kd.C_drewN ?_ _) | (with_reducible refine Kd.C_drew ?_) | exact HR514.out)) | (with_reducible refine Kd.C_alloc ?_ _) | (with_reducible refine Kd.C_drewN ?_ _) | (with_reducible refine Kd.C_drew ?_))); (case side2 => exact HC514.out); rintro e w23 ⟨v516, rfl, ho0, hb⟩; refine ⟨_, rfl, ?_⟩; have n0_ := Aside0.mk (Kd.R_elder' (by (with_reducible repeat (first | apply Kd.R_alloc | apply Kd.R_drewN | apply Kd.R_drew)); exact HO_7.out) (Kd.R_base ho0) hb); have n1_ := Aside0.mk (Kd.R_elder' (by (with_reducible repeat (first | apply Kd.R_alloc | apply Kd.R_drewN | apply Kd.R_drew)); exact HO_10.out) (Kd.R_base ho0) hb); have n2_ := Aside0.mk (Kd.R_lower (Kd.R_newB (Kd.R_new' (Kd.R_new' ho0 (Kd.R_lt (by (with_reducible repeat (first | apply Kd.R_alloc | apply Kd.R_drewN | apply Kd.R_drew)); exact HO_7.out))) (Kd.R_lt (by (with_reducible repeat (first | apply Kd.R_alloc | apply Kd.R_drewN | apply Kd.R_drew)); exact HO_10.out))) (g := gb500) (o := .cells #[.int .i64 a1_0, .int .i64 a1_1, .bool a1_2, .int .i64 a1_3, .int .i64 a1_4, .int .i64 a1_5] 45 (0, 0)) (by (with_reducible repeat (first | refine blk_drewN ?_ _ | refine blk_drew ?_ | refine blk_alloc ?_ _)); exact BK500.out)) (below_size (by repeat (first | (with_reducible first | exact HB.out | apply below_alloc | apply pw_below_drewN | apply below_drew1 | refine below_set ?_ GE500.out) | exact HB.out)))); have n3_ := Aside0.mk (blk_below (g := gb500) (o := .cells #[.int .i64 a1_0, .int .i64 a1_1, .bool a1_2, .int .i64 a1_3, .int .i64 a1_4, .int .i64 a1_5] 45 (0, 0)) (by (with_reducible repeat (first | refine blk_drewN ?_ _ | refine blk_drew ?_ | refine blk_alloc ?_ _)); exact BK500.out) hb); have n4_ := Aside0.mk (Kd.C_below (by repeat (first | (with_reducible exact HR514.out) | (with_reducible refine Kd.C_alloc ?_ _) | (with_reducible refine Kd.C_drewN ?_ _) | (with_reducible refine Kd.C_drew ?_) | exact HR514.out)) hb); have n5_ := Aside0.mk (below_step (by repeat (first | (with_reducible first | exact HB.out | apply below_alloc | apply pw_below_drewN | apply below_drew1 | refine below_set ?_ GE500.out) | exact HB.out)) hb); clear HO_7; clear HO_10; clear BK500; clear HR514; clear HB; have HO_7 := n0_; have HO_10 := n1_; have HO517 := n2_; have BK500 := n3_; have HR514 := n4_; have HB := n5_; clear n0_ n1_ n2_ n3_ n4_ n5_; (try clear hb); (try clear hb2); (try clear hk); (try clear hi); (try clear ho0); obtain ⟨Ao25, co25, eo25⟩ := Kd.R_slice HO517.out; subst eo25) | ((with_reducible refine gate_builtin (b := .append) (xs := #[.tmp 43, .tmp 49]) rfl ?_); at_builtin; refine Kd.R_append_rows k45 (w0 := w) w.heap.size rfl (.tmp 43) (.tmp 49) 22 45 (.agg #[(.int .i64 0), (.int .i64 0), (.bool false), (.int .i64 0), (.int .i64 0), (.int .i64 0)]) 48 rfl Try.underlying22 info45 rfl (by decide) (by omega) u10 x10_2 t515 _ _ _ (fun k_ => some k_ ≠ (.slice Ao22 x7_1.length co22 : Value).ownBlock ∧ some k_ ≠ (.slice Ao25 t515.length co25 : Value).ownBlock ∧ k_ ≠ gb500) (fun _ => False) rfl rfl ?aO ?aR (fun _ _ h => h) (fun _ h => h.elim) ?aF ?aB ?aS ?aL ?_; (case aR => repeat (first | exact (Kd.R_reads' HO517.out).2.2 | (with_reducible refine Kd.C_alloc ?_ _) | (with_reducible refine Kd.C_drewN ?_ _) | (with_reducible refine Kd.C_drew ?_))); (case aB => exact (by repeat (first | (with_reducible first | exact HB.out | apply below_alloc | apply pw_below_drewN | apply below_drew1 | refine below_set ?_ GE500.out) | exact HB.out))); (case aF => exact (fun k_ hk => ⟨Kd.fresh' (Kd.R_lt (by (with_reducible repeat (first | apply Kd.R_alloc | apply Kd.R_drewN | apply Kd.R_drew)); exact HO_7.out)) k_ hk, Kd.fresh' (Kd.R_lt (by (with_reducible repeat (first | apply Kd.R_alloc | apply Kd.R_drewN | apply Kd.R_drew)); exact HO517.out)) k_ hk, Kd.freshB (g := gb500) (o := .cells #[.int .i64 a1_0, .int .i64 a1_1, .bool a1_2, .int .i64 a1_3, .int .i64 a1_4, .int .i64 a1_5] 45 (0, 0)) (by (with_reducible repeat (first | refine blk_drewN ?_ _ | refine blk_drew ?_ | refine blk_alloc ?_ _)); exact BK500.out) k_ hk⟩)); (case aO => exact (by (with_reducible repeat (first | apply Kd.R_alloc | apply Kd.R_drewN | apply Kd.R_drew)); exact Kd.R_mono HO_10.out (fun _ hk => ⟨hk.1.1, ⟨hk.2, hk.1.2⟩⟩))); (case aS => exact (below_size (by repeat (first | (with_reducible first | exact HB.out | apply below_alloc | apply pw_below_drewN | apply below_drew1 | refine below_set ?_ GE500.out) | exact HB.out)))); (case aL => have := LMc20.out; omega); intro v519 w24 ho hb hg hat; rw [← Ny518.out] at ho; have n0_ := Aside0.mk (Kd.R_after (ok := (fun k_ => some k_ ≠ (.slice Ao25 t515.length co25 : Value).ownBlock ∧ k_ ≠ gb500)) (by (with_reducible repeat (first | apply Kd.R_alloc | apply Kd.R_drewN | apply Kd.R_drew)); exact Kd.R_mono HO_7.out (fun _ hk => ⟨⟨hk.2, hk.1.2⟩, hk.1.1⟩)) hg hat); have n1_ := Aside0.mk (blk_grown (g := gb500) (o := .cells #[.int .i64 a1_0, .int .i64 a1_1, .bool a1_2, .int .i64 a1_3, .int .i64 a1_4, .int .i64 a1_5] 45 (0, 0)) (by (with_reducible repeat (first | refine blk_drewN ?_ _ | refine blk_drew ?_ | refine blk_alloc ?_ _)); exact BK500.out) hg (Kd.R_away HO_10.out (fun _ hk => hk.1.2))); have n2_ := Aside0.mk (Kd.R_after (ok := (fun k_ => some k_ ≠ (.slice Ao22 x7_1.length co22 : Value).ownBlock ∧ k_ ≠ gb500)) (by (with_reducible repeat (first | apply Kd.R_alloc | apply Kd.R_drewN | apply Kd.R_drew)); exact Kd.R_mono HO517.out (fun _ hk => ⟨⟨hk.1.1.2, hk.2⟩, hk.1.2⟩)) hg hat); have n3_ := Aside0.mk (hb); have n4_ := Aside0.mk ((show Kd.C k45 w24 A21 y511.length y511 from by rw [Ny511.out, KA21.out]; exact Kd.C_mid (lo := (x11_2 : Int).toNat) (hi := ((wrap64 (x11_2 + 1)) : Int).toNat) (c := co22) ((Kd.R_reads' (Kd.R_after (ok := (fun k_ => some k_ ≠ (.slice Ao25 t515.length co25 : Value).ownBlock ∧ k_ ≠ gb500)) (by (with_reducible repeat (first | apply Kd.R_alloc | apply Kd.R_drewN | apply Kd.R_drew)); exact Kd.R_mono HO_7.out (fun _ hk => ⟨⟨hk.2, hk.1.2⟩, hk.1.1⟩)) hg hat)).2.2) KM21.out KL21.out ((Kd.R_reads' (Kd.R_after (ok := (fun k_ => some k_ ≠ (.slice Ao25 t515.length co25 : Value).ownBlock ∧ k_ ≠ gb500)) (by (with_reducible repeat (first | apply Kd.R_alloc | apply Kd.R_drewN | apply Kd.R_drew)); exact Kd.R_mono HO_7.out (fun _ hk => ⟨⟨hk.2, hk.1.2⟩, hk.1.1⟩)) hg hat)).2.1))); have n5_ := Aside0.mk (ho); clear HO_7; clear BK500; clear HO517; clear HB; clear HR514; clear HO_10; have HO_7 := n0_; have BK500 := n1_; have HO517 := n2_; have HB := n3_; have HR514 := n4_; have HO520 := n5_; clear n0_ n1_ n2_ n3_ n4_ n5_; clear ho hb hg hat))
                      go_roundg k2
                      case measure => have := HK1.out; have := HK2.out; omega
                      case rel => exact ⟨(y518), (wrap64 (x11_2 + 1)), (by first | rfl | (simp; done) | (simp [*]; done)), H', ⟨by have := HK1.out; have := HK2.out; omega⟩, ⟨by (with_reducible repeat (first | apply Kd.R_alloc | apply Kd.R_drewN | apply Kd.R_drew)); exact Kd.R_mono HO_7.out (fun _ hk => ⟨hk.2, hk.1.2⟩)⟩, ⟨by (with_reducible repeat (first | apply Kd.R_alloc | apply Kd.R_drewN | apply Kd.R_drew)); exact Kd.R_mono HO520.out (fun _ hk => ⟨hk.1, hk.2.2⟩)⟩, ⟨by (with_reducible repeat (first | refine blk_drewN ?_ _ | refine blk_drew ?_ | refine blk_alloc ?_ _)); exact BK500.out⟩, ⟨by repeat (first | (with_reducible first | exact HB.out | apply below_alloc | apply pw_below_drewN | apply below_drew1 | refine below_set ?_ GE500.out) | exact HB.out)⟩⟩
                    · rw [if_neg c20] at H
                      exact absurd H (by simp)
                  · rw [if_neg c18] at H
                    exact absurd H (by simp)
                · rw [if_neg c17] at H
                  exact absurd H (by simp)
              · rw [if_neg c16] at H
                exact absurd H (by simp)
            · rw [if_neg c15] at H
              have c15b0 : decide (x11_2 < (wrap64 (2 + (Int.tmod (wrap64 (a0)) 3)))) = false := decide_eq_false c15
              clear c15
              have HC26 := Aside0.mk H
              clear H
              go_upto_region 16 with (fail)
              go_cut [69] (fun v69 wc => ∃ (kq : Nat) (x69_25 : Bool), v69 = .bool x69_25 ∧ Aside0 (phaetonlaw12_RouteBack.j2 kq t501 (wrap64 (2 + (Int.tmod (wrap64 (a0)) 3))) x10_2 x69_25 = some r) ∧ Aside0 (kq ≤ k2) ∧ Aside0 (Kd.R k45 45 wc w.heap.size (fun k_ => k_ ≠ gb500) u10 x10_2) ∧ Aside0 (wc.heap[gb500]? = some (.cells #[.int .i64 a1_0, .int .i64 a1_1, .bool a1_2, .int .i64 a1_3, .int .i64 a1_4, .int .i64 a1_5] 45 (0, 0))) ∧ Aside0 (Below w.heap.size w wc))
              case first =>
                have H := HC26.out
                clear HC26
                by_cases c27 : (x10_2.length : Int) = (wrap64 (2 + (Int.tmod (wrap64 (a0)) 3)))
                · rw [if_pos c27] at H
                  have c27b0 : ((x10_2.length : Int) == (wrap64 (2 + (Int.tmod (wrap64 (a0)) 3)))) = true := beq_iff_eq.mpr c27
                  have c27b1 : ((x10_2.length : Int) != (wrap64 (2 + (Int.tmod (wrap64 (a0)) 3)))) = false := bne_eq_false_iff_eq.mpr c27
                  clear c27
                  (first | rw [c27b0] | (simp only [i64_w, i32_w]; rw [c27b0]) | skip)
                  replace H := Option.bind_eq_some_iff.mp H
                  obtain ⟨t521, A280, H⟩ := H
                  replace H : (if t521 = true then ((route_Loopless.f k2 x10_2 (wrap64 (2 + (Int.tmod (wrap64 (a0)) 3)))).bind fun t522 => (if t522 = true then (phaetonlaw12_RouteBack.j2 k2 t501 (wrap64 (2 + (Int.tmod (wrap64 (a0)) 3))) x10_2 true) else ((route_Loopless.f k2 x10_2 4).bind fun t523 => (phaetonlaw12_RouteBack.j2 k2 t501 (wrap64 (2 + (Int.tmod (wrap64 (a0)) 3))) x10_2 t523)))) else (phaetonlaw12_RouteBack.j2 k2 t501 (wrap64 (2 + (Int.tmod (wrap64 (a0)) 3))) x10_2 true)) = some r := H
                  have A28 := Aside0.mk A280
                  clear A280
                  by_cases c29 : t521 = true
                  · subst c29
                    have H1 : ((route_Loopless.f k2 x10_2 (wrap64 (2 + (Int.tmod (wrap64 (a0)) 3)))).bind fun t522 => (if t522 = true then (phaetonlaw12_RouteBack.j2 k2 t501 (wrap64 (2 + (Int.tmod (wrap64 (a0)) 3))) x10_2 true) else ((route_Loopless.f k2 x10_2 4).bind fun t523 => (phaetonlaw12_RouteBack.j2 k2 t501 (wrap64 (2 + (Int.tmod (wrap64 (a0)) 3))) x10_2 t523)))) = some r := by rw [if_pos rfl] at H; exact H
                    clear H
                    have H := H1
                    clear H1
                    replace H := Option.bind_eq_some_iff.mp H
                    obtain ⟨t522, A300, H⟩ := H
                    replace H : (if t522 = true then (phaetonlaw12_RouteBack.j2 k2 t501 (wrap64 (2 + (Int.tmod (wrap64 (a0)) 3))) x10_2 true) else ((route_Loopless.f k2 x10_2 4).bind fun t523 => (phaetonlaw12_RouteBack.j2 k2 t501 (wrap64 (2 + (Int.tmod (wrap64 (a0)) 3))) x10_2 t523))) = some r := H
                    have A30 := Aside0.mk A300
                    clear A300
                    by_cases c31 : t522 = true
                    · subst c31
                      have H1 : (phaetonlaw12_RouteBack.j2 k2 t501 (wrap64 (2 + (Int.tmod (wrap64 (a0)) 3))) x10_2 true) = some r := by rw [if_pos rfl] at H; exact H
                      clear H
                      have H := H1
                      clear H1
                      have H' := Aside0.mk H
                      clear H
                      obtain ⟨Ao32, co32, eo32⟩ := Kd.R_slice HO_10.out
                      subst eo32
                      go_wp2_with (first | (go_at_call 12; (with_reducible refine (route_Right.calls k2 _ _ x10_2 (wrap64 (2 + (Int.tmod (wrap64 (a0)) 3))) true _ ?side1 ?side2 A28.out).mono ?_); (case side1 => repeat (first | exact (Kd.R_reads' HO_10.out).2.2 | (with_reducible refine Kd.C_alloc ?_ _) | (with_reducible refine Kd.C_drewN ?_ _) | (with_reducible refine Kd.C_drew ?_))); (case side2 => exact (Kd.R_reads' HO_10.out).2.1); rintro e w33 ⟨rfl, hb⟩; have n0_ := Aside0.mk (Kd.R_below (by (with_reducible repeat (first | apply Kd.R_alloc | apply Kd.R_drewN | apply Kd.R_drew)); exact HO_7.out) hb); have n1_ := Aside0.mk (Kd.R_below (by (with_reducible repeat (first | apply Kd.R_alloc | apply Kd.R_drewN | apply Kd.R_drew)); exact HO_10.out) hb); have n2_ := Aside0.mk (blk_below (g := gb500) (o := .cells #[.int .i64 a1_0, .int .i64 a1_1, .bool a1_2, .int .i64 a1_3, .int .i64 a1_4, .int .i64 a1_5] 45 (0, 0)) (by (with_reducible repeat (first | refine blk_drewN ?_ _ | refine blk_drew ?_ | refine blk_alloc ?_ _)); exact BK500.out) hb); have n3_ := Aside0.mk (below_step (by repeat (first | (with_reducible first | exact HB.out | apply below_alloc | apply pw_below_drewN | apply below_drew1 | refine below_set ?_ GE500.out) | exact HB.out)) hb); clear HO_7; clear HO_10; clear BK500; clear HB; have HO_7 := n0_; have HO_10 := n1_; have BK500 := n2_; have HB := n3_; clear n0_ n1_ n2_ n3_; (try clear hb); (try clear hb2); (try clear hk); (try clear hi)) | (go_at_call 14; (with_reducible refine (route_Loopless.calls k2 _ _ x10_2 (wrap64 (2 + (Int.tmod (wrap64 (a0)) 3))) true _ ?side1 ?side2 A30.out).mono ?_); (case side1 => repeat (first | exact (Kd.R_reads' HO_10.out).2.2 | (with_reducible refine Kd.C_alloc ?_ _) | (with_reducible refine Kd.C_drewN ?_ _) | (with_reducible refine Kd.C_drew ?_))); (case side2 => exact (Kd.R_reads' HO_10.out).2.1); rintro e w34 ⟨rfl, hb⟩; have n0_ := Aside0.mk (Kd.R_below (by (with_reducible repeat (first | apply Kd.R_alloc | apply Kd.R_drewN | apply Kd.R_drew)); exact HO_7.out) hb); have n1_ := Aside0.mk (Kd.R_below (by (with_reducible repeat (first | apply Kd.R_alloc | apply Kd.R_drewN | apply Kd.R_drew)); exact HO_10.out) hb); have n2_ := Aside0.mk (blk_below (g := gb500) (o := .cells #[.int .i64 a1_0, .int .i64 a1_1, .bool a1_2, .int .i64 a1_3, .int .i64 a1_4, .int .i64 a1_5] 45 (0, 0)) (by (with_reducible repeat (first | refine blk_drewN ?_ _ | refine blk_drew ?_ | refine blk_alloc ?_ _)); exact BK500.out) hb); have n3_ := Aside0.mk (below_step (by repeat (first | (with_reducible first | exact HB.out | apply below_alloc | apply pw_below_drewN | apply below_drew1 | refine below_set ?_ GE500.out) | exact HB.out)) hb); clear HO_7; clear HO_10; clear BK500; clear HB; have HO_7 := n0_; have HO_10 := n1_; have BK500 := n2_; have HB := n3_; clear n0_ n1_ n2_ n3_; (try clear hb); (try clear hb2); (try clear hk); (try clear hi)))
                      go_meet
                      case rel => exact ⟨_, (true), (by first | rfl | (simp; done) | (simp [*]; done)), H', ⟨by have := HK1.out; have := HK2.out; first | omega | exact Nat.le_refl _⟩, ⟨by (with_reducible repeat (first | apply Kd.R_alloc | apply Kd.R_drewN | apply Kd.R_drew)); exact Kd.R_mono HO_10.out (fun _ hk => hk.2)⟩, ⟨by (with_reducible repeat (first | refine blk_drewN ?_ _ | refine blk_drew ?_ | refine blk_alloc ?_ _)); exact BK500.out⟩, ⟨by repeat (first | (with_reducible first | exact HB.out | apply below_alloc | apply pw_below_drewN | apply below_drew1 | refine below_set ?_ GE500.out) | exact HB.out)⟩⟩
                    · replace c31 := Bool.eq_false_iff.mpr c31
                      subst c31
                      have H1 : ((route_Loopless.f k2 x10_2 4).bind fun t523 => (phaetonlaw12_RouteBack.j2 k2 t501 (wrap64 (2 + (Int.tmod (wrap64 (a0)) 3))) x10_2 t523)) = some r := by rw [if_neg (show ¬ (false = true) by decide)] at H; exact H
                      clear H
                      have H := H1
                      clear H1
                      replace H := Option.bind_eq_some_iff.mp H
                      obtain ⟨t523, A350, H⟩ := H
                      replace H : (phaetonlaw12_RouteBack.j2 k2 t501 (wrap64 (2 + (Int.tmod (wrap64 (a0)) 3))) x10_2 t523) = some r := H
                      have A35 := Aside0.mk A350
                      clear A350
                      have H' := Aside0.mk H
                      clear H
                      obtain ⟨Ao36, co36, eo36⟩ := Kd.R_slice HO_10.out
                      subst eo36
                      go_wp2_with (first | (go_at_call 12; (with_reducible refine (route_Right.calls k2 _ _ x10_2 (wrap64 (2 + (Int.tmod (wrap64 (a0)) 3))) true _ ?side1 ?side2 A28.out).mono ?_); (case side1 => repeat (first | exact (Kd.R_reads' HO_10.out).2.2 | (with_reducible refine Kd.C_alloc ?_ _) | (with_reducible refine Kd.C_drewN ?_ _) | (with_reducible refine Kd.C_drew ?_))); (case side2 => exact (Kd.R_reads' HO_10.out).2.1); rintro e w37 ⟨rfl, hb⟩; have n0_ := Aside0.mk (Kd.R_below (by (with_reducible repeat (first | apply Kd.R_alloc | apply Kd.R_drewN | apply Kd.R_drew)); exact HO_7.out) hb); have n1_ := Aside0.mk (Kd.R_below (by (with_reducible repeat (first | apply Kd.R_alloc | apply Kd.R_drewN | apply Kd.R_drew)); exact HO_10.out) hb); have n2_ := Aside0.mk (blk_below (g := gb500) (o := .cells #[.int .i64 a1_0, .int .i64 a1_1, .bool a1_2, .int .i64 a1_3, .int .i64 a1_4, .int .i64 a1_5] 45 (0, 0)) (by (with_reducible repeat (first | refine blk_drewN ?_ _ | refine blk_drew ?_ | refine blk_alloc ?_ _)); exact BK500.out) hb); have n3_ := Aside0.mk (below_step (by repeat (first | (with_reducible first | exact HB.out | apply below_alloc | apply pw_below_drewN | apply below_drew1 | refine below_set ?_ GE500.out) | exact HB.out)) hb); clear HO_7; clear HO_10; clear BK500; clear HB; have HO_7 := n0_; have HO_10 := n1_; have BK500 := n2_; have HB := n3_; clear n0_ n1_ n2_ n3_; (try clear hb); (try clear hb2); (try clear hk); (try clear hi)) | (go_at_call 14; (with_reducible refine (route_Loopless.calls k2 _ _ x10_2 (wrap64 (2 + (Int.tmod (wrap64 (a0)) 3))) false _ ?side1 ?side2 A30.out).mono ?_); (case side1 => repeat (first | exact (Kd.R_reads' HO_10.out).2.2 | (with_reducible refine Kd.C_alloc ?_ _) | (with_reducible refine Kd.C_drewN ?_ _) | (with_reducible refine Kd.C_drew ?_))); (case side2 => exact (Kd.R_reads' HO_10.out).2.1); rintro e w38 ⟨rfl, hb⟩; have n0_ := Aside0.mk (Kd.R_below (by (with_reducible repeat (first | apply Kd.R_alloc | apply Kd.R_drewN | apply Kd.R_drew)); exact HO_7.out) hb); have n1_ := Aside0.mk (Kd.R_below (by (with_reducible repeat (first | apply Kd.R_alloc | apply Kd.R_drewN | apply Kd.R_drew)); exact HO_10.out) hb); have n2_ := Aside0.mk (blk_below (g := gb500) (o := .cells #[.int .i64 a1_0, .int .i64 a1_1, .bool a1_2, .int .i64 a1_3, .int .i64 a1_4, .int .i64 a1_5] 45 (0, 0)) (by (with_reducible repeat (first | refine blk_drewN ?_ _ | refine blk_drew ?_ | refine blk_alloc ?_ _)); exact BK500.out) hb); have n3_ := Aside0.mk (below_step (by repeat (first | (with_reducible first | exact HB.out | apply below_alloc | apply pw_below_drewN | apply below_drew1 | refine below_set ?_ GE500.out) | exact HB.out)) hb); clear HO_7; clear HO_10; clear BK500; clear HB; have HO_7 := n0_; have HO_10 := n1_; have BK500 := n2_; have HB := n3_; clear n0_ n1_ n2_ n3_; (try clear hb); (try clear hb2); (try clear hk); (try clear hi)) | (go_at_call 14; (with_reducible refine (route_Loopless.calls k2 _ _ x10_2 4 t523 _ ?side1 ?side2 A35.out).mono ?_); (case side1 => repeat (first | exact (Kd.R_reads' HO_10.out).2.2 | (with_reducible refine Kd.C_alloc ?_ _) | (with_reducible refine Kd.C_drewN ?_ _) | (with_reducible refine Kd.C_drew ?_))); (case side2 => exact (Kd.R_reads' HO_10.out).2.1); rintro e w39 ⟨rfl, hb⟩; have n0_ := Aside0.mk (Kd.R_below (by (with_reducible repeat (first | apply Kd.R_alloc | apply Kd.R_drewN | apply Kd.R_drew)); exact HO_7.out) hb); have n1_ := Aside0.mk (Kd.R_below (by (with_reducible repeat (first | apply Kd.R_alloc | apply Kd.R_drewN | apply Kd.R_drew)); exact HO_10.out) hb); have n2_ := Aside0.mk (blk_below (g := gb500) (o := .cells #[.int .i64 a1_0, .int .i64 a1_1, .bool a1_2, .int .i64 a1_3, .int .i64 a1_4, .int .i64 a1_5] 45 (0, 0)) (by (with_reducible repeat (first | refine blk_drewN ?_ _ | refine blk_drew ?_ | refine blk_alloc ?_ _)); exact BK500.out) hb); have n3_ := Aside0.mk (below_step (by repeat (first | (with_reducible first | exact HB.out | apply below_alloc | apply pw_below_drewN | apply below_drew1 | refine below_set ?_ GE500.out) | exact HB.out)) hb); clear HO_7; clear HO_10; clear BK500; clear HB; have HO_7 := n0_; have HO_10 := n1_; have BK500 := n2_; have HB := n3_; clear n0_ n1_ n2_ n3_; (try clear hb); (try clear hb2); (try clear hk); (try clear hi)))
                      go_meet
                      case rel => exact ⟨_, (t523), (by first | rfl | (simp; done) | (simp [*]; done)), H', ⟨by have := HK1.out; have := HK2.out; first | omega | exact Nat.le_refl _⟩, ⟨by (with_reducible repeat (first | apply Kd.R_alloc | apply Kd.R_drewN | apply Kd.R_drew)); exact Kd.R_mono HO_10.out (fun _ hk => hk.2)⟩, ⟨by (with_reducible repeat (first | refine blk_drewN ?_ _ | refine blk_drew ?_ | refine blk_alloc ?_ _)); exact BK500.out⟩, ⟨by repeat (first | (with_reducible first | exact HB.out | apply below_alloc | apply pw_below_drewN | apply below_drew1 | refine below_set ?_ GE500.out) | exact HB.out)⟩⟩
                  · replace c29 := Bool.eq_false_iff.mpr c29
                    subst c29
                    have H1 : (phaetonlaw12_RouteBack.j2 k2 t501 (wrap64 (2 + (Int.tmod (wrap64 (a0)) 3))) x10_2 true) = some r := by rw [if_neg (show ¬ (false = true) by decide)] at H; exact H
                    clear H
                    have H := H1
                    clear H1
                    have H' := Aside0.mk H
                    clear H
                    obtain ⟨Ao40, co40, eo40⟩ := Kd.R_slice HO_10.out
                    subst eo40
                    go_wp2_with (first | (go_at_call 12; (with_reducible refine (route_Right.calls k2 _ _ x10_2 (wrap64 (2 + (Int.tmod (wrap64 (a0)) 3))) false _ ?side1 ?side2 A28.out).mono ?_); (case side1 => repeat (first | exact (Kd.R_reads' HO_10.out).2.2 | (with_reducible refine Kd.C_alloc ?_ _) | (with_reducible refine Kd.C_drewN ?_ _) | (with_reducible refine Kd.C_drew ?_))); (case side2 => exact (Kd.R_reads' HO_10.out).2.1); rintro e w41 ⟨rfl, hb⟩; have n0_ := Aside0.mk (Kd.R_below (by (with_reducible repeat (first | apply Kd.R_alloc | apply Kd.R_drewN | apply Kd.R_drew)); exact HO_7.out) hb); have n1_ := Aside0.mk (Kd.R_below (by (with_reducible repeat (first | apply Kd.R_alloc | apply Kd.R_drewN | apply Kd.R_drew)); exact HO_10.out) hb); have n2_ := Aside0.mk (blk_below (g := gb500) (o := .cells #[.int .i64 a1_0, .int .i64 a1_1, .bool a1_2, .int .i64 a1_3, .int .i64 a1_4, .int .i64 a1_5] 45 (0, 0)) (by (with_reducible repeat (first | refine blk_drewN ?_ _ | refine blk_drew ?_ | refine blk_alloc ?_ _)); exact BK500.out) hb); have n3_ := Aside0.mk (below_step (by repeat (first | (with_reducible first | exact HB.out | apply below_alloc | apply pw_below_drewN | apply below_drew1 | refine below_set ?_ GE500.out) | exact HB.out)) hb); clear HO_7; clear HO_10; clear BK500; clear HB; have HO_7 := n0_; have HO_10 := n1_; have BK500 := n2_; have HB := n3_; clear n0_ n1_ n2_ n3_; (try clear hb); (try clear hb2); (try clear hk); (try clear hi)))
                    go_meet
                    case rel => exact ⟨_, (true), (by first | rfl | (simp; done) | (simp [*]; done)), H', ⟨by have := HK1.out; have := HK2.out; first | omega | exact Nat.le_refl _⟩, ⟨by (with_reducible repeat (first | apply Kd.R_alloc | apply Kd.R_drewN | apply Kd.R_drew)); exact Kd.R_mono HO_10.out (fun _ hk => hk.2)⟩, ⟨by (with_reducible repeat (first | refine blk_drewN ?_ _ | refine blk_drew ?_ | refine blk_alloc ?_ _)); exact BK500.out⟩, ⟨by repeat (first | (with_reducible first | exact HB.out | apply below_alloc | apply pw_below_drewN | apply below_drew1 | refine below_set ?_ GE500.out) | exact HB.out)⟩⟩
                · rw [if_neg c27] at H
                  have c27b0 : ((x10_2.length : Int) == (wrap64 (2 + (Int.tmod (wrap64 (a0)) 3)))) = false := beq_eq_false_iff_ne.mpr c27
                  have c27b1 : ((x10_2.length : Int) != (wrap64 (2 + (Int.tmod (wrap64 (a0)) 3)))) = true := bne_iff_ne.mpr c27
                  (first | rw [c27b0] | (simp only [i64_w, i32_w]; rw [c27b0]) | skip)
                  have H' := Aside0.mk H
                  clear H
                  obtain ⟨Ao42, co42, eo42⟩ := Kd.R_slice HO_10.out
                  subst eo42
                  go_wp2
                  go_meet
                  case rel => exact ⟨_, (true), (by first | rfl | (simp; done) | (simp [*]; done)), H', ⟨by have := HK1.out; have := HK2.out; first | omega | exact Nat.le_refl _⟩, ⟨by (with_reducible repeat (first | apply Kd.R_alloc | apply Kd.R_drewN | apply Kd.R_drew)); exact Kd.R_mono HO_10.out (fun _ hk => hk.2)⟩, ⟨by (with_reducible repeat (first | refine blk_drewN ?_ _ | refine blk_drew ?_ | refine blk_alloc ?_ _)); exact BK500.out⟩, ⟨by repeat (first | (with_reducible first | exact HB.out | apply below_alloc | apply pw_below_drewN | apply below_drew1 | refine below_set ?_ GE500.out) | exact HB.out)⟩⟩
              case rest =>
                clear HC26
                try clear c1
                try clear c2
                try clear p2
                try clear q2
                try clear c3
                try clear p6
                try clear c8
                try clear c8b0
                try clear c9
                try clear c9b0
                try clear c9b1
                try clear c10
                try clear c15
                try clear c15b0
                try clear c16
                try clear c16b0
                try clear c16b1
                try clear c17
                try clear c17b0
                try clear c17b1
                try clear c18
                try clear c18b0
                try clear c18b1
                try clear c20
                try clear c21
                try clear q21
                try clear c27
                try clear c27b0
                try clear c27b1
                try clear c29
                try clear c31
                try clear hcz11_0
                try clear hcz11_1
                try clear hcz11_2
                try clear hcz11_3
                try clear hcz11_4
                try clear hcz11_5
                try clear hfz11_0
                try clear hfz11_1
                try clear hfz11_2
                try clear hfz11_3
                try clear hfz11_4
                try clear hfz11_5
                try clear p2
                try clear p6
                try clear q021
                try clear q21
                obtain ⟨kq, x69_25, rfl, HA, HJ25, HO_10, BK500, HB⟩ := hcut
                cases kq with
                | zero => exact absurd HA.out (by simp [phaetonlaw12_RouteBack.j2])
                | succ kj25 =>
                  have H := HA.out
                  clear HA
                  simp only [phaetonlaw12_RouteBack.j2] at H
                  by_cases c43 : x69_25 = true
                  · subst c43
                    have H1 : (none) = some r := by rw [if_pos rfl] at H; exact H
                    clear H
                    have H := H1
                    clear H1
                    exact absurd H (by simp)
                  · replace c43 := Bool.eq_false_iff.mpr c43
                    subst c43
                    have H1 : (phaetonlaw12_RouteBack.l2 kj25 t501 (wrap64 (2 + (Int.tmod (wrap64 (a0)) 3))) x10_2 0) = some r := by rw [if_neg (show ¬ (false = true) by decide)] at H; exact H
                    clear H
                    have H := H1
                    clear H1
                    have H' := Aside0.mk H
                    clear H
                    go_wp2
                    go_loopg [12] kj25 (fun kq v12 w' => ∃ (x12_4 : Int), v12 = .int .i64 x12_4 ∧ Aside0 (phaetonlaw12_RouteBack.l2 kq t501 (wrap64 (2 + (Int.tmod (wrap64 (a0)) 3))) x10_2 x12_4 = some r) ∧ Aside0 (kq ≤ kj25) ∧ Aside0 (Kd.R k45 45 w' w.heap.size (fun k_ => k_ ≠ gb500) u10 x10_2) ∧ Aside0 (w'.heap[gb500]? = some (.cells #[.int .i64 a1_0, .int .i64 a1_1, .bool a1_2, .int .i64 a1_3, .int .i64 a1_4, .int .i64 a1_5] 45 (0, 0))) ∧ Aside0 (Below w.heap.size w w'))
                    case atStart => exact ⟨(0), (by first | rfl | (simp; done) | (simp [*]; done)), H', ⟨Nat.le_refl _⟩, ⟨by (with_reducible repeat (first | apply Kd.R_alloc | apply Kd.R_drewN | apply Kd.R_drew)); exact HO_10.out⟩, ⟨by (with_reducible repeat (first | refine blk_drewN ?_ _ | refine blk_drew ?_ | refine blk_alloc ?_ _)); exact BK500.out⟩, ⟨by repeat (first | (with_reducible first | exact HB.out | apply below_alloc | apply pw_below_drewN | apply below_drew1 | refine below_set ?_ GE500.out) | exact HB.out)⟩⟩
                    case round =>
                      clear H'
                      try clear c1
                      try clear c2
                      try clear p2
                      try clear q2
                      try clear c3
                      try clear c4
                      try clear p6
                      try clear c8
                      try clear c8b0
                      try clear c9
                      try clear c9b0
                      try clear c9b1
                      try clear c10
                      try clear c15
                      try clear c15b0
                      try clear c16
                      try clear c16b0
                      try clear c16b1
                      try clear c17
                      try clear c17b0
                      try clear c17b1
                      try clear c18
                      try clear c18b0
                      try clear c18b1
                      try clear c20
                      try clear c21
                      try clear q21
                      try clear c27
                      try clear c27b0
                      try clear c27b1
                      try clear c29
                      try clear c31
                      try clear c43
                      try clear hcz11_0
                      try clear hcz11_1
                      try clear hcz11_2
                      try clear hcz11_3
                      try clear hcz11_4
                      try clear hcz11_5
                      try clear hfz11_0
                      try clear hfz11_1
                      try clear hfz11_2
                      try clear hfz11_3
                      try clear hfz11_4
                      try clear hfz11_5
                      try clear p2
                      try clear p6
                      try clear q021
                      try clear q2
                      try clear q21
                      obtain ⟨x12_4, rfl, HA, HK4, HO_10, BK500, HB⟩ := hrel
                      cases gk with
                      | zero => exact absurd HA.out (by simp [phaetonlaw12_RouteBack.l2])
                      | succ k4 =>
                        have H := HA.out
                        clear HA
                        simp only [phaetonlaw12_RouteBack.l2] at H
                        by_cases c44 : x12_4 < (wrap64 (2 + (Int.tmod (wrap64 (a0)) 3)))
                        · rw [if_pos c44] at H
                          have c44b0 : decide (x12_4 < (wrap64 (2 + (Int.tmod (wrap64 (a0)) 3)))) = true := decide_eq_true c44
                          clear c44
                          obtain ⟨y524, hy524⟩ : ∃ y_ : List (S45), y_ = (([] : List (S45))) := ⟨_, rfl⟩
                          replace H : (if 0 ≤ x12_4 then (if x12_4 ≤ (x10_2.length : Int) then ((some (x10_2.take (x12_4 : Int).toNat : List (S45))).bind fun y527 => (if y524.length + y527.length < 2932031007402 then ((some (y524 ++ y527 : List (S45))).bind fun y531 => (if 0 ≤ (wrap64 (x12_4 + 1)) then (if (wrap64 (x12_4 + 1)) ≤ (x10_2.length : Int) then ((some (x10_2.drop ((wrap64 (x12_4 + 1)) : Int).toNat : List (S45))).bind fun y534 => (if y531.length + y534.length < 2932031007402 then ((route_Loopless.f k4 (y531 ++ y534) (wrap64 (2 + (Int.tmod (wrap64 (a0)) 3)))).bind fun t541 => (if t541 = true then (phaetonlaw12_RouteBack.l2 k4 t501 (wrap64 (2 + (Int.tmod (wrap64 (a0)) 3))) x10_2 (wrap64 (x12_4 + 1))) else (none))) else (none))) else (none)) else (none))) else (none))) else (none)) else (none)) = some r := by first | (rw [hy524]; with_reducible exact H) | (have H2_ := (Option.bind_some _ _).symm.trans H; rw [hy524]; with_reducible exact H2_) | (have H2_ := (Option.bind_some _ _).symm.trans H; with_reducible exact H2_) | with_reducible exact H | (rw [hy524]; exact H) | exact H
                          have Ny524 := Aside0.mk hy524
                          clear hy524
                          by_cases c45 : 0 ≤ x12_4
                          · rw [if_pos c45] at H
                            have c45b0 := eq_true c45
                            have c45b1 : decide (0 ≤ x12_4) = true := decide_eq_true c45
                            clear c45
                            by_cases c46 : x12_4 ≤ (x10_2.length : Int)
                            · rw [if_pos c46] at H
                              have c46b0 := eq_true c46
                              have c46b1 : decide (x12_4 ≤ (x10_2.length : Int)) = true := decide_eq_true c46
                              clear c46
                              obtain ⟨y527, hy527⟩ : ∃ y_ : List (S45), y_ = (x10_2.take (x12_4 : Int).toNat) := ⟨_, rfl⟩
                              replace H : (if y524.length + y527.length < 2932031007402 then ((some (y524 ++ y527 : List (S45))).bind fun y531 => (if 0 ≤ (wrap64 (x12_4 + 1)) then (if (wrap64 (x12_4 + 1)) ≤ (x10_2.length : Int) then ((some (x10_2.drop ((wrap64 (x12_4 + 1)) : Int).toNat : List (S45))).bind fun y534 => (if y531.length + y534.length < 2932031007402 then ((route_Loopless.f k4 (y531 ++ y534) (wrap64 (2 + (Int.tmod (wrap64 (a0)) 3)))).bind fun t541 => (if t541 = true then (phaetonlaw12_RouteBack.l2 k4 t501 (wrap64 (2 + (Int.tmod (wrap64 (a0)) 3))) x10_2 (wrap64 (x12_4 + 1))) else (none))) else (none))) else (none)) else (none))) else (none)) = some r := by first | (rw [hy527]; with_reducible exact H) | (have H2_ := (Option.bind_some _ _).symm.trans H; rw [hy527]; with_reducible exact H2_) | (have H2_ := (Option.bind_some _ _).symm.trans H; with_reducible exact H2_) | with_reducible exact H | (rw [hy527]; exact H) | exact H
                              have Ny527 := Aside0.mk hy527
                              clear hy527
                              by_cases c47 : y524.length + y527.length < 2932031007402
                              · rw [if_pos c47] at H
                                have LMc47 := Aside0.mk c47
                                clear c47
                                obtain ⟨y531, hy531⟩ : ∃ y_ : List (S45), y_ = (y524 ++ y527) := ⟨_, rfl⟩
                                replace H : (if 0 ≤ (wrap64 (x12_4 + 1)) then (if (wrap64 (x12_4 + 1)) ≤ (x10_2.length : Int) then ((some (x10_2.drop ((wrap64 (x12_4 + 1)) : Int).toNat : List (S45))).bind fun y534 => (if y531.length + y534.length < 2932031007402 then ((route_Loopless.f k4 (y531 ++ y534) (wrap64 (2 + (Int.tmod (wrap64 (a0)) 3)))).bind fun t541 => (if t541 = true then (phaetonlaw12_RouteBack.l2 k4 t501 (wrap64 (2 + (Int.tmod (wrap64 (a0)) 3))) x10_2 (wrap64 (x12_4 + 1))) else (none))) else (none))) else (none)) else (none)) = some r := by first | (rw [hy531]; with_reducible exact H) | (have H2_ := (Option.bind_some _ _).symm.trans H; rw [hy531]; with_reducible exact H2_) | (have H2_ := (Option.bind_some _ _).symm.trans H; with_reducible exact H2_) | with_reducible exact H | (rw [hy531]; exact H) | exact H
                                have Ny531 := Aside0.mk hy531
                                clear hy531
                                obtain ⟨ji48, hji48⟩ : ∃ j_ : Int, (wrap64 (x12_4 + 1)) = j_ := ⟨_, rfl⟩
                                replace H : (if 0 ≤ (ji48) then (if (ji48) ≤ (x10_2.length : Int) then ((some (x10_2.drop ((ji48) : Int).toNat : List (S45))).bind fun y534 => (if y531.length + y534.length < 2932031007402 then ((route_Loopless.f k4 (y531 ++ y534) (wrap64 (2 + (Int.tmod (wrap64 (a0)) 3)))).bind fun t541 => (if t541 = true then (phaetonlaw12_RouteBack.l2 k4 t501 (wrap64 (2 + (Int.tmod (wrap64 (a0)) 3))) x10_2 ji48) else (none))) else (none))) else (none)) else (none)) = some r := by first | (rw [hji48] at H; exact H) | (simp only [hji48] at H ⊢; exact H)
                                have hji48w : (IntKind.i64.wrap (x12_4 + 1)) = ji48 := (i64_w _).trans hji48
                                by_cases c49 : 0 ≤ (ji48)
                                · rw [if_pos c49] at H
                                  have c49b0 := eq_true c49
                                  have c49b1 : decide (0 ≤ (ji48)) = true := decide_eq_true c49
                                  clear c49
                                  by_cases c50 : (ji48) ≤ (x10_2.length : Int)
                                  · rw [if_pos c50] at H
                                    have c50b0 := eq_true c50
                                    have c50b1 : decide ((ji48) ≤ (x10_2.length : Int)) = true := decide_eq_true c50
                                    clear c50
                                    obtain ⟨y534, hy534⟩ : ∃ y_ : List (S45), y_ = (x10_2.drop ((ji48) : Int).toNat) := ⟨_, rfl⟩
                                    replace H : (if y531.length + y534.length < 2932031007402 then ((route_Loopless.f k4 (y531 ++ y534) (wrap64 (2 + (Int.tmod (wrap64 (a0)) 3)))).bind fun t541 => (if t541 = true then (phaetonlaw12_RouteBack.l2 k4 t501 (wrap64 (2 + (Int.tmod (wrap64 (a0)) 3))) x10_2 ji48) else (none))) else (none)) = some r := by first | (rw [hy534]; with_reducible exact H) | (have H2_ := (Option.bind_some _ _).symm.trans H; rw [hy534]; with_reducible exact H2_) | (have H2_ := (Option.bind_some _ _).symm.trans H; with_reducible exact H2_) | with_reducible exact H | (rw [hy534]; exact H) | exact H
                                    have Ny534 := Aside0.mk hy534
                                    clear hy534
                                    by_cases c51 : y531.length + y534.length < 2932031007402
                                    · rw [if_pos c51] at H
                                      have LMc51 := Aside0.mk c51
                                      clear c51
                                      obtain ⟨y538, hy538⟩ : ∃ y_ : List (S45), y_ = (y531 ++ y534) := ⟨_, rfl⟩
                                      replace H : ((route_Loopless.f k4 y538 (wrap64 (2 + (Int.tmod (wrap64 (a0)) 3)))).bind fun t541 => (if t541 = true then (phaetonlaw12_RouteBack.l2 k4 t501 (wrap64 (2 + (Int.tmod (wrap64 (a0)) 3))) x10_2 ji48) else (none))) = some r := by first | (rw [hy538]; with_reducible exact H) | (have H2_ := (Option.bind_some _ _).symm.trans H; rw [hy538]; with_reducible exact H2_) | (have H2_ := (Option.bind_some _ _).symm.trans H; with_reducible exact H2_) | with_reducible exact H | (rw [hy538]; exact H) | exact H
                                      have Ny538 := Aside0.mk hy538
                                      clear hy538
                                      replace H := Option.bind_eq_some_iff.mp H
                                      obtain ⟨t541, A520, H⟩ := H
                                      replace H : (if t541 = true then (phaetonlaw12_RouteBack.l2 k4 t501 (wrap64 (2 + (Int.tmod (wrap64 (a0)) 3))) x10_2 ji48) else (none)) = some r := H
                                      have A52 := Aside0.mk A520
                                      clear A520
                                      by_cases c53 : t541 = true
                                      · subst c53
                                        have H1 : (phaetonlaw12_RouteBack.l2 k4 t501 (wrap64 (2 + (Int.tmod (wrap64 (a0)) 3))) x10_2 ji48) = some r := by rw [if_pos rfl] at H; exact H
                                        clear H
                                        have H := H1
                                        clear H1
                                        have H' := Aside0.mk H
                                        clear H
                                        go_wp2_with (first | ((with_reducible refine gate_dst (N := 75) rfl ?_); refine Kd.R_lit k45 _ 45 ?hg (N := 75) ?hd (xs := ([] : List (S45))) (inner := []) (ok := fun _ => True) (okp := fun _ => True) ?hr ?hp (fun _ hk => hk) trivial (Below.refl _ _) (Nat.le_refl _) (by simp) ?_; (case hd => rfl); (case hg => rfl); (case hr => first | (go_simp; done) | (go_simp; rfl)); (case hp => exact (Reps.none _ _)); intro v525 w54 ho55 hb hg_ hnew_; clear hg_ hnew_; (first | rw [← Ny524.out] at ho55 | (simp only [Int.reduceToNat] at ho55; rw [← Ny524.out] at ho55)); have n0_ := Aside0.mk (Kd.R_elder' (by (with_reducible repeat (first | apply Kd.R_alloc | apply Kd.R_drewN | apply Kd.R_drew)); exact HO_10.out) (Kd.R_base ho55) hb); have n1_ := Aside0.mk (Kd.R_lower (Kd.R_newB (Kd.R_new' ho55 (Kd.R_lt (by (with_reducible repeat (first | apply Kd.R_alloc | apply Kd.R_drewN | apply Kd.R_drew)); exact HO_10.out))) (g := gb500) (o := .cells #[.int .i64 a1_0, .int .i64 a1_1, .bool a1_2, .int .i64 a1_3, .int .i64 a1_4, .int .i64 a1_5] 45 (0, 0)) (by (with_reducible repeat (first | refine blk_drewN ?_ _ | refine blk_drew ?_ | refine blk_alloc ?_ _)); exact BK500.out)) (below_size (by repeat (first | (with_reducible first | exact HB.out | apply below_alloc | apply pw_below_drewN | apply below_drew1 | refine below_set ?_ GE500.out) | exact HB.out)))); have n2_ := Aside0.mk (blk_below (g := gb500) (o := .cells #[.int .i64 a1_0, .int .i64 a1_1, .bool a1_2, .int .i64 a1_3, .int .i64 a1_4, .int .i64 a1_5] 45 (0, 0)) (by (with_reducible repeat (first | refine blk_drewN ?_ _ | refine blk_drew ?_ | refine blk_alloc ?_ _)); exact BK500.out) hb); have n3_ := Aside0.mk (below_step (by repeat (first | (with_reducible first | exact HB.out | apply below_alloc | apply pw_below_drewN | apply below_drew1 | refine below_set ?_ GE500.out) | exact HB.out)) hb); clear HO_10; clear BK500; clear HB; have HO_10 := n0_; have HO526 := n1_; have BK500 := n2_; have HB := n3_; clear n0_ n1_ n2_ n3_; clear hb ho55; obtain ⟨Ao57, co57, eo57⟩ := Kd.R_slice HO_10.out; subst eo57; have q56 : (x12_4 : Int) ≤ ((x10_2.length : Int) : Int) := of_decide_eq_true (by first | (with_reducible assumption) | assumption); obtain ⟨i056, hi056, _, hsz56, _⟩ := info_parts info45; have hroom56 : x10_2.length ≤ co57 := (Kd.R_reads' HO_10.out).2.1; have hC56 : Kd.C k45 _ Ao57 x10_2.length x10_2 := (Kd.R_reads' HO_10.out).2.2; have hcut56 := cut_to (P := Try.prog) 22 45 .i64 Try.underlying22 hi056 Ao57 x10_2.length co57 x12_4 (of_decide_eq_true (by first | (with_reducible assumption) | assumption)) q56 hroom56; have hr56 := Kd.C_take (m := (x12_4 : Int).toNat) hC56 (by omega); have hy56 : y527.length = (x12_4 : Int).toNat := (by rw [Ny527.out, List.length_take]; omega); rw [← Ny527.out] at hr56; rw [← hy56] at hcut56; have HR530 := Aside0.mk hr56; have HC530 := Aside0.mk (show y527.length ≤ co57 from by omega); clear hr56 hC56 hroom56 hi056 hsz56; have KY56 := Aside0.mk hy56; clear hy56; have KL56 := Aside0.mk (show (x12_4 : Int).toNat ≤ x10_2.length from by omega); replace q56 := eq_true q56) | ((with_reducible refine gate_builtin (b := .append) (xs := #[.tmp 75, .tmp 78]) rfl ?_); at_builtin; refine Kd.R_append_rows k45 (w0 := w) w.heap.size rfl (.tmp 75) (.tmp 78) 22 45 (.agg #[(.int .i64 0), (.int .i64 0), (.bool false), (.int .i64 0), (.int .i64 0), (.int .i64 0)]) 48 rfl Try.underlying22 info45 rfl (by decide) (by omega) v525 y524 y527 _ _ _ (fun k_ => some k_ ≠ (.slice Ao57 x10_2.length co57 : Value).ownBlock ∧ k_ ≠ gb500) (fun _ => False) rfl rfl ?aO ?aR (fun _ _ h => h) (fun _ h => h.elim) ?aF ?aB ?aS ?aL ?_; (case aR => repeat (first | exact (by repeat (first | (with_reducible exact HR530.out) | (with_reducible refine Kd.C_alloc ?_ _) | (with_reducible refine Kd.C_drewN ?_ _) | (with_reducible refine Kd.C_drew ?_) | exact HR530.out)) | (with_reducible refine Kd.C_alloc ?_ _) | (with_reducible refine Kd.C_drewN ?_ _) | (with_reducible refine Kd.C_drew ?_))); (case aB => exact (by repeat (first | (with_reducible first | exact HB.out | apply below_alloc | apply pw_below_drewN | apply below_drew1 | refine below_set ?_ GE500.out) | exact HB.out))); (case aF => exact (fun k_ hk => ⟨Kd.fresh' (Kd.R_lt (by (with_reducible repeat (first | apply Kd.R_alloc | apply Kd.R_drewN | apply Kd.R_drew)); exact HO_10.out)) k_ hk, Kd.freshB (g := gb500) (o := .cells #[.int .i64 a1_0, .int .i64 a1_1, .bool a1_2, .int .i64 a1_3, .int .i64 a1_4, .int .i64 a1_5] 45 (0, 0)) (by (with_reducible repeat (first | refine blk_drewN ?_ _ | refine blk_drew ?_ | refine blk_alloc ?_ _)); exact BK500.out) k_ hk⟩)); (case aO => exact (by (with_reducible repeat (first | apply Kd.R_alloc | apply Kd.R_drewN | apply Kd.R_drew)); exact Kd.R_mono HO526.out (fun _ hk => ⟨hk.1.2, hk.2⟩))); (case aS => exact (below_size (by repeat (first | (with_reducible first | exact HB.out | apply below_alloc | apply pw_below_drewN | apply below_drew1 | refine below_set ?_ GE500.out) | exact HB.out)))); (case aL => have := LMc47.out; omega); intro v532 w58 ho hb hg hat; rw [← Ny531.out] at ho; have n0_ := Aside0.mk (Kd.R_after (ok := (fun k_ => k_ ≠ gb500)) (by (with_reducible repeat (first | apply Kd.R_alloc | apply Kd.R_drewN | apply Kd.R_drew)); exact HO_10.out) hg hat); have n1_ := Aside0.mk (blk_grown (g := gb500) (o := .cells #[.int .i64 a1_0, .int .i64 a1_1, .bool a1_2, .int .i64 a1_3, .int .i64 a1_4, .int .i64 a1_5] 45 (0, 0)) (by (with_reducible repeat (first | refine blk_drewN ?_ _ | refine blk_drew ?_ | refine blk_alloc ?_ _)); exact BK500.out) hg (Kd.R_away HO526.out (fun _ hk => hk.2))); have n2_ := Aside0.mk (hb); have n3_ := Aside0.mk ((show Kd.C k45 w58 Ao57 y527.length y527 from by rw [Ny527.out]; exact Kd.C_take (m := (x12_4 : Int).toNat) ((Kd.R_reads' (Kd.R_after (ok := (fun k_ => k_ ≠ gb500)) (by (with_reducible repeat (first | apply Kd.R_alloc | apply Kd.R_drewN | apply Kd.R_drew)); exact HO_10.out) hg hat)).2.2) KL56.out)); have n4_ := Aside0.mk (ho); clear HO_10; clear BK500; clear HB; clear HR530; clear HO526; have HO_10 := n0_; have BK500 := n1_; have HB := n2_; have HR530 := n3_; have HO533 := n4_; clear n0_ n1_ n2_ n3_ n4_; clear ho hb hg hat; have q59 : ((ji48) : Int) ≤ ((x10_2.length : Int) : Int) := of_decide_eq_true (by first | (with_reducible assumption) | assumption); obtain ⟨i059, hi059, _, hsz59, _⟩ := info_parts info45; have hroom59 : x10_2.length ≤ co57 := (Kd.R_reads' HO_10.out).2.1; have hC59 : Kd.C k45 _ Ao57 x10_2.length x10_2 := (Kd.R_reads' HO_10.out).2.2; have q059 : (0 : Int) ≤ ((ji48) : Int) := of_decide_eq_true (by first | (with_reducible assumption) | assumption); have hcut59 := cut_from (P := Try.prog) 22 45 .i64 Try.underlying22 hi059 6 hsz59 Ao57 x10_2.length co57 (ji48) q059 q59; have hr59 := Kd.C_drop (m := ((ji48) : Int).toNat) (c := co57) hC59 (by omega) hroom59; obtain ⟨A59, hA59⟩ : ∃ A1, A1 = (if co57 = ((ji48) : Int).toNat then Ao57 else (Ao57 : Option Addr).map (·.add (((ji48) : Int).toNat * 6))) := ⟨_, rfl⟩; obtain ⟨c59, hc59⟩ : ∃ c1, c1 = co57 - ((ji48) : Int).toNat := ⟨_, rfl⟩; have hy59 : y534.length = x10_2.length - ((ji48) : Int).toNat := (by rw [Ny534.out, List.length_drop] <;> omega); rw [show (x10_2).drop ((ji48) : Int).toNat = y534 from Ny534.out.symm] at hr59; replace hr59 : Kd.C k45 _ A59 y534.length y534 := (by rw [hA59]; exact hr59); rw [← hy59, ← hA59, ← hc59] at hcut59; have HR537 := Aside0.mk hr59; have HC537 := Aside0.mk (show y534.length ≤ c59 from by rw [hy59, hc59]; exact Nat.sub_le_sub_right hroom59 _); clear hr59 hC59 hroom59 hi059 hsz59 hc59; have KY59 := Aside0.mk hy59; have KA59 := Aside0.mk hA59; clear hy59 hA59; have KL59 := Aside0.mk (show ((ji48) : Int).toNat ≤ x10_2.length from by omega); replace q59 := eq_true q59) | ((with_reducible refine gate_builtin (b := .append) (xs := #[.tmp 80, .tmp 84]) rfl ?_); at_builtin; refine Kd.R_append_rows k45 (w0 := w) w.heap.size rfl (.tmp 80) (.tmp 84) 22 45 (.agg #[(.int .i64 0), (.int .i64 0), (.bool false), (.int .i64 0), (.int .i64 0), (.int .i64 0)]) 48 rfl Try.underlying22 info45 rfl (by decide) (by omega) v532 y531 y534 _ _ _ (fun k_ => some k_ ≠ (.slice Ao57 x10_2.length co57 : Value).ownBlock ∧ k_ ≠ gb500) (fun _ => False) rfl rfl ?aO ?aR (fun _ _ h => h) (fun _ h => h.elim) ?aF ?aB ?aS ?aL ?_; (case aR => repeat (first | exact (by repeat (first | (with_reducible exact HR537.out) | (with_reducible refine Kd.C_alloc ?_ _) | (with_reducible refine Kd.C_drewN ?_ _) | (with_reducible refine Kd.C_drew ?_) | exact HR537.out)) | (with_reducible refine Kd.C_alloc ?_ _) | (with_reducible refine Kd.C_drewN ?_ _) | (with_reducible refine Kd.C_drew ?_))); (case aB => exact (by repeat (first | (with_reducible first | exact HB.out | apply below_alloc | apply pw_below_drewN | apply below_drew1 | refine below_set ?_ GE500.out) | exact HB.out))); (case aF => exact (fun k_ hk => ⟨Kd.fresh' (Kd.R_lt (by (with_reducible repeat (first | apply Kd.R_alloc | apply Kd.R_drewN | apply Kd.R_drew)); exact HO_10.out)) k_ hk, Kd.freshB (g := gb500) (o := .cells #[.int .i64 a1_0, .int .i64 a1_1, .bool a1_2, .int .i64 a1_3, .int .i64 a1_4, .int .i64 a1_5] 45 (0, 0)) (by (with_reducible repeat (first | refine blk_drewN ?_ _ | refine blk_drew ?_ | refine blk_alloc ?_ _)); exact BK500.out) k_ hk⟩)); (case aO => exact (by (with_reducible repeat (first | apply Kd.R_alloc | apply Kd.R_drewN | apply Kd.R_drew)); exact HO533.out)); (case aS => exact (below_size (by repeat (first | (with_reducible first | exact HB.out | apply below_alloc | apply pw_below_drewN | apply below_drew1 | refine below_set ?_ GE500.out) | exact HB.out)))); (case aL => have := LMc51.out; omega); intro v539 w60 ho hb hg hat; rw [← Ny538.out] at ho; have n0_ := Aside0.mk (Kd.R_after (ok := (fun k_ => k_ ≠ gb500)) (by (with_reducible repeat (first | apply Kd.R_alloc | apply Kd.R_drewN | apply Kd.R_drew)); exact HO_10.out) hg hat); have n1_ := Aside0.mk (blk_grown (g := gb500) (o := .cells #[.int .i64 a1_0, .int .i64 a1_1, .bool a1_2, .int .i64 a1_3, .int .i64 a1_4, .int .i64 a1_5] 45 (0, 0)) (by (with_reducible repeat (first | refine blk_drewN ?_ _ | refine blk_drew ?_ | refine blk_alloc ?_ _)); exact BK500.out) hg (Kd.R_away HO533.out (fun _ hk => hk.2))); have n2_ := Aside0.mk (hb); have n3_ := Aside0.mk ((show Kd.C k45 w60 Ao57 y527.length y527 from by rw [Ny527.out]; exact Kd.C_take (m := (x12_4 : Int).toNat) ((Kd.R_reads' (Kd.R_after (ok := (fun k_ => k_ ≠ gb500)) (by (with_reducible repeat (first | apply Kd.R_alloc | apply Kd.R_drewN | apply Kd.R_drew)); exact HO_10.out) hg hat)).2.2) KL56.out)); have n4_ := Aside0.mk ((show Kd.C k45 w60 A59 y534.length y534 from by rw [Ny534.out, KA59.out]; exact Kd.C_drop (m := ((ji48) : Int).toNat) (c := co57) ((Kd.R_reads' (Kd.R_after (ok := (fun k_ => k_ ≠ gb500)) (by (with_reducible repeat (first | apply Kd.R_alloc | apply Kd.R_drewN | apply Kd.R_drew)); exact HO_10.out) hg hat)).2.2) KL59.out ((Kd.R_reads' (Kd.R_after (ok := (fun k_ => k_ ≠ gb500)) (by (with_reducible repeat (first | apply Kd.R_alloc | apply Kd.R_drewN | apply Kd.R_drew)); exact HO_10.out) hg hat)).2.1))); have n5_ := Aside0.mk (ho); clear HO_10; clear BK500; clear HB; clear HR530; clear HR537; clear HO533; have HO_10 := n0_; have BK500 := n1_; have HB := n2_; have HR530 := n3_; have HR537 := n4_; have HO540 := n5_; clear n0_ n1_ n2_ n3_ n4_ n5_; clear ho hb hg hat; obtain ⟨Ao61, co61, eo61⟩ := Kd.R_slice HO540.out; subst eo61) | ((with_reducible refine gate_callee (f := 14) rfl ?_); refine goesL_ (some 88) rfl rfl Try.func14 (by kernel_rfl) rfl #[.slice Ao61 y538.length co61, .int .i64 (wrap64 (2 + (Int.tmod (wrap64 (a0)) 3)))] rfl (by (try simp only [List.map_toArray, List.map_cons, List.map_nil]); first | done | rfl | (simp only [List.length_drop, List.length_take]; rfl)) ?_; (with_reducible refine (route_Loopless.calls k4 _ _ y538 (wrap64 (2 + (Int.tmod (wrap64 (a0)) 3))) true _ ?side1 ?side2 A52.out).mono ?_); (case side1 => repeat (first | exact (Kd.R_reads' HO540.out).2.2 | (with_reducible refine Kd.C_alloc ?_ _) | (with_reducible refine Kd.C_drewN ?_ _) | (with_reducible refine Kd.C_drew ?_))); (case side2 => exact (Kd.R_reads' HO540.out).2.1); rintro e w62 ⟨rfl, hb⟩; refine ⟨_, rfl, ?_⟩; have n0_ := Aside0.mk (Kd.R_below (by (with_reducible repeat (first | apply Kd.R_alloc | apply Kd.R_drewN | apply Kd.R_drew)); exact HO_10.out) hb); have n1_ := Aside0.mk (Kd.R_below (by (with_reducible repeat (first | apply Kd.R_alloc | apply Kd.R_drewN | apply Kd.R_drew)); exact HO540.out) hb); have n2_ := Aside0.mk (blk_below (g := gb500) (o := .cells #[.int .i64 a1_0, .int .i64 a1_1, .bool a1_2, .int .i64 a1_3, .int .i64 a1_4, .int .i64 a1_5] 45 (0, 0)) (by (with_reducible repeat (first | refine blk_drewN ?_ _ | refine blk_drew ?_ | refine blk_alloc ?_ _)); exact BK500.out) hb); have n3_ := Aside0.mk (Kd.C_below (by repeat (first | (with_reducible exact HR530.out) | (with_reducible refine Kd.C_alloc ?_ _) | (with_reducible refine Kd.C_drewN ?_ _) | (with_reducible refine Kd.C_drew ?_) | exact HR530.out)) hb); have n4_ := Aside0.mk (Kd.C_below (by repeat (first | (with_reducible exact HR537.out) | (with_reducible refine Kd.C_alloc ?_ _) | (with_reducible refine Kd.C_drewN ?_ _) | (with_reducible refine Kd.C_drew ?_) | exact HR537.out)) hb); have n5_ := Aside0.mk (below_step (by repeat (first | (with_reducible first | exact HB.out | apply below_alloc | apply pw_below_drewN | apply below_drew1 | refine below_set ?_ GE500.out) | exact HB.out)) hb); clear HO_10; clear HO540; clear BK500; clear HR530; clear HR537; clear HB; have HO_10 := n0_; have HO540 := n1_; have BK500 := n2_; have HR530 := n3_; have HR537 := n4_; have HB := n5_; clear n0_ n1_ n2_ n3_ n4_ n5_; (try clear hb); (try clear hb2); (try clear hk); (try clear hi)))
                                        go_roundg k4
                                        case measure => have := HK1.out; have := HK2.out; have := HJ25.out; have := HK4.out; omega
                                        case rel => exact ⟨(ji48), (by first | rfl | (simp; done) | (simp only [← hji48] <;> (first | rfl | simp)) | (simp [*]; done)), H', ⟨by have := HK1.out; have := HK2.out; have := HJ25.out; have := HK4.out; omega⟩, ⟨by (with_reducible repeat (first | apply Kd.R_alloc | apply Kd.R_drewN | apply Kd.R_drew)); exact Kd.R_mono HO_10.out (fun _ hk => hk.1)⟩, ⟨by (with_reducible repeat (first | refine blk_drewN ?_ _ | refine blk_drew ?_ | refine blk_alloc ?_ _)); exact BK500.out⟩, ⟨by repeat (first | (with_reducible first | exact HB.out | apply below_alloc | apply pw_below_drewN | apply below_drew1 | refine below_set ?_ GE500.out) | exact HB.out)⟩⟩
                                      · replace c53 := Bool.eq_false_iff.mpr c53
                                        subst c53
                                        have H1 : (none) = some r := by rw [if_neg (show ¬ (false = true) by decide)] at H; exact H
                                        clear H
                                        have H := H1
                                        clear H1
                                        exact absurd H (by simp)
                                    · rw [if_neg c51] at H
                                      exact absurd H (by simp)
                                  · rw [if_neg c50] at H
                                    exact absurd H (by simp)
                                · rw [if_neg c49] at H
                                  exact absurd H (by simp)
                              · rw [if_neg c47] at H
                                exact absurd H (by simp)
                            · rw [if_neg c46] at H
                              exact absurd H (by simp)
                          · rw [if_neg c45] at H
                            exact absurd H (by simp)
                        · rw [if_neg c44] at H
                          have c44b0 : decide (x12_4 < (wrap64 (2 + (Int.tmod (wrap64 (a0)) 3)))) = false := decide_eq_false c44
                          clear c44
                          obtain rfl := Option.some.inj H
                          go_wp2
                          go_ret
                          exact ⟨by first | rfl | (simp [errW_none, errW_some] <;> rfl) | (simp [*, errW_none, errW_some] <;> rfl), by repeat (first | (with_reducible first | exact HB.out | apply below_alloc | apply pw_below_drewN | apply below_drew1 | refine below_set ?_ GE500.out) | exact HB.out)⟩

end Go.Proofs.Ytpcabeefahldlaa.P

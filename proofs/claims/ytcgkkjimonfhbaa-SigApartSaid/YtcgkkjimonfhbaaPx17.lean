/- Go functions that the laws of this seat reach, each as a Lean function, and a proof that a call of the Go code comes to its answers; written by a program (the kit's print, turned in a few places). Conditions: each theorem's own premises. -/
import Derived.Test.YtcgkkjimonfhbaaPx0
import Derived.Test.YtcgkkjimonfhbaaPx13
import Derived.Test.YtcgkkjimonfhbaaPx14
import Derived.Test.YtcgkkjimonfhbaaPx15
namespace Go.Proofs.Ytcgkkjimonfhbaa.P
open Go.RowKit Go.Proofs.YtcgkkjimonfhbaaW.PrintWords Go.Proofs.YtcgkkjimonfhbaaW.PrintLast Go.Proofs.YtcgkkjimonfhbaaW.PrintMore
attribute [local go_sem] max2_int min2_int max_two min_two max_three min_three max_four min_four   -- for this text's walks alone
set_option linter.unusedVariables false
set_option linter.unusedSimpArgs false

/-! ### phaetonref15_Get: function 15 -/
def phaetonref15_Get.l0 : Nat → List Int → Int → List Int → Int → Int → Int → Bool → Bool → Int → Int → Option (Int × Bool)
 | 0, _, _, _, _, _, _, _, _, _, _ => none
 | k + 1, x0, x6, x7, x8, x324000, x324001, x324002, x324003, x324004, x324005 => if x8 < (x7.length : Int) then (if 0 ≤ x8 then (if 0 ≤ (wrap64 (Int.tdiv (rd x7 x8) 8)) then (if (wrap64 (Int.tdiv (rd x7 x8) 8)) < (x0.length : Int) then ((phaetonref15_power.f k (Int.tmod (rd x7 x8) 8)).bind fun t331 => (if t331 = 0 then (none) else ((phaetonref15_power.f k x8).bind fun t332 => (phaetonref15_Get.l0 k x0 (wrap64 (x6 + (wrap64 ((Int.tmod (wrap64 (Int.tdiv (wrap64 (rd x0 (wrap64 (Int.tdiv (rd x7 x8) 8)))) t331)) 2) * t332)))) x7 (wrap64 (x8 + 1)) x324000 x324001 x324002 x324003 x324004 x324005)))) else (none)) else (none)) else (none)) else ((phaetonref15_Fits.f k x324000 x324001 x324002 x324003 x324004 x324005 x6).bind fun t333 => (if t333 = true then (some (x6, true)) else ((phaetonref15_power.f k x324001).bind fun t334 => (some (wrap64 (x6 - t334), true)))))
def phaetonref15_Get.f (k : Nat) (l0 : List Int) (a1_0 : Int) (a1_1 : Int) (a1_2 : Bool) (a1_3 : Bool) (a1_4 : Int) (a1_5 : Int) : Option (Int × Bool) := (phaetonref15_Right.f k a1_0 a1_1 a1_2 a1_3 a1_4 a1_5 (l0.length : Int)).bind fun t324 => (if t324 = true then ((phaetonref15_Places.f k a1_0 a1_1 a1_2 a1_3 a1_4 a1_5).bind fun t325 => (phaetonref15_Get.l0 k l0 0 t325 0 a1_0 a1_1 a1_2 a1_3 a1_4 a1_5)) else (some (0, false)))
theorem phaetonref15_Get.mono_l : ∀ k, (∀ y0 y1 y2 y3 y4 y5 y6 y7 y8 y9, LeO (phaetonref15_Get.l0 k y0 y1 y2 y3 y4 y5 y6 y7 y8 y9) (phaetonref15_Get.l0 (k + 1) y0 y1 y2 y3 y4 y5 y6 y7 y8 y9))
 | 0 => fun _ _ _ _ _ _ _ _ _ _ r h => by simp [phaetonref15_Get.l0] at h
 | k + 1 => by
  have ih0 := phaetonref15_Get.mono_l k
  ·intro y0 y1 y2 y3 y4 y5 y6 y7 y8 y9
   unfold phaetonref15_Get.l0
   repeat' first
   | (with_reducible exact ih0 _ _ _ _ _ _ _ _ _ _)
   | (with_reducible exact phaetonref15_Fits.mono _ _ _ _ _ _ _ _)
   | (with_reducible exact phaetonref15_Places.mono _ _ _ _ _ _ _)
   | (with_reducible exact phaetonref15_Right.mono _ _ _ _ _ _ _ _)
   | (with_reducible exact phaetonref15_power.mono _ _)
   | (with_reducible exact LeO.refl _)
   | (with_reducible exact LeO.none _)
   | (with_reducible refine LeO.ite ?_ ?_)
   | (with_reducible refine LeO.bind ?_ (fun _ => ?_))
   | exact ih0 _ _ _ _ _ _ _ _ _ _
   | exact phaetonref15_Fits.mono _ _ _ _ _ _ _ _
   | exact phaetonref15_Places.mono _ _ _ _ _ _ _
   | exact phaetonref15_Right.mono _ _ _ _ _ _ _ _
   | exact phaetonref15_power.mono _ _
   | exact LeO.none _
   | refine LeO.ite ?_ ?_
   | refine LeO.bind ?_ (fun _ => ?_)
theorem phaetonref15_Get.mono : ∀ a0 a1 a2 a3 a4 a5 a6 k, LeO (phaetonref15_Get.f k a0 a1 a2 a3 a4 a5 a6) (phaetonref15_Get.f (k + 1) a0 a1 a2 a3 a4 a5 a6) := by
 intro a0 a1 a2 a3 a4 a5 a6 k
 have ih0 := phaetonref15_Get.mono_l k
 unfold phaetonref15_Get.f
 repeat' first
   | (with_reducible exact ih0 _ _ _ _ _ _ _ _ _ _)
   | (with_reducible exact phaetonref15_Fits.mono _ _ _ _ _ _ _ _)
   | (with_reducible exact phaetonref15_Places.mono _ _ _ _ _ _ _)
   | (with_reducible exact phaetonref15_Right.mono _ _ _ _ _ _ _ _)
   | (with_reducible exact phaetonref15_power.mono _ _)
   | (with_reducible exact LeO.refl _)
   | (with_reducible exact LeO.none _)
   | (with_reducible refine LeO.ite ?_ ?_)
   | (with_reducible refine LeO.bind ?_ (fun _ => ?_))
   | exact ih0 _ _ _ _ _ _ _ _ _ _
   | exact phaetonref15_Fits.mono _ _ _ _ _ _ _ _
   | exact phaetonref15_Places.mono _ _ _ _ _ _ _
   | exact phaetonref15_Right.mono _ _ _ _ _ _ _ _
   | exact phaetonref15_power.mono _ _
   | exact LeO.none _
   | refine LeO.ite ?_ ?_
   | refine LeO.bind ?_ (fun _ => ?_)
set_option maxHeartbeats 8000000 in
set_option maxRecDepth 100000 in
theorem phaetonref15_Get.calls (k : Nat) (A0 : Option Addr) (c0 : Nat) (l0 : List Int) (a1_0 : Int) (a1_1 : Int) (a1_2 : Bool) (a1_3 : Bool) (a1_4 : Int) (a1_5 : Int) (r1 : Int) (r2 : Bool) (w : World) (hr0 : Kd.C (Kd.int .u8) w A0 l0.length l0) (hc0 : l0.length ≤ c0) (h : phaetonref15_Get.f k l0 a1_0 a1_1 a1_2 a1_3 a1_4 a1_5 = some (r1, r2)) :
  Calls Try.prog 15 #[.slice A0 l0.length c0, .agg #[.int .i64 a1_0, .int .i64 a1_1, .bool a1_2, .bool a1_3, .int .i64 a1_4, .int .i64 a1_5]] w fun e w' => e = .returned (.tuple #[.int .i64 r1, .bool r2]) ∧ Below w.heap.size w w' := by
 have hu23 := Try.underlying23
 have HR0 := aM hr0
 have HC0 := aM hc0
 clear hr0 hc0
 have HB := aM (Below.refl w.heap.size w)
 have H : ((phaetonref15_Right.f k a1_0 a1_1 a1_2 a1_3 a1_4 a1_5 (l0.length : Int)).bind fun t324 => (if t324 = true then ((phaetonref15_Places.f k a1_0 a1_1 a1_2 a1_3 a1_4 a1_5).bind fun t325 => (phaetonref15_Get.l0 k l0 0 t325 0 a1_0 a1_1 a1_2 a1_3 a1_4 a1_5)) else (some (0, false)))) = some (r1, r2) := h
 clear h
 replace H := Option.bind_eq_some_iff.mp H
 obtain ⟨t324, A30, H⟩ := H
 replace H : (if t324 = true then ((phaetonref15_Places.f k a1_0 a1_1 a1_2 a1_3 a1_4 a1_5).bind fun t325 => (phaetonref15_Get.l0 k l0 0 t325 0 a1_0 a1_1 a1_2 a1_3 a1_4 a1_5)) else (some (0, false))) = some (r1, r2) := H
 have A3 := aM A30
 clear A30
 by_cases c4 : t324 = true
 ·subst c4
  have H1 : ((phaetonref15_Places.f k a1_0 a1_1 a1_2 a1_3 a1_4 a1_5).bind fun t325 => (phaetonref15_Get.l0 k l0 0 t325 0 a1_0 a1_1 a1_2 a1_3 a1_4 a1_5)) = some (r1, r2) := by rw [if_pos rfl] at H; exact H
  clear H
  have H := H1
  clear H1
  replace H := Option.bind_eq_some_iff.mp H
  obtain ⟨t325, A50, H⟩ := H
  replace H : (phaetonref15_Get.l0 k l0 0 t325 0 a1_0 a1_1 a1_2 a1_3 a1_4 a1_5) = some (r1, r2) := H
  have A5 := aM A50
  clear A50
  have H' := aM H
  clear H
  go_enter Try.func15, Try.ntmps15
  go_wp2_with (first | ((with_reducible refine gate_dst (N := 3) rfl ?_); refine box_event ?hg (N := 3) ?hd (cs := #[.int .i64 a1_0, .int .i64 a1_1, .bool a1_2, .bool a1_3, .int .i64 a1_4, .int .i64 a1_5]) (t := 23) ?hr ?_; (case hd => rfl); (case hg => rfl); (case hr => first | (go_simp; done) | (go_simp; rfl)); intro gb323 hg w6 hbox hb; have n0_ := aM (lT (by repeat (first | (with_reducible first | exact HB.out | apply lA | apply lN | apply lW) | exact HB.out)) hb); have n1_ := aM (hbox); have n2_ := aM ((by rw [hg]; exact (lZ (by repeat (first | (with_reducible first | exact HB.out | apply lA | apply lN | apply lW) | exact HB.out))) : w.heap.size ≤ gb323)); have n3_ := aM ((by rw [hg]; exact (lZ (by repeat (first | (with_reducible first | exact HB.out | apply lA | apply lN | apply lW) | exact HB.out))) : w.heap.size ≤ gb323)); clear HB; have HB := n0_; have BK323 := n1_; have GW323 := n2_; have GE323 := n3_; clear n0_ n1_ n2_ n3_; clear hb hbox hg; have hcz7_0 : w6.cell? ⟨gb323, 0, none⟩ = some (.int .i64 a1_0) := (bC BK323.out 0).trans rfl; have hcz7_1 : w6.cell? ⟨gb323, 1, none⟩ = some (.int .i64 a1_1) := (bC BK323.out 1).trans rfl; have hcz7_2 : w6.cell? ⟨gb323, 2, none⟩ = some (.bool a1_2) := (bC BK323.out 2).trans rfl; have hcz7_3 : w6.cell? ⟨gb323, 3, none⟩ = some (.bool a1_3) := (bC BK323.out 3).trans rfl; have hcz7_4 : w6.cell? ⟨gb323, 4, none⟩ = some (.int .i64 a1_4) := (bC BK323.out 4).trans rfl; have hcz7_5 : w6.cell? ⟨gb323, 5, none⟩ = some (.int .i64 a1_5) := (bC BK323.out 5).trans rfl; have hfz7_0 := bF BK323.out 0; have hfz7_1 := bF BK323.out 1; have hfz7_2 := bF BK323.out 2; have hfz7_3 := bF BK323.out 3; have hfz7_4 := bF BK323.out 4; have hfz7_5 := bF BK323.out 5) | (go_at_call 17; (with_reducible refine (phaetonref15_Right.calls k a1_0 a1_1 a1_2 a1_3 a1_4 a1_5 (l0.length : Int) true _ A3.out).mono ?_); rintro e w8 ⟨rfl, hb⟩; have n0_ := aM (blk_below (g := gb323) (o := .cells #[.int .i64 a1_0, .int .i64 a1_1, .bool a1_2, .bool a1_3, .int .i64 a1_4, .int .i64 a1_5] 23 (0, 0)) (by (with_reducible repeat (first | refine bN ?_ _ | refine bW ?_ | refine bA ?_ _)); exact BK323.out) hb); have n1_ := aM (lT (by repeat (first | (with_reducible first | exact HB.out | apply lA | apply lN | apply lW | refine lS ?_ GE323.out) | exact HB.out)) hb); clear BK323; clear HB; have BK323 := n0_; have HB := n1_; clear n0_ n1_; (try clear hb); (try clear hb2); (try clear hk); (try clear hi); have hcz9_0 : w8.cell? ⟨gb323, 0, none⟩ = some (.int .i64 a1_0) := (bC BK323.out 0).trans rfl; have hcz9_1 : w8.cell? ⟨gb323, 1, none⟩ = some (.int .i64 a1_1) := (bC BK323.out 1).trans rfl; have hcz9_2 : w8.cell? ⟨gb323, 2, none⟩ = some (.bool a1_2) := (bC BK323.out 2).trans rfl; have hcz9_3 : w8.cell? ⟨gb323, 3, none⟩ = some (.bool a1_3) := (bC BK323.out 3).trans rfl; have hcz9_4 : w8.cell? ⟨gb323, 4, none⟩ = some (.int .i64 a1_4) := (bC BK323.out 4).trans rfl; have hcz9_5 : w8.cell? ⟨gb323, 5, none⟩ = some (.int .i64 a1_5) := (bC BK323.out 5).trans rfl; have hfz9_0 := bF BK323.out 0; have hfz9_1 := bF BK323.out 1; have hfz9_2 := bF BK323.out 2; have hfz9_3 := bF BK323.out 3; have hfz9_4 := bF BK323.out 4; have hfz9_5 := bF BK323.out 5) | (go_at_call 20; (with_reducible refine (phaetonref15_Places.calls k a1_0 a1_1 a1_2 a1_3 a1_4 a1_5 t325 _ A5.out).mono ?_); rintro e w10 ⟨v326, rfl, ho0, hb⟩; have n0_ := aM (Kd.R_lower ho0 (lZ (by repeat (first | (with_reducible first | exact HB.out | apply lA | apply lN | apply lW | refine lS ?_ GE323.out) | exact HB.out)))); have n1_ := aM (blk_below (g := gb323) (o := .cells #[.int .i64 a1_0, .int .i64 a1_1, .bool a1_2, .bool a1_3, .int .i64 a1_4, .int .i64 a1_5] 23 (0, 0)) (by (with_reducible repeat (first | refine bN ?_ _ | refine bW ?_ | refine bA ?_ _)); exact BK323.out) hb); have n2_ := aM (lT (by repeat (first | (with_reducible first | exact HB.out | apply lA | apply lN | apply lW | refine lS ?_ GE323.out) | exact HB.out)) hb); clear BK323; clear HB; have HO327 := n0_; have BK323 := n1_; have HB := n2_; clear n0_ n1_ n2_; (try clear hb); (try clear hb2); (try clear hk); (try clear hi); (try clear ho0)))
  repeat (go_quiet (first | ((with_reducible refine gate_dst (N := 3) rfl ?_); refine box_event ?hg (N := 3) ?hd (cs := #[.int .i64 a1_0, .int .i64 a1_1, .bool a1_2, .bool a1_3, .int .i64 a1_4, .int .i64 a1_5]) (t := 23) ?hr ?_; (case hd => rfl); (case hg => rfl); (case hr => first | (go_simp; done) | (go_simp; rfl)); intro gb323 hg w6 hbox hb; have n0_ := aM (lT (by repeat (first | (with_reducible first | exact HB.out | apply lA | apply lN | apply lW) | exact HB.out)) hb); have n1_ := aM (hbox); have n2_ := aM ((by rw [hg]; exact (lZ (by repeat (first | (with_reducible first | exact HB.out | apply lA | apply lN | apply lW) | exact HB.out))) : w.heap.size ≤ gb323)); have n3_ := aM ((by rw [hg]; exact (lZ (by repeat (first | (with_reducible first | exact HB.out | apply lA | apply lN | apply lW) | exact HB.out))) : w.heap.size ≤ gb323)); clear HB; have HB := n0_; have BK323 := n1_; have GW323 := n2_; have GE323 := n3_; clear n0_ n1_ n2_ n3_; clear hb hbox hg; have hcz7_0 : w6.cell? ⟨gb323, 0, none⟩ = some (.int .i64 a1_0) := (bC BK323.out 0).trans rfl; have hcz7_1 : w6.cell? ⟨gb323, 1, none⟩ = some (.int .i64 a1_1) := (bC BK323.out 1).trans rfl; have hcz7_2 : w6.cell? ⟨gb323, 2, none⟩ = some (.bool a1_2) := (bC BK323.out 2).trans rfl; have hcz7_3 : w6.cell? ⟨gb323, 3, none⟩ = some (.bool a1_3) := (bC BK323.out 3).trans rfl; have hcz7_4 : w6.cell? ⟨gb323, 4, none⟩ = some (.int .i64 a1_4) := (bC BK323.out 4).trans rfl; have hcz7_5 : w6.cell? ⟨gb323, 5, none⟩ = some (.int .i64 a1_5) := (bC BK323.out 5).trans rfl; have hfz7_0 := bF BK323.out 0; have hfz7_1 := bF BK323.out 1; have hfz7_2 := bF BK323.out 2; have hfz7_3 := bF BK323.out 3; have hfz7_4 := bF BK323.out 4; have hfz7_5 := bF BK323.out 5) | (go_at_call 17; (with_reducible refine (phaetonref15_Right.calls k a1_0 a1_1 a1_2 a1_3 a1_4 a1_5 (l0.length : Int) true _ A3.out).mono ?_); rintro e w8 ⟨rfl, hb⟩; have n0_ := aM (blk_below (g := gb323) (o := .cells #[.int .i64 a1_0, .int .i64 a1_1, .bool a1_2, .bool a1_3, .int .i64 a1_4, .int .i64 a1_5] 23 (0, 0)) (by (with_reducible repeat (first | refine bN ?_ _ | refine bW ?_ | refine bA ?_ _)); exact BK323.out) hb); have n1_ := aM (lT (by repeat (first | (with_reducible first | exact HB.out | apply lA | apply lN | apply lW | refine lS ?_ GE323.out) | exact HB.out)) hb); clear BK323; clear HB; have BK323 := n0_; have HB := n1_; clear n0_ n1_; (try clear hb); (try clear hb2); (try clear hk); (try clear hi); have hcz9_0 : w8.cell? ⟨gb323, 0, none⟩ = some (.int .i64 a1_0) := (bC BK323.out 0).trans rfl; have hcz9_1 : w8.cell? ⟨gb323, 1, none⟩ = some (.int .i64 a1_1) := (bC BK323.out 1).trans rfl; have hcz9_2 : w8.cell? ⟨gb323, 2, none⟩ = some (.bool a1_2) := (bC BK323.out 2).trans rfl; have hcz9_3 : w8.cell? ⟨gb323, 3, none⟩ = some (.bool a1_3) := (bC BK323.out 3).trans rfl; have hcz9_4 : w8.cell? ⟨gb323, 4, none⟩ = some (.int .i64 a1_4) := (bC BK323.out 4).trans rfl; have hcz9_5 : w8.cell? ⟨gb323, 5, none⟩ = some (.int .i64 a1_5) := (bC BK323.out 5).trans rfl; have hfz9_0 := bF BK323.out 0; have hfz9_1 := bF BK323.out 1; have hfz9_2 := bF BK323.out 2; have hfz9_3 := bF BK323.out 3; have hfz9_4 := bF BK323.out 4; have hfz9_5 := bF BK323.out 5) | (go_at_call 20; (with_reducible refine (phaetonref15_Places.calls k a1_0 a1_1 a1_2 a1_3 a1_4 a1_5 t325 _ A5.out).mono ?_); rintro e w10 ⟨v326, rfl, ho0, hb⟩; have n0_ := aM (Kd.R_lower ho0 (lZ (by repeat (first | (with_reducible first | exact HB.out | apply lA | apply lN | apply lW | refine lS ?_ GE323.out) | exact HB.out)))); have n1_ := aM (blk_below (g := gb323) (o := .cells #[.int .i64 a1_0, .int .i64 a1_1, .bool a1_2, .bool a1_3, .int .i64 a1_4, .int .i64 a1_5] 23 (0, 0)) (by (with_reducible repeat (first | refine bN ?_ _ | refine bW ?_ | refine bA ?_ _)); exact BK323.out) hb); have n2_ := aM (lT (by repeat (first | (with_reducible first | exact HB.out | apply lA | apply lN | apply lW | refine lS ?_ GE323.out) | exact HB.out)) hb); clear BK323; clear HB; have HO327 := n0_; have BK323 := n1_; have HB := n2_; clear n0_ n1_ n2_; (try clear hb); (try clear hb2); (try clear hk); (try clear hi); (try clear ho0))); try go_wp2_with (first | ((with_reducible refine gate_dst (N := 3) rfl ?_); refine box_event ?hg (N := 3) ?hd (cs := #[.int .i64 a1_0, .int .i64 a1_1, .bool a1_2, .bool a1_3, .int .i64 a1_4, .int .i64 a1_5]) (t := 23) ?hr ?_; (case hd => rfl); (case hg => rfl); (case hr => first | (go_simp; done) | (go_simp; rfl)); intro gb323 hg w6 hbox hb; have n0_ := aM (lT (by repeat (first | (with_reducible first | exact HB.out | apply lA | apply lN | apply lW) | exact HB.out)) hb); have n1_ := aM (hbox); have n2_ := aM ((by rw [hg]; exact (lZ (by repeat (first | (with_reducible first | exact HB.out | apply lA | apply lN | apply lW) | exact HB.out))) : w.heap.size ≤ gb323)); have n3_ := aM ((by rw [hg]; exact (lZ (by repeat (first | (with_reducible first | exact HB.out | apply lA | apply lN | apply lW) | exact HB.out))) : w.heap.size ≤ gb323)); clear HB; have HB := n0_; have BK323 := n1_; have GW323 := n2_; have GE323 := n3_; clear n0_ n1_ n2_ n3_; clear hb hbox hg; have hcz7_0 : w6.cell? ⟨gb323, 0, none⟩ = some (.int .i64 a1_0) := (bC BK323.out 0).trans rfl; have hcz7_1 : w6.cell? ⟨gb323, 1, none⟩ = some (.int .i64 a1_1) := (bC BK323.out 1).trans rfl; have hcz7_2 : w6.cell? ⟨gb323, 2, none⟩ = some (.bool a1_2) := (bC BK323.out 2).trans rfl; have hcz7_3 : w6.cell? ⟨gb323, 3, none⟩ = some (.bool a1_3) := (bC BK323.out 3).trans rfl; have hcz7_4 : w6.cell? ⟨gb323, 4, none⟩ = some (.int .i64 a1_4) := (bC BK323.out 4).trans rfl; have hcz7_5 : w6.cell? ⟨gb323, 5, none⟩ = some (.int .i64 a1_5) := (bC BK323.out 5).trans rfl; have hfz7_0 := bF BK323.out 0; have hfz7_1 := bF BK323.out 1; have hfz7_2 := bF BK323.out 2; have hfz7_3 := bF BK323.out 3; have hfz7_4 := bF BK323.out 4; have hfz7_5 := bF BK323.out 5) | (go_at_call 17; (with_reducible refine (phaetonref15_Right.calls k a1_0 a1_1 a1_2 a1_3 a1_4 a1_5 (l0.length : Int) true _ A3.out).mono ?_); rintro e w8 ⟨rfl, hb⟩; have n0_ := aM (blk_below (g := gb323) (o := .cells #[.int .i64 a1_0, .int .i64 a1_1, .bool a1_2, .bool a1_3, .int .i64 a1_4, .int .i64 a1_5] 23 (0, 0)) (by (with_reducible repeat (first | refine bN ?_ _ | refine bW ?_ | refine bA ?_ _)); exact BK323.out) hb); have n1_ := aM (lT (by repeat (first | (with_reducible first | exact HB.out | apply lA | apply lN | apply lW | refine lS ?_ GE323.out) | exact HB.out)) hb); clear BK323; clear HB; have BK323 := n0_; have HB := n1_; clear n0_ n1_; (try clear hb); (try clear hb2); (try clear hk); (try clear hi); have hcz9_0 : w8.cell? ⟨gb323, 0, none⟩ = some (.int .i64 a1_0) := (bC BK323.out 0).trans rfl; have hcz9_1 : w8.cell? ⟨gb323, 1, none⟩ = some (.int .i64 a1_1) := (bC BK323.out 1).trans rfl; have hcz9_2 : w8.cell? ⟨gb323, 2, none⟩ = some (.bool a1_2) := (bC BK323.out 2).trans rfl; have hcz9_3 : w8.cell? ⟨gb323, 3, none⟩ = some (.bool a1_3) := (bC BK323.out 3).trans rfl; have hcz9_4 : w8.cell? ⟨gb323, 4, none⟩ = some (.int .i64 a1_4) := (bC BK323.out 4).trans rfl; have hcz9_5 : w8.cell? ⟨gb323, 5, none⟩ = some (.int .i64 a1_5) := (bC BK323.out 5).trans rfl; have hfz9_0 := bF BK323.out 0; have hfz9_1 := bF BK323.out 1; have hfz9_2 := bF BK323.out 2; have hfz9_3 := bF BK323.out 3; have hfz9_4 := bF BK323.out 4; have hfz9_5 := bF BK323.out 5) | (go_at_call 20; (with_reducible refine (phaetonref15_Places.calls k a1_0 a1_1 a1_2 a1_3 a1_4 a1_5 t325 _ A5.out).mono ?_); rintro e w10 ⟨v326, rfl, ho0, hb⟩; have n0_ := aM (Kd.R_lower ho0 (lZ (by repeat (first | (with_reducible first | exact HB.out | apply lA | apply lN | apply lW | refine lS ?_ GE323.out) | exact HB.out)))); have n1_ := aM (blk_below (g := gb323) (o := .cells #[.int .i64 a1_0, .int .i64 a1_1, .bool a1_2, .bool a1_3, .int .i64 a1_4, .int .i64 a1_5] 23 (0, 0)) (by (with_reducible repeat (first | refine bN ?_ _ | refine bW ?_ | refine bA ?_ _)); exact BK323.out) hb); have n2_ := aM (lT (by repeat (first | (with_reducible first | exact HB.out | apply lA | apply lN | apply lW | refine lS ?_ GE323.out) | exact HB.out)) hb); clear BK323; clear HB; have HO327 := n0_; have BK323 := n1_; have HB := n2_; clear n0_ n1_ n2_; (try clear hb); (try clear hb2); (try clear hk); (try clear hi); (try clear ho0))))
  go_loopg [6, 8] k (fun kq v6 v8 w' => ∃ (x6_1 : Int) (x8_1 : Int), v6 = .int .i64 x6_1 ∧ v8 = .int .i64 x8_1 ∧ Aside0 (phaetonref15_Get.l0 kq l0 x6_1 t325 x8_1 a1_0 a1_1 a1_2 a1_3 a1_4 a1_5 = some (r1, r2)) ∧ Aside0 (kq ≤ k) ∧ Aside0 (Kd.R (Kd.int .i64) 3 w' w.heap.size (fun _ => True) v326 t325) ∧ Aside0 (w'.heap[gb323]? = some (.cells #[.int .i64 a1_0, .int .i64 a1_1, .bool a1_2, .bool a1_3, .int .i64 a1_4, .int .i64 a1_5] 23 (0, 0))) ∧ Aside0 (Below w.heap.size w w'))
  case atStart => exact ⟨(0), (0), (by first | rfl | (simp; done) | (simp [*]; done)), (by first | rfl | (simp; done) | (simp [*]; done)), H', ⟨Nat.le_refl _⟩, ⟨by (with_reducible repeat (first | apply rA | apply rN | apply rW)); exact HO327.out⟩, ⟨by (with_reducible repeat (first | refine bN ?_ _ | refine bW ?_ | refine bA ?_ _)); exact BK323.out⟩, ⟨by repeat (first | (with_reducible first | exact HB.out | apply lA | apply lN | apply lW | refine lS ?_ GE323.out) | exact HB.out)⟩⟩
  case round =>
   clear H'
   try clear c1
   try clear p2
   try clear c4
   try clear hcz7_0
   try clear hcz7_1
   try clear hcz7_2
   try clear hcz7_3
   try clear hcz7_4
   try clear hcz7_5
   try clear hcz9_0
   try clear hcz9_1
   try clear hcz9_2
   try clear hcz9_3
   try clear hcz9_4
   try clear hcz9_5
   try clear hfz7_0
   try clear hfz7_1
   try clear hfz7_2
   try clear hfz7_3
   try clear hfz7_4
   try clear hfz7_5
   try clear hfz9_0
   try clear hfz9_1
   try clear hfz9_2
   try clear hfz9_3
   try clear hfz9_4
   try clear hfz9_5
   obtain ⟨x6_1, x8_1, rfl, rfl, HA, HK1, HO_7, BK323, HB⟩ := hrel
   cases gk with
   | zero => exact absurd HA.out (by simp [phaetonref15_Get.l0])
   | succ k1 =>
    have H := HA.out
    clear HA
    simp only [phaetonref15_Get.l0] at H
    by_cases c11 : x8_1 < (t325.length : Int)
    ·rw [if_pos c11] at H
     have c11b0 : decide (x8_1 < (t325.length : Int)) = true := decide_eq_true c11
     clear c11
     by_cases c12 : 0 ≤ x8_1
     ·rw [if_pos c12] at H
      have c12b0 : decide (0 ≤ x8_1) = true := decide_eq_true c12
      clear c12
      obtain ⟨ji13, hji13⟩ : ∃ j_ : Int, (wrap64 (Int.tdiv (rd t325 x8_1) 8)) = j_ := ⟨_, rfl⟩
      replace H : (if 0 ≤ (ji13) then (if (ji13) < (l0.length : Int) then ((phaetonref15_power.f k1 (Int.tmod (rd t325 x8_1) 8)).bind fun t331 => (if t331 = 0 then (none) else ((phaetonref15_power.f k1 x8_1).bind fun t332 => (phaetonref15_Get.l0 k1 l0 (wrap64 (x6_1 + (wrap64 ((Int.tmod (wrap64 (Int.tdiv (wrap64 (rd l0 (ji13))) t331)) 2) * t332)))) t325 (wrap64 (x8_1 + 1)) a1_0 a1_1 a1_2 a1_3 a1_4 a1_5)))) else (none)) else (none)) = some (r1, r2) := by first | (rw [hji13] at H; exact H) | (simp only [hji13] at H ⊢; exact H)
      have hji13w : (IntKind.i64.wrap (Int.tdiv (rd t325 x8_1) 8)) = ji13 := (i64_w _).trans hji13
      by_cases c14 : 0 ≤ (ji13)
      ·rw [if_pos c14] at H
       have c14b0 : decide (0 ≤ (ji13)) = true := decide_eq_true c14
       clear c14
       by_cases c15 : (ji13) < (l0.length : Int)
       ·rw [if_pos c15] at H
        have c15b0 : decide ((ji13) < (l0.length : Int)) = true := decide_eq_true c15
        clear c15
        replace H := Option.bind_eq_some_iff.mp H
        obtain ⟨t331, A160, H⟩ := H
        replace H : (if t331 = 0 then (none) else ((phaetonref15_power.f k1 x8_1).bind fun t332 => (phaetonref15_Get.l0 k1 l0 (wrap64 (x6_1 + (wrap64 ((Int.tmod (wrap64 (Int.tdiv (wrap64 (rd l0 (ji13))) t331)) 2) * t332)))) t325 (wrap64 (x8_1 + 1)) a1_0 a1_1 a1_2 a1_3 a1_4 a1_5))) = some (r1, r2) := H
        have A16 := aM A160
        clear A160
        by_cases c17 : t331 = 0
        ·rw [if_pos c17] at H
         exact absurd H (by simp)
        ·rw [if_neg c17] at H
         have c17b0 : (t331 == 0) = false := nF c17
         have c17b1 : (t331 != 0) = true := nT c17
         replace H := Option.bind_eq_some_iff.mp H
         obtain ⟨t332, A180, H⟩ := H
         replace H : (phaetonref15_Get.l0 k1 l0 (wrap64 (x6_1 + (wrap64 ((Int.tmod (wrap64 (Int.tdiv (wrap64 (rd l0 (ji13))) t331)) 2) * t332)))) t325 (wrap64 (x8_1 + 1)) a1_0 a1_1 a1_2 a1_3 a1_4 a1_5) = some (r1, r2) := H
         have A18 := aM A180
         clear A180
         have H' := aM H
         clear H
         obtain ⟨Ao19, co19, eo19⟩ := Kd.R_slice HO_7.out
         subst eo19
         have p328 : 0 ≤ (x8_1 : Int) := oD (by first | (with_reducible assumption) | assumption)
         have q328 : x8_1 < (t325.length : Int) := oD (by first | (with_reducible assumption) | assumption)
         obtain ⟨ad328, e328, hx328_0⟩ := Kd.at_int (Kd.R_reads' HO_7.out).2.2 x8_1 p328 q328
         cases e328
         replace p328 := eq_true p328
         replace q328 := eq_true q328
         have p329 : 0 ≤ ((ji13) : Int) := oD (by first | (with_reducible assumption) | assumption)
         have q329 : (ji13) < (l0.length : Int) := oD (by first | (with_reducible assumption) | assumption)
         obtain ⟨ad329, e329, hx329_0⟩ := Kd.at_int HR0.out (ji13) p329 q329
         cases e329
         replace hx329_0 := (HB.out.cell (wl w _ hx329_0)).trans hx329_0
         replace p329 := eq_true p329
         replace q329 := eq_true q329
         have p330 : 0 ≤ (x8_1 : Int) := oD (by first | (with_reducible assumption) | assumption)
         have q330 : x8_1 < (t325.length : Int) := oD (by first | (with_reducible assumption) | assumption)
         obtain ⟨ad330, e330, hx330_0⟩ := Kd.at_int (Kd.R_reads' HO_7.out).2.2 x8_1 p330 q330
         obtain rfl : ad328 = ad330 := (by injection e330)
         replace p330 := eq_true p330
         replace q330 := eq_true q330
         go_wp2_with (first | (go_at_call 30; (with_reducible refine (phaetonref15_power.calls k1 (Int.tmod (rd t325 x8_1) 8) t331 _ A16.out).mono ?_); rintro e w' ⟨rfl, ⟨nd, rfl⟩⟩; (try first | exact ⟨rfl, _, World.drewN_drewN _ _ _⟩ | exact ⟨rfl, _, Eq.trans (World.drewN_drewN _ _ _) (congrArg (World.drewN _) (Nat.add_assoc _ _ _))⟩)) | (go_at_call 30; (with_reducible refine (phaetonref15_power.calls k1 x8_1 t332 _ A18.out).mono ?_); rintro e w' ⟨rfl, ⟨nd, rfl⟩⟩; (try first | exact ⟨rfl, _, World.drewN_drewN _ _ _⟩ | exact ⟨rfl, _, Eq.trans (World.drewN_drewN _ _ _) (congrArg (World.drewN _) (Nat.add_assoc _ _ _))⟩)))
         repeat (go_quiet (first | (go_at_call 30; (with_reducible refine (phaetonref15_power.calls k1 (Int.tmod (rd t325 x8_1) 8) t331 _ A16.out).mono ?_); rintro e w' ⟨rfl, ⟨nd, rfl⟩⟩; (try first | exact ⟨rfl, _, World.drewN_drewN _ _ _⟩ | exact ⟨rfl, _, Eq.trans (World.drewN_drewN _ _ _) (congrArg (World.drewN _) (Nat.add_assoc _ _ _))⟩)) | (go_at_call 30; (with_reducible refine (phaetonref15_power.calls k1 x8_1 t332 _ A18.out).mono ?_); rintro e w' ⟨rfl, ⟨nd, rfl⟩⟩; (try first | exact ⟨rfl, _, World.drewN_drewN _ _ _⟩ | exact ⟨rfl, _, Eq.trans (World.drewN_drewN _ _ _) (congrArg (World.drewN _) (Nat.add_assoc _ _ _))⟩))); try go_wp2_with (first | (go_at_call 30; (with_reducible refine (phaetonref15_power.calls k1 (Int.tmod (rd t325 x8_1) 8) t331 _ A16.out).mono ?_); rintro e w' ⟨rfl, ⟨nd, rfl⟩⟩; (try first | exact ⟨rfl, _, World.drewN_drewN _ _ _⟩ | exact ⟨rfl, _, Eq.trans (World.drewN_drewN _ _ _) (congrArg (World.drewN _) (Nat.add_assoc _ _ _))⟩)) | (go_at_call 30; (with_reducible refine (phaetonref15_power.calls k1 x8_1 t332 _ A18.out).mono ?_); rintro e w' ⟨rfl, ⟨nd, rfl⟩⟩; (try first | exact ⟨rfl, _, World.drewN_drewN _ _ _⟩ | exact ⟨rfl, _, Eq.trans (World.drewN_drewN _ _ _) (congrArg (World.drewN _) (Nat.add_assoc _ _ _))⟩))))
         go_roundg k1
         case measure => have := HK1.out; omega
         case rel => exact ⟨(wrap64 (x6_1 + (wrap64 ((Int.tmod (wrap64 (Int.tdiv (wrap64 (rd l0 (ji13))) t331)) 2) * t332)))), (wrap64 (x8_1 + 1)), (by first | rfl | (simp; done) | (simp only [← hji13] <;> (first | rfl | simp)) | (simp [*]; done)), (by first | rfl | (simp; done) | (simp [*]; done)), H', ⟨by have := HK1.out; omega⟩, ⟨by (with_reducible repeat (first | apply rA | apply rN | apply rW)); exact HO_7.out⟩, ⟨by (with_reducible repeat (first | refine bN ?_ _ | refine bW ?_ | refine bA ?_ _)); exact BK323.out⟩, ⟨by repeat (first | (with_reducible first | exact HB.out | apply lA | apply lN | apply lW | refine lS ?_ GE323.out) | exact HB.out)⟩⟩
       ·rw [if_neg c15] at H
        exact absurd H (by simp)
      ·rw [if_neg c14] at H
       exact absurd H (by simp)
     ·rw [if_neg c12] at H
      exact absurd H (by simp)
    ·rw [if_neg c11] at H
     have c11b0 : decide (x8_1 < (t325.length : Int)) = false := decide_eq_false c11
     clear c11
     replace H := Option.bind_eq_some_iff.mp H
     obtain ⟨t333, A200, H⟩ := H
     replace H : (if t333 = true then (some (x6_1, true)) else ((phaetonref15_power.f k1 a1_1).bind fun t334 => (some (wrap64 (x6_1 - t334), true)))) = some (r1, r2) := H
     have A20 := aM A200
     clear A200
     by_cases c21 : t333 = true
     ·subst c21
      have H1 : (some (x6_1, true)) = some (r1, r2) := by rw [if_pos rfl] at H; exact H
      clear H
      have H := H1
      clear H1
      simp only [Option.some.injEq, Prod.mk.injEq] at H
      obtain ⟨rfl, rfl⟩ := H
      obtain ⟨Ao22, co22, eo22⟩ := Kd.R_slice HO_7.out
      subst eo22
      have hcz23_0 : wr.cell? ⟨gb323, 0, none⟩ = some (.int .i64 a1_0) := (bC BK323.out 0).trans rfl
      have hcz23_1 : wr.cell? ⟨gb323, 1, none⟩ = some (.int .i64 a1_1) := (bC BK323.out 1).trans rfl
      have hcz23_2 : wr.cell? ⟨gb323, 2, none⟩ = some (.bool a1_2) := (bC BK323.out 2).trans rfl
      have hcz23_3 : wr.cell? ⟨gb323, 3, none⟩ = some (.bool a1_3) := (bC BK323.out 3).trans rfl
      have hcz23_4 : wr.cell? ⟨gb323, 4, none⟩ = some (.int .i64 a1_4) := (bC BK323.out 4).trans rfl
      have hcz23_5 : wr.cell? ⟨gb323, 5, none⟩ = some (.int .i64 a1_5) := (bC BK323.out 5).trans rfl
      have hfz23_0 := bF BK323.out 0
      have hfz23_1 := bF BK323.out 1
      have hfz23_2 := bF BK323.out 2
      have hfz23_3 := bF BK323.out 3
      have hfz23_4 := bF BK323.out 4
      have hfz23_5 := bF BK323.out 5
      go_wp2_with (first | (go_at_call 25; (with_reducible refine (phaetonref15_Fits.calls k1 a1_0 a1_1 a1_2 a1_3 a1_4 a1_5 x6_1 true _ A20.out).mono ?_); rintro e w24 ⟨rfl, hb⟩; have n0_ := aM (Kd.R_below (by (with_reducible repeat (first | apply rA | apply rN | apply rW)); exact HO_7.out) hb); have n1_ := aM (blk_below (g := gb323) (o := .cells #[.int .i64 a1_0, .int .i64 a1_1, .bool a1_2, .bool a1_3, .int .i64 a1_4, .int .i64 a1_5] 23 (0, 0)) (by (with_reducible repeat (first | refine bN ?_ _ | refine bW ?_ | refine bA ?_ _)); exact BK323.out) hb); have n2_ := aM (lT (by repeat (first | (with_reducible first | exact HB.out | apply lA | apply lN | apply lW | refine lS ?_ GE323.out) | exact HB.out)) hb); clear HO_7; clear BK323; clear HB; have HO_7 := n0_; have BK323 := n1_; have HB := n2_; clear n0_ n1_ n2_; (try clear hb); (try clear hb2); (try clear hk); (try clear hi)))
      repeat (go_quiet (first | (go_at_call 25; (with_reducible refine (phaetonref15_Fits.calls k1 a1_0 a1_1 a1_2 a1_3 a1_4 a1_5 x6_1 true _ A20.out).mono ?_); rintro e w24 ⟨rfl, hb⟩; have n0_ := aM (Kd.R_below (by (with_reducible repeat (first | apply rA | apply rN | apply rW)); exact HO_7.out) hb); have n1_ := aM (blk_below (g := gb323) (o := .cells #[.int .i64 a1_0, .int .i64 a1_1, .bool a1_2, .bool a1_3, .int .i64 a1_4, .int .i64 a1_5] 23 (0, 0)) (by (with_reducible repeat (first | refine bN ?_ _ | refine bW ?_ | refine bA ?_ _)); exact BK323.out) hb); have n2_ := aM (lT (by repeat (first | (with_reducible first | exact HB.out | apply lA | apply lN | apply lW | refine lS ?_ GE323.out) | exact HB.out)) hb); clear HO_7; clear BK323; clear HB; have HO_7 := n0_; have BK323 := n1_; have HB := n2_; clear n0_ n1_ n2_; (try clear hb); (try clear hb2); (try clear hk); (try clear hi))); try go_wp2_with (first | (go_at_call 25; (with_reducible refine (phaetonref15_Fits.calls k1 a1_0 a1_1 a1_2 a1_3 a1_4 a1_5 x6_1 true _ A20.out).mono ?_); rintro e w24 ⟨rfl, hb⟩; have n0_ := aM (Kd.R_below (by (with_reducible repeat (first | apply rA | apply rN | apply rW)); exact HO_7.out) hb); have n1_ := aM (blk_below (g := gb323) (o := .cells #[.int .i64 a1_0, .int .i64 a1_1, .bool a1_2, .bool a1_3, .int .i64 a1_4, .int .i64 a1_5] 23 (0, 0)) (by (with_reducible repeat (first | refine bN ?_ _ | refine bW ?_ | refine bA ?_ _)); exact BK323.out) hb); have n2_ := aM (lT (by repeat (first | (with_reducible first | exact HB.out | apply lA | apply lN | apply lW | refine lS ?_ GE323.out) | exact HB.out)) hb); clear HO_7; clear BK323; clear HB; have HO_7 := n0_; have BK323 := n1_; have HB := n2_; clear n0_ n1_ n2_; (try clear hb); (try clear hb2); (try clear hk); (try clear hi))))
      go_ret2
      exact ⟨by first | rfl | (simp [errW_none, errW_some] <;> rfl) | (simp [*, errW_none, errW_some] <;> rfl), by repeat (first | (with_reducible first | exact HB.out | apply lA | apply lN | apply lW | refine lS ?_ GE323.out) | exact HB.out)⟩
     ·replace c21 := Bool.eq_false_iff.mpr c21
      subst c21
      have H1 : ((phaetonref15_power.f k1 a1_1).bind fun t334 => (some (wrap64 (x6_1 - t334), true))) = some (r1, r2) := by rw [if_neg (show ¬ (false = true) by decide)] at H; exact H
      clear H
      have H := H1
      clear H1
      replace H := Option.bind_eq_some_iff.mp H
      obtain ⟨t334, A250, H⟩ := H
      replace H : (some (wrap64 (x6_1 - t334), true)) = some (r1, r2) := H
      have A25 := aM A250
      clear A250
      simp only [Option.some.injEq, Prod.mk.injEq] at H
      obtain ⟨rfl, rfl⟩ := H
      obtain ⟨Ao26, co26, eo26⟩ := Kd.R_slice HO_7.out
      subst eo26
      have hcz27_0 : wr.cell? ⟨gb323, 0, none⟩ = some (.int .i64 a1_0) := (bC BK323.out 0).trans rfl
      have hcz27_1 : wr.cell? ⟨gb323, 1, none⟩ = some (.int .i64 a1_1) := (bC BK323.out 1).trans rfl
      have hcz27_2 : wr.cell? ⟨gb323, 2, none⟩ = some (.bool a1_2) := (bC BK323.out 2).trans rfl
      have hcz27_3 : wr.cell? ⟨gb323, 3, none⟩ = some (.bool a1_3) := (bC BK323.out 3).trans rfl
      have hcz27_4 : wr.cell? ⟨gb323, 4, none⟩ = some (.int .i64 a1_4) := (bC BK323.out 4).trans rfl
      have hcz27_5 : wr.cell? ⟨gb323, 5, none⟩ = some (.int .i64 a1_5) := (bC BK323.out 5).trans rfl
      have hfz27_0 := bF BK323.out 0
      have hfz27_1 := bF BK323.out 1
      have hfz27_2 := bF BK323.out 2
      have hfz27_3 := bF BK323.out 3
      have hfz27_4 := bF BK323.out 4
      have hfz27_5 := bF BK323.out 5
      go_wp2_with (first | (go_at_call 25; (with_reducible refine (phaetonref15_Fits.calls k1 a1_0 a1_1 a1_2 a1_3 a1_4 a1_5 x6_1 false _ A20.out).mono ?_); rintro e w28 ⟨rfl, hb⟩; have n0_ := aM (Kd.R_below (by (with_reducible repeat (first | apply rA | apply rN | apply rW)); exact HO_7.out) hb); have n1_ := aM (blk_below (g := gb323) (o := .cells #[.int .i64 a1_0, .int .i64 a1_1, .bool a1_2, .bool a1_3, .int .i64 a1_4, .int .i64 a1_5] 23 (0, 0)) (by (with_reducible repeat (first | refine bN ?_ _ | refine bW ?_ | refine bA ?_ _)); exact BK323.out) hb); have n2_ := aM (lT (by repeat (first | (with_reducible first | exact HB.out | apply lA | apply lN | apply lW | refine lS ?_ GE323.out) | exact HB.out)) hb); clear HO_7; clear BK323; clear HB; have HO_7 := n0_; have BK323 := n1_; have HB := n2_; clear n0_ n1_ n2_; (try clear hb); (try clear hb2); (try clear hk); (try clear hi); have hcz29_0 : w28.cell? ⟨gb323, 0, none⟩ = some (.int .i64 a1_0) := (bC BK323.out 0).trans rfl; have hcz29_1 : w28.cell? ⟨gb323, 1, none⟩ = some (.int .i64 a1_1) := (bC BK323.out 1).trans rfl; have hcz29_2 : w28.cell? ⟨gb323, 2, none⟩ = some (.bool a1_2) := (bC BK323.out 2).trans rfl; have hcz29_3 : w28.cell? ⟨gb323, 3, none⟩ = some (.bool a1_3) := (bC BK323.out 3).trans rfl; have hcz29_4 : w28.cell? ⟨gb323, 4, none⟩ = some (.int .i64 a1_4) := (bC BK323.out 4).trans rfl; have hcz29_5 : w28.cell? ⟨gb323, 5, none⟩ = some (.int .i64 a1_5) := (bC BK323.out 5).trans rfl; have hfz29_0 := bF BK323.out 0; have hfz29_1 := bF BK323.out 1; have hfz29_2 := bF BK323.out 2; have hfz29_3 := bF BK323.out 3; have hfz29_4 := bF BK323.out 4; have hfz29_5 := bF BK323.out 5) | (go_at_call 30; (with_reducible refine (phaetonref15_power.calls k1 a1_1 t334 _ A25.out).mono ?_); rintro e w' ⟨rfl, ⟨nd, rfl⟩⟩; (try first | exact ⟨rfl, _, World.drewN_drewN _ _ _⟩ | exact ⟨rfl, _, Eq.trans (World.drewN_drewN _ _ _) (congrArg (World.drewN _) (Nat.add_assoc _ _ _))⟩)))
      repeat (go_quiet (first | (go_at_call 25; (with_reducible refine (phaetonref15_Fits.calls k1 a1_0 a1_1 a1_2 a1_3 a1_4 a1_5 x6_1 false _ A20.out).mono ?_); rintro e w28 ⟨rfl, hb⟩; have n0_ := aM (Kd.R_below (by (with_reducible repeat (first | apply rA | apply rN | apply rW)); exact HO_7.out) hb); have n1_ := aM (blk_below (g := gb323) (o := .cells #[.int .i64 a1_0, .int .i64 a1_1, .bool a1_2, .bool a1_3, .int .i64 a1_4, .int .i64 a1_5] 23 (0, 0)) (by (with_reducible repeat (first | refine bN ?_ _ | refine bW ?_ | refine bA ?_ _)); exact BK323.out) hb); have n2_ := aM (lT (by repeat (first | (with_reducible first | exact HB.out | apply lA | apply lN | apply lW | refine lS ?_ GE323.out) | exact HB.out)) hb); clear HO_7; clear BK323; clear HB; have HO_7 := n0_; have BK323 := n1_; have HB := n2_; clear n0_ n1_ n2_; (try clear hb); (try clear hb2); (try clear hk); (try clear hi); have hcz29_0 : w28.cell? ⟨gb323, 0, none⟩ = some (.int .i64 a1_0) := (bC BK323.out 0).trans rfl; have hcz29_1 : w28.cell? ⟨gb323, 1, none⟩ = some (.int .i64 a1_1) := (bC BK323.out 1).trans rfl; have hcz29_2 : w28.cell? ⟨gb323, 2, none⟩ = some (.bool a1_2) := (bC BK323.out 2).trans rfl; have hcz29_3 : w28.cell? ⟨gb323, 3, none⟩ = some (.bool a1_3) := (bC BK323.out 3).trans rfl; have hcz29_4 : w28.cell? ⟨gb323, 4, none⟩ = some (.int .i64 a1_4) := (bC BK323.out 4).trans rfl; have hcz29_5 : w28.cell? ⟨gb323, 5, none⟩ = some (.int .i64 a1_5) := (bC BK323.out 5).trans rfl; have hfz29_0 := bF BK323.out 0; have hfz29_1 := bF BK323.out 1; have hfz29_2 := bF BK323.out 2; have hfz29_3 := bF BK323.out 3; have hfz29_4 := bF BK323.out 4; have hfz29_5 := bF BK323.out 5) | (go_at_call 30; (with_reducible refine (phaetonref15_power.calls k1 a1_1 t334 _ A25.out).mono ?_); rintro e w' ⟨rfl, ⟨nd, rfl⟩⟩; (try first | exact ⟨rfl, _, World.drewN_drewN _ _ _⟩ | exact ⟨rfl, _, Eq.trans (World.drewN_drewN _ _ _) (congrArg (World.drewN _) (Nat.add_assoc _ _ _))⟩))); try go_wp2_with (first | (go_at_call 25; (with_reducible refine (phaetonref15_Fits.calls k1 a1_0 a1_1 a1_2 a1_3 a1_4 a1_5 x6_1 false _ A20.out).mono ?_); rintro e w28 ⟨rfl, hb⟩; have n0_ := aM (Kd.R_below (by (with_reducible repeat (first | apply rA | apply rN | apply rW)); exact HO_7.out) hb); have n1_ := aM (blk_below (g := gb323) (o := .cells #[.int .i64 a1_0, .int .i64 a1_1, .bool a1_2, .bool a1_3, .int .i64 a1_4, .int .i64 a1_5] 23 (0, 0)) (by (with_reducible repeat (first | refine bN ?_ _ | refine bW ?_ | refine bA ?_ _)); exact BK323.out) hb); have n2_ := aM (lT (by repeat (first | (with_reducible first | exact HB.out | apply lA | apply lN | apply lW | refine lS ?_ GE323.out) | exact HB.out)) hb); clear HO_7; clear BK323; clear HB; have HO_7 := n0_; have BK323 := n1_; have HB := n2_; clear n0_ n1_ n2_; (try clear hb); (try clear hb2); (try clear hk); (try clear hi); have hcz29_0 : w28.cell? ⟨gb323, 0, none⟩ = some (.int .i64 a1_0) := (bC BK323.out 0).trans rfl; have hcz29_1 : w28.cell? ⟨gb323, 1, none⟩ = some (.int .i64 a1_1) := (bC BK323.out 1).trans rfl; have hcz29_2 : w28.cell? ⟨gb323, 2, none⟩ = some (.bool a1_2) := (bC BK323.out 2).trans rfl; have hcz29_3 : w28.cell? ⟨gb323, 3, none⟩ = some (.bool a1_3) := (bC BK323.out 3).trans rfl; have hcz29_4 : w28.cell? ⟨gb323, 4, none⟩ = some (.int .i64 a1_4) := (bC BK323.out 4).trans rfl; have hcz29_5 : w28.cell? ⟨gb323, 5, none⟩ = some (.int .i64 a1_5) := (bC BK323.out 5).trans rfl; have hfz29_0 := bF BK323.out 0; have hfz29_1 := bF BK323.out 1; have hfz29_2 := bF BK323.out 2; have hfz29_3 := bF BK323.out 3; have hfz29_4 := bF BK323.out 4; have hfz29_5 := bF BK323.out 5) | (go_at_call 30; (with_reducible refine (phaetonref15_power.calls k1 a1_1 t334 _ A25.out).mono ?_); rintro e w' ⟨rfl, ⟨nd, rfl⟩⟩; (try first | exact ⟨rfl, _, World.drewN_drewN _ _ _⟩ | exact ⟨rfl, _, Eq.trans (World.drewN_drewN _ _ _) (congrArg (World.drewN _) (Nat.add_assoc _ _ _))⟩))))
      go_ret2
      exact ⟨by first | rfl | (simp [errW_none, errW_some] <;> rfl) | (simp [*, errW_none, errW_some] <;> rfl), by repeat (first | (with_reducible first | exact HB.out | apply lA | apply lN | apply lW | refine lS ?_ GE323.out) | exact HB.out)⟩
 ·replace c4 := Bool.eq_false_iff.mpr c4
  subst c4
  have H1 : (some (0, false)) = some (r1, r2) := by rw [if_neg (show ¬ (false = true) by decide)] at H; exact H
  clear H
  have H := H1
  clear H1
  simp only [Option.some.injEq, Prod.mk.injEq] at H
  obtain ⟨rfl, rfl⟩ := H
  go_enter Try.func15, Try.ntmps15
  go_wp2_with (first | ((with_reducible refine gate_dst (N := 3) rfl ?_); refine box_event ?hg (N := 3) ?hd (cs := #[.int .i64 a1_0, .int .i64 a1_1, .bool a1_2, .bool a1_3, .int .i64 a1_4, .int .i64 a1_5]) (t := 23) ?hr ?_; (case hd => rfl); (case hg => rfl); (case hr => first | (go_simp; done) | (go_simp; rfl)); intro gb323 hg w30 hbox hb; have n0_ := aM (lT (by repeat (first | (with_reducible first | exact HB.out | apply lA | apply lN | apply lW) | exact HB.out)) hb); have n1_ := aM (hbox); have n2_ := aM ((by rw [hg]; exact (lZ (by repeat (first | (with_reducible first | exact HB.out | apply lA | apply lN | apply lW) | exact HB.out))) : w.heap.size ≤ gb323)); have n3_ := aM ((by rw [hg]; exact (lZ (by repeat (first | (with_reducible first | exact HB.out | apply lA | apply lN | apply lW) | exact HB.out))) : w.heap.size ≤ gb323)); clear HB; have HB := n0_; have BK323 := n1_; have GW323 := n2_; have GE323 := n3_; clear n0_ n1_ n2_ n3_; clear hb hbox hg; have hcz31_0 : w30.cell? ⟨gb323, 0, none⟩ = some (.int .i64 a1_0) := (bC BK323.out 0).trans rfl; have hcz31_1 : w30.cell? ⟨gb323, 1, none⟩ = some (.int .i64 a1_1) := (bC BK323.out 1).trans rfl; have hcz31_2 : w30.cell? ⟨gb323, 2, none⟩ = some (.bool a1_2) := (bC BK323.out 2).trans rfl; have hcz31_3 : w30.cell? ⟨gb323, 3, none⟩ = some (.bool a1_3) := (bC BK323.out 3).trans rfl; have hcz31_4 : w30.cell? ⟨gb323, 4, none⟩ = some (.int .i64 a1_4) := (bC BK323.out 4).trans rfl; have hcz31_5 : w30.cell? ⟨gb323, 5, none⟩ = some (.int .i64 a1_5) := (bC BK323.out 5).trans rfl; have hfz31_0 := bF BK323.out 0; have hfz31_1 := bF BK323.out 1; have hfz31_2 := bF BK323.out 2; have hfz31_3 := bF BK323.out 3; have hfz31_4 := bF BK323.out 4; have hfz31_5 := bF BK323.out 5) | (go_at_call 17; (with_reducible refine (phaetonref15_Right.calls k a1_0 a1_1 a1_2 a1_3 a1_4 a1_5 (l0.length : Int) false _ A3.out).mono ?_); rintro e w32 ⟨rfl, hb⟩; have n0_ := aM (blk_below (g := gb323) (o := .cells #[.int .i64 a1_0, .int .i64 a1_1, .bool a1_2, .bool a1_3, .int .i64 a1_4, .int .i64 a1_5] 23 (0, 0)) (by (with_reducible repeat (first | refine bN ?_ _ | refine bW ?_ | refine bA ?_ _)); exact BK323.out) hb); have n1_ := aM (lT (by repeat (first | (with_reducible first | exact HB.out | apply lA | apply lN | apply lW | refine lS ?_ GE323.out) | exact HB.out)) hb); clear BK323; clear HB; have BK323 := n0_; have HB := n1_; clear n0_ n1_; (try clear hb); (try clear hb2); (try clear hk); (try clear hi)))
  repeat (go_quiet (first | ((with_reducible refine gate_dst (N := 3) rfl ?_); refine box_event ?hg (N := 3) ?hd (cs := #[.int .i64 a1_0, .int .i64 a1_1, .bool a1_2, .bool a1_3, .int .i64 a1_4, .int .i64 a1_5]) (t := 23) ?hr ?_; (case hd => rfl); (case hg => rfl); (case hr => first | (go_simp; done) | (go_simp; rfl)); intro gb323 hg w30 hbox hb; have n0_ := aM (lT (by repeat (first | (with_reducible first | exact HB.out | apply lA | apply lN | apply lW) | exact HB.out)) hb); have n1_ := aM (hbox); have n2_ := aM ((by rw [hg]; exact (lZ (by repeat (first | (with_reducible first | exact HB.out | apply lA | apply lN | apply lW) | exact HB.out))) : w.heap.size ≤ gb323)); have n3_ := aM ((by rw [hg]; exact (lZ (by repeat (first | (with_reducible first | exact HB.out | apply lA | apply lN | apply lW) | exact HB.out))) : w.heap.size ≤ gb323)); clear HB; have HB := n0_; have BK323 := n1_; have GW323 := n2_; have GE323 := n3_; clear n0_ n1_ n2_ n3_; clear hb hbox hg; have hcz31_0 : w30.cell? ⟨gb323, 0, none⟩ = some (.int .i64 a1_0) := (bC BK323.out 0).trans rfl; have hcz31_1 : w30.cell? ⟨gb323, 1, none⟩ = some (.int .i64 a1_1) := (bC BK323.out 1).trans rfl; have hcz31_2 : w30.cell? ⟨gb323, 2, none⟩ = some (.bool a1_2) := (bC BK323.out 2).trans rfl; have hcz31_3 : w30.cell? ⟨gb323, 3, none⟩ = some (.bool a1_3) := (bC BK323.out 3).trans rfl; have hcz31_4 : w30.cell? ⟨gb323, 4, none⟩ = some (.int .i64 a1_4) := (bC BK323.out 4).trans rfl; have hcz31_5 : w30.cell? ⟨gb323, 5, none⟩ = some (.int .i64 a1_5) := (bC BK323.out 5).trans rfl; have hfz31_0 := bF BK323.out 0; have hfz31_1 := bF BK323.out 1; have hfz31_2 := bF BK323.out 2; have hfz31_3 := bF BK323.out 3; have hfz31_4 := bF BK323.out 4; have hfz31_5 := bF BK323.out 5) | (go_at_call 17; (with_reducible refine (phaetonref15_Right.calls k a1_0 a1_1 a1_2 a1_3 a1_4 a1_5 (l0.length : Int) false _ A3.out).mono ?_); rintro e w32 ⟨rfl, hb⟩; have n0_ := aM (blk_below (g := gb323) (o := .cells #[.int .i64 a1_0, .int .i64 a1_1, .bool a1_2, .bool a1_3, .int .i64 a1_4, .int .i64 a1_5] 23 (0, 0)) (by (with_reducible repeat (first | refine bN ?_ _ | refine bW ?_ | refine bA ?_ _)); exact BK323.out) hb); have n1_ := aM (lT (by repeat (first | (with_reducible first | exact HB.out | apply lA | apply lN | apply lW | refine lS ?_ GE323.out) | exact HB.out)) hb); clear BK323; clear HB; have BK323 := n0_; have HB := n1_; clear n0_ n1_; (try clear hb); (try clear hb2); (try clear hk); (try clear hi))); try go_wp2_with (first | ((with_reducible refine gate_dst (N := 3) rfl ?_); refine box_event ?hg (N := 3) ?hd (cs := #[.int .i64 a1_0, .int .i64 a1_1, .bool a1_2, .bool a1_3, .int .i64 a1_4, .int .i64 a1_5]) (t := 23) ?hr ?_; (case hd => rfl); (case hg => rfl); (case hr => first | (go_simp; done) | (go_simp; rfl)); intro gb323 hg w30 hbox hb; have n0_ := aM (lT (by repeat (first | (with_reducible first | exact HB.out | apply lA | apply lN | apply lW) | exact HB.out)) hb); have n1_ := aM (hbox); have n2_ := aM ((by rw [hg]; exact (lZ (by repeat (first | (with_reducible first | exact HB.out | apply lA | apply lN | apply lW) | exact HB.out))) : w.heap.size ≤ gb323)); have n3_ := aM ((by rw [hg]; exact (lZ (by repeat (first | (with_reducible first | exact HB.out | apply lA | apply lN | apply lW) | exact HB.out))) : w.heap.size ≤ gb323)); clear HB; have HB := n0_; have BK323 := n1_; have GW323 := n2_; have GE323 := n3_; clear n0_ n1_ n2_ n3_; clear hb hbox hg; have hcz31_0 : w30.cell? ⟨gb323, 0, none⟩ = some (.int .i64 a1_0) := (bC BK323.out 0).trans rfl; have hcz31_1 : w30.cell? ⟨gb323, 1, none⟩ = some (.int .i64 a1_1) := (bC BK323.out 1).trans rfl; have hcz31_2 : w30.cell? ⟨gb323, 2, none⟩ = some (.bool a1_2) := (bC BK323.out 2).trans rfl; have hcz31_3 : w30.cell? ⟨gb323, 3, none⟩ = some (.bool a1_3) := (bC BK323.out 3).trans rfl; have hcz31_4 : w30.cell? ⟨gb323, 4, none⟩ = some (.int .i64 a1_4) := (bC BK323.out 4).trans rfl; have hcz31_5 : w30.cell? ⟨gb323, 5, none⟩ = some (.int .i64 a1_5) := (bC BK323.out 5).trans rfl; have hfz31_0 := bF BK323.out 0; have hfz31_1 := bF BK323.out 1; have hfz31_2 := bF BK323.out 2; have hfz31_3 := bF BK323.out 3; have hfz31_4 := bF BK323.out 4; have hfz31_5 := bF BK323.out 5) | (go_at_call 17; (with_reducible refine (phaetonref15_Right.calls k a1_0 a1_1 a1_2 a1_3 a1_4 a1_5 (l0.length : Int) false _ A3.out).mono ?_); rintro e w32 ⟨rfl, hb⟩; have n0_ := aM (blk_below (g := gb323) (o := .cells #[.int .i64 a1_0, .int .i64 a1_1, .bool a1_2, .bool a1_3, .int .i64 a1_4, .int .i64 a1_5] 23 (0, 0)) (by (with_reducible repeat (first | refine bN ?_ _ | refine bW ?_ | refine bA ?_ _)); exact BK323.out) hb); have n1_ := aM (lT (by repeat (first | (with_reducible first | exact HB.out | apply lA | apply lN | apply lW | refine lS ?_ GE323.out) | exact HB.out)) hb); clear BK323; clear HB; have BK323 := n0_; have HB := n1_; clear n0_ n1_; (try clear hb); (try clear hb2); (try clear hk); (try clear hi))))
  go_ret2
  exact ⟨by first | rfl | (simp [errW_none, errW_some] <;> rfl) | (simp [*, errW_none, errW_some] <;> rfl), by repeat (first | (with_reducible first | exact HB.out | apply lA | apply lN | apply lW | refine lS ?_ GE323.out) | exact HB.out)⟩

end Go.Proofs.Ytcgkkjimonfhbaa.P

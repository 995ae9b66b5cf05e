/- Go functions that the laws of this seat reach, each as a Lean function, and a proof that a call of the Go code comes to its answers; written by a program (the kit's print, turned in a few places). Conditions: each theorem's own premises. -/
import Derived.Test.YtcgkkjimonfhbaaPx0
namespace Go.Proofs.Ytcgkkjimonfhbaa.P
open Go.RowKit Go.Proofs.YtcgkkjimonfhbaaW.PrintWords Go.Proofs.YtcgkkjimonfhbaaW.PrintLast Go.Proofs.YtcgkkjimonfhbaaW.PrintMore
attribute [local go_sem] max2_int min2_int max_two min_two max_three min_three max_four min_four   -- for this text's walks alone
set_option linter.unusedVariables false
set_option linter.unusedSimpArgs false

/-! ### phaetonref15_power: function 30 -/
def phaetonref15_power.l0 : Nat → Int → Int → Int → Option (Int)
 | 0, _, _, _ => none
 | k + 1, x0, x3, x4 => if x4 < x0 then (phaetonref15_power.l0 k x0 (wrap64 (x3 * 2)) (wrap64 (x4 + 1))) else (some x3)
def phaetonref15_power.f (k : Nat) (a0 : Int) : Option (Int) := phaetonref15_power.l0 k a0 1 0
theorem phaetonref15_power.mono_l : ∀ k, (∀ y0 y1 y2, LeO (phaetonref15_power.l0 k y0 y1 y2) (phaetonref15_power.l0 (k + 1) y0 y1 y2))
 | 0 => fun _ _ _ r h => by simp [phaetonref15_power.l0] at h
 | k + 1 => by
  have ih0 := phaetonref15_power.mono_l k
  ·intro y0 y1 y2
   unfold phaetonref15_power.l0
   repeat' first
   | (with_reducible exact ih0 _ _ _)
   | (with_reducible exact LeO.refl _)
   | (with_reducible exact LeO.none _)
   | (with_reducible refine LeO.ite ?_ ?_)
   | (with_reducible refine LeO.bind ?_ (fun _ => ?_))
   | exact ih0 _ _ _
   | exact LeO.none _
   | refine LeO.ite ?_ ?_
   | refine LeO.bind ?_ (fun _ => ?_)
theorem phaetonref15_power.mono : ∀ a0 k, LeO (phaetonref15_power.f k a0) (phaetonref15_power.f (k + 1) a0) := by
 intro a0 k
 have ih0 := phaetonref15_power.mono_l k
 unfold phaetonref15_power.f
 repeat' first
   | (with_reducible exact ih0 _ _ _)
   | (with_reducible exact LeO.refl _)
   | (with_reducible exact LeO.none _)
   | (with_reducible refine LeO.ite ?_ ?_)
   | (with_reducible refine LeO.bind ?_ (fun _ => ?_))
   | exact ih0 _ _ _
   | exact LeO.none _
   | refine LeO.ite ?_ ?_
   | refine LeO.bind ?_ (fun _ => ?_)
set_option maxHeartbeats 8000000 in
set_option maxRecDepth 100000 in
theorem phaetonref15_power.calls (k : Nat) (a0 : Int) (r : Int) (w : World) (h : phaetonref15_power.f k a0 = some r) :
  Calls Try.prog 30 #[.int .i64 a0] w fun e w' => e = .returned (.int .i64 r) ∧ Drawn0 w w' := by
 have H : (phaetonref15_power.l0 k a0 1 0) = some r := h
 clear h
 have H' := aM H
 clear H
 go_enter Try.func30, Try.ntmps30
 go_wp2
 go_loopg [3, 4] k (fun kq v3 v4 w' => ∃ (x3_1 : Int) (x4_1 : Int), v3 = .int .i64 x3_1 ∧ v4 = .int .i64 x4_1 ∧ Aside0 (phaetonref15_power.l0 kq a0 x3_1 x4_1 = some r) ∧ Aside0 (kq ≤ k) ∧ Drawn0 w w')
 case atStart => exact ⟨(1), (0), (by first | rfl | (simp; done) | (simp [*]; done)), (by first | rfl | (simp; done) | (simp [*]; done)), H', ⟨Nat.le_refl _⟩, by repeat (first | exact Drawn0.refl _ | apply Drawn0.step)⟩
 case round =>
  clear H'
  obtain ⟨x3_1, x4_1, rfl, rfl, HA, HK1, ⟨m1, rfl⟩⟩ := hrel
  cases gk with
  | zero => exact absurd HA.out (by simp [phaetonref15_power.l0])
  | succ k1 =>
   have H := HA.out
   clear HA
   simp only [phaetonref15_power.l0] at H
   by_cases c2 : x4_1 < a0
   ·rw [if_pos c2] at H
    have c2b0 : decide (x4_1 < a0) = true := decide_eq_true c2
    clear c2
    have H' := aM H
    clear H
    go_wp2
    go_roundg k1
    case measure => have := HK1.out; omega
    case rel => exact ⟨(wrap64 (x3_1 * 2)), (wrap64 (x4_1 + 1)), (by first | rfl | (simp; done) | (simp [*]; done)), (by first | rfl | (simp; done) | (simp [*]; done)), H', ⟨by have := HK1.out; omega⟩, by repeat (first | exact Drawn0.refl _ | apply Drawn0.step)⟩
   ·rw [if_neg c2] at H
    have c2b0 : decide (x4_1 < a0) = false := decide_eq_false c2
    clear c2
    obtain rfl := Option.some.inj H
    go_wp2
    go_ret
    exact ⟨by first | rfl | (simp; done) | (simp [*]; done), by repeat (first | exact Drawn0.refl _ | apply Drawn0.step)⟩

/-! ### phaetonref15_Fits: function 25 -/
def phaetonref15_Fits.f (k : Nat) (a0_0 : Int) (a0_1 : Int) (a0_2 : Bool) (a0_3 : Bool) (a0_4 : Int) (a0_5 : Int) (a1 : Int) : Option (Bool) := if a0_3 = true then ((phaetonref15_power.f k (wrap64 (a0_1 - 1))).bind fun t297 => (if a1 ≥ (wrap64 (-t297)) then ((phaetonref15_power.f k (wrap64 (a0_1 - 1))).bind fun t298 => (some (decide (a1 < t298)))) else (some false))) else (if a1 ≥ 0 then ((phaetonref15_power.f k a0_1).bind fun t299 => (some (decide (a1 < t299)))) else (some false))
theorem phaetonref15_Fits.mono : ∀ a0 a1 a2 a3 a4 a5 a6 k, LeO (phaetonref15_Fits.f k a0 a1 a2 a3 a4 a5 a6) (phaetonref15_Fits.f (k + 1) a0 a1 a2 a3 a4 a5 a6) := by
 intro a0 a1 a2 a3 a4 a5 a6 k
 unfold phaetonref15_Fits.f
 repeat' first
   | (with_reducible exact phaetonref15_power.mono _ _)
   | (with_reducible exact LeO.refl _)
   | (with_reducible exact LeO.none _)
   | (with_reducible refine LeO.ite ?_ ?_)
   | (with_reducible refine LeO.bind ?_ (fun _ => ?_))
   | exact phaetonref15_power.mono _ _
   | exact LeO.none _
   | refine LeO.ite ?_ ?_
   | refine LeO.bind ?_ (fun _ => ?_)
set_option maxHeartbeats 8000000 in
set_option maxRecDepth 100000 in
theorem phaetonref15_Fits.calls (k : Nat) (a0_0 : Int) (a0_1 : Int) (a0_2 : Bool) (a0_3 : Bool) (a0_4 : Int) (a0_5 : Int) (a1 : Int) (r : Bool) (w : World) (h : phaetonref15_Fits.f k a0_0 a0_1 a0_2 a0_3 a0_4 a0_5 a1 = some r) :
  Calls Try.prog 25 #[.agg #[.int .i64 a0_0, .int .i64 a0_1, .bool a0_2, .bool a0_3, .int .i64 a0_4, .int .i64 a0_5], .int .i64 a1] w fun e w' => e = .returned (.bool r) ∧ Below w.heap.size w w' := by
 have hu23 := Try.underlying23
 have HB := aM (Below.refl w.heap.size w)
 have H : (if a0_3 = true then ((phaetonref15_power.f k (wrap64 (a0_1 - 1))).bind fun t297 => (if a1 ≥ (wrap64 (-t297)) then ((phaetonref15_power.f k (wrap64 (a0_1 - 1))).bind fun t298 => (some (decide (a1 < t298)))) else (some false))) else (if a1 ≥ 0 then ((phaetonref15_power.f k a0_1).bind fun t299 => (some (decide (a1 < t299)))) else (some false))) = some r := h
 clear h
 by_cases c3 : a0_3 = true
 ·subst c3
  have H1 : ((phaetonref15_power.f k (wrap64 (a0_1 - 1))).bind fun t297 => (if a1 ≥ (wrap64 (-t297)) then ((phaetonref15_power.f k (wrap64 (a0_1 - 1))).bind fun t298 => (some (decide (a1 < t298)))) else (some false))) = some r := by rw [if_pos rfl] at H; exact H
  clear H
  have H := H1
  clear H1
  replace H := Option.bind_eq_some_iff.mp H
  obtain ⟨t297, A40, H⟩ := H
  replace H : (if a1 ≥ (wrap64 (-t297)) then ((phaetonref15_power.f k (wrap64 (a0_1 - 1))).bind fun t298 => (some (decide (a1 < t298)))) else (some false)) = some r := H
  have A4 := aM A40
  clear A40
  by_cases c5 : a1 ≥ (wrap64 (-t297))
  ·rw [if_pos c5] at H
   have c5b0 : decide ((wrap64 (-t297)) ≤ a1) = true := decide_eq_true c5
   clear c5
   replace H := Option.bind_eq_some_iff.mp H
   obtain ⟨t298, A60, H⟩ := H
   replace H : (some (decide (a1 < t298))) = some r := H
   have A6 := aM A60
   clear A60
   obtain rfl := Option.some.inj H
   go_enter Try.func25, Try.ntmps25
   go_wp2_with (first | ((with_reducible refine gate_dst (N := 2) rfl ?_); refine box_event ?hg (N := 2) ?hd (cs := #[.int .i64 a0_0, .int .i64 a0_1, .bool a0_2, .bool true, .int .i64 a0_4, .int .i64 a0_5]) (t := 23) ?hr ?_; (case hd => rfl); (case hg => rfl); (case hr => first | (go_simp; done) | (go_simp; rfl)); intro gb296 hg w7 hbox hb; have n0_ := aM (lT (by repeat (first | (with_reducible first | exact HB.out | apply lA | apply lN | apply lW) | exact HB.out)) hb); have n1_ := aM (hbox); have n2_ := aM ((by rw [hg]; exact (lZ (by repeat (first | (with_reducible first | exact HB.out | apply lA | apply lN | apply lW) | exact HB.out))) : w.heap.size ≤ gb296)); have n3_ := aM ((by rw [hg]; exact (lZ (by repeat (first | (with_reducible first | exact HB.out | apply lA | apply lN | apply lW) | exact HB.out))) : w.heap.size ≤ gb296)); clear HB; have HB := n0_; have BK296 := n1_; have GW296 := n2_; have GE296 := n3_; clear n0_ n1_ n2_ n3_; clear hb hbox hg; have hcz8_0 : w7.cell? ⟨gb296, 0, none⟩ = some (.int .i64 a0_0) := (bC BK296.out 0).trans rfl; have hcz8_1 : w7.cell? ⟨gb296, 1, none⟩ = some (.int .i64 a0_1) := (bC BK296.out 1).trans rfl; have hcz8_2 : w7.cell? ⟨gb296, 2, none⟩ = some (.bool a0_2) := (bC BK296.out 2).trans rfl; have hcz8_3 : w7.cell? ⟨gb296, 3, none⟩ = some (.bool true) := (bC BK296.out 3).trans rfl; have hcz8_4 : w7.cell? ⟨gb296, 4, none⟩ = some (.int .i64 a0_4) := (bC BK296.out 4).trans rfl; have hcz8_5 : w7.cell? ⟨gb296, 5, none⟩ = some (.int .i64 a0_5) := (bC BK296.out 5).trans rfl; have hfz8_0 := bF BK296.out 0; have hfz8_1 := bF BK296.out 1; have hfz8_2 := bF BK296.out 2; have hfz8_3 := bF BK296.out 3; have hfz8_4 := bF BK296.out 4; have hfz8_5 := bF BK296.out 5) | ((with_reducible refine gate_callee (f := 30) rfl ?_); refine goesL_ (some 11) rfl rfl Try.func30 (by kernel_rfl) rfl #[.int .i64 (wrap64 (a0_1 - 1))] rfl (by (try simp only [List.map_toArray, List.map_cons, List.map_nil]); first | done | rfl | (simp only [List.length_drop, List.length_take]; rfl)) ?_; (with_reducible refine (phaetonref15_power.calls k (wrap64 (a0_1 - 1)) t297 _ A4.out).mono ?_); rintro e w' ⟨rfl, ⟨nd, rfl⟩⟩; refine ⟨_, rfl, ?_⟩) | (go_at_call 30; (with_reducible refine (phaetonref15_power.calls k (wrap64 (a0_1 - 1)) t298 _ A6.out).mono ?_); rintro e w' ⟨rfl, ⟨nd, rfl⟩⟩))
   go_ret
   exact ⟨by first | rfl | (simp [errW_none, errW_some] <;> rfl) | (simp [*, errW_none, errW_some] <;> rfl), by repeat (first | (with_reducible first | exact HB.out | apply lA | apply lN | apply lW | refine lS ?_ GE296.out) | exact HB.out)⟩
  ·rw [if_neg c5] at H
   have c5b0 : decide ((wrap64 (-t297)) ≤ a1) = false := decide_eq_false c5
   clear c5
   obtain rfl := Option.some.inj H
   go_enter Try.func25, Try.ntmps25
   go_wp2_with (first | ((with_reducible refine gate_dst (N := 2) rfl ?_); refine box_event ?hg (N := 2) ?hd (cs := #[.int .i64 a0_0, .int .i64 a0_1, .bool a0_2, .bool true, .int .i64 a0_4, .int .i64 a0_5]) (t := 23) ?hr ?_; (case hd => rfl); (case hg => rfl); (case hr => first | (go_simp; done) | (go_simp; rfl)); intro gb296 hg w9 hbox hb; have n0_ := aM (lT (by repeat (first | (with_reducible first | exact HB.out | apply lA | apply lN | apply lW) | exact HB.out)) hb); have n1_ := aM (hbox); have n2_ := aM ((by rw [hg]; exact (lZ (by repeat (first | (with_reducible first | exact HB.out | apply lA | apply lN | apply lW) | exact HB.out))) : w.heap.size ≤ gb296)); have n3_ := aM ((by rw [hg]; exact (lZ (by repeat (first | (with_reducible first | exact HB.out | apply lA | apply lN | apply lW) | exact HB.out))) : w.heap.size ≤ gb296)); clear HB; have HB := n0_; have BK296 := n1_; have GW296 := n2_; have GE296 := n3_; clear n0_ n1_ n2_ n3_; clear hb hbox hg; have hcz10_0 : w9.cell? ⟨gb296, 0, none⟩ = some (.int .i64 a0_0) := (bC BK296.out 0).trans rfl; have hcz10_1 : w9.cell? ⟨gb296, 1, none⟩ = some (.int .i64 a0_1) := (bC BK296.out 1).trans rfl; have hcz10_2 : w9.cell? ⟨gb296, 2, none⟩ = some (.bool a0_2) := (bC BK296.out 2).trans rfl; have hcz10_3 : w9.cell? ⟨gb296, 3, none⟩ = some (.bool true) := (bC BK296.out 3).trans rfl; have hcz10_4 : w9.cell? ⟨gb296, 4, none⟩ = some (.int .i64 a0_4) := (bC BK296.out 4).trans rfl; have hcz10_5 : w9.cell? ⟨gb296, 5, none⟩ = some (.int .i64 a0_5) := (bC BK296.out 5).trans rfl; have hfz10_0 := bF BK296.out 0; have hfz10_1 := bF BK296.out 1; have hfz10_2 := bF BK296.out 2; have hfz10_3 := bF BK296.out 3; have hfz10_4 := bF BK296.out 4; have hfz10_5 := bF BK296.out 5) | ((with_reducible refine gate_callee (f := 30) rfl ?_); refine goesL_ (some 11) rfl rfl Try.func30 (by kernel_rfl) rfl #[.int .i64 (wrap64 (a0_1 - 1))] rfl (by (try simp only [List.map_toArray, List.map_cons, List.map_nil]); first | done | rfl | (simp only [List.length_drop, List.length_take]; rfl)) ?_; (with_reducible refine (phaetonref15_power.calls k (wrap64 (a0_1 - 1)) t297 _ A4.out).mono ?_); rintro e w' ⟨rfl, ⟨nd, rfl⟩⟩; refine ⟨_, rfl, ?_⟩))
   go_ret
   exact ⟨by first | rfl | (simp [errW_none, errW_some] <;> rfl) | (simp [*, errW_none, errW_some] <;> rfl), by repeat (first | (with_reducible first | exact HB.out | apply lA | apply lN | apply lW | refine lS ?_ GE296.out) | exact HB.out)⟩
 ·replace c3 := Bool.eq_false_iff.mpr c3
  subst c3
  have H1 : (if a1 ≥ 0 then ((phaetonref15_power.f k a0_1).bind fun t299 => (some (decide (a1 < t299)))) else (some false)) = some r := by rw [if_neg (show ¬ (false = true) by decide)] at H; exact H
  clear H
  have H := H1
  clear H1
  by_cases c11 : a1 ≥ 0
  ·rw [if_pos c11] at H
   have c11b0 : decide (0 ≤ a1) = true := decide_eq_true c11
   clear c11
   replace H := Option.bind_eq_some_iff.mp H
   obtain ⟨t299, A120, H⟩ := H
   replace H : (some (decide (a1 < t299))) = some r := H
   have A12 := aM A120
   clear A120
   obtain rfl := Option.some.inj H
   go_enter Try.func25, Try.ntmps25
   go_wp2_with (first | ((with_reducible refine gate_dst (N := 2) rfl ?_); refine box_event ?hg (N := 2) ?hd (cs := #[.int .i64 a0_0, .int .i64 a0_1, .bool a0_2, .bool false, .int .i64 a0_4, .int .i64 a0_5]) (t := 23) ?hr ?_; (case hd => rfl); (case hg => rfl); (case hr => first | (go_simp; done) | (go_simp; rfl)); intro gb296 hg w13 hbox hb; have n0_ := aM (lT (by repeat (first | (with_reducible first | exact HB.out | apply lA | apply lN | apply lW) | exact HB.out)) hb); have n1_ := aM (hbox); have n2_ := aM ((by rw [hg]; exact (lZ (by repeat (first | (with_reducible first | exact HB.out | apply lA | apply lN | apply lW) | exact HB.out))) : w.heap.size ≤ gb296)); have n3_ := aM ((by rw [hg]; exact (lZ (by repeat (first | (with_reducible first | exact HB.out | apply lA | apply lN | apply lW) | exact HB.out))) : w.heap.size ≤ gb296)); clear HB; have HB := n0_; have BK296 := n1_; have GW296 := n2_; have GE296 := n3_; clear n0_ n1_ n2_ n3_; clear hb hbox hg; have hcz14_0 : w13.cell? ⟨gb296, 0, none⟩ = some (.int .i64 a0_0) := (bC BK296.out 0).trans rfl; have hcz14_1 : w13.cell? ⟨gb296, 1, none⟩ = some (.int .i64 a0_1) := (bC BK296.out 1).trans rfl; have hcz14_2 : w13.cell? ⟨gb296, 2, none⟩ = some (.bool a0_2) := (bC BK296.out 2).trans rfl; have hcz14_3 : w13.cell? ⟨gb296, 3, none⟩ = some (.bool false) := (bC BK296.out 3).trans rfl; have hcz14_4 : w13.cell? ⟨gb296, 4, none⟩ = some (.int .i64 a0_4) := (bC BK296.out 4).trans rfl; have hcz14_5 : w13.cell? ⟨gb296, 5, none⟩ = some (.int .i64 a0_5) := (bC BK296.out 5).trans rfl; have hfz14_0 := bF BK296.out 0; have hfz14_1 := bF BK296.out 1; have hfz14_2 := bF BK296.out 2; have hfz14_3 := bF BK296.out 3; have hfz14_4 := bF BK296.out 4; have hfz14_5 := bF BK296.out 5) | (go_at_call 30; (with_reducible refine (phaetonref15_power.calls k a0_1 t299 _ A12.out).mono ?_); rintro e w' ⟨rfl, ⟨nd, rfl⟩⟩))
   go_ret
   exact ⟨by first | rfl | (simp [errW_none, errW_some] <;> rfl) | (simp [*, errW_none, errW_some] <;> rfl), by repeat (first | (with_reducible first | exact HB.out | apply lA | apply lN | apply lW | refine lS ?_ GE296.out) | exact HB.out)⟩
  ·rw [if_neg c11] at H
   have c11b0 : decide (0 ≤ a1) = false := decide_eq_false c11
   clear c11
   obtain rfl := Option.some.inj H
   go_enter Try.func25, Try.ntmps25
   go_wp2_with (first | ((with_reducible refine gate_dst (N := 2) rfl ?_); refine box_event ?hg (N := 2) ?hd (cs := #[.int .i64 a0_0, .int .i64 a0_1, .bool a0_2, .bool false, .int .i64 a0_4, .int .i64 a0_5]) (t := 23) ?hr ?_; (case hd => rfl); (case hg => rfl); (case hr => first | (go_simp; done) | (go_simp; rfl)); intro gb296 hg w15 hbox hb; have n0_ := aM (lT (by repeat (first | (with_reducible first | exact HB.out | apply lA | apply lN | apply lW) | exact HB.out)) hb); have n1_ := aM (hbox); have n2_ := aM ((by rw [hg]; exact (lZ (by repeat (first | (with_reducible first | exact HB.out | apply lA | apply lN | apply lW) | exact HB.out))) : w.heap.size ≤ gb296)); have n3_ := aM ((by rw [hg]; exact (lZ (by repeat (first | (with_reducible first | exact HB.out | apply lA | apply lN | apply lW) | exact HB.out))) : w.heap.size ≤ gb296)); clear HB; have HB := n0_; have BK296 := n1_; have GW296 := n2_; have GE296 := n3_; clear n0_ n1_ n2_ n3_; clear hb hbox hg; have hcz16_0 : w15.cell? ⟨gb296, 0, none⟩ = some (.int .i64 a0_0) := (bC BK296.out 0).trans rfl; have hcz16_1 : w15.cell? ⟨gb296, 1, none⟩ = some (.int .i64 a0_1) := (bC BK296.out 1).trans rfl; have hcz16_2 : w15.cell? ⟨gb296, 2, none⟩ = some (.bool a0_2) := (bC BK296.out 2).trans rfl; have hcz16_3 : w15.cell? ⟨gb296, 3, none⟩ = some (.bool false) := (bC BK296.out 3).trans rfl; have hcz16_4 : w15.cell? ⟨gb296, 4, none⟩ = some (.int .i64 a0_4) := (bC BK296.out 4).trans rfl; have hcz16_5 : w15.cell? ⟨gb296, 5, none⟩ = some (.int .i64 a0_5) := (bC BK296.out 5).trans rfl; have hfz16_0 := bF BK296.out 0; have hfz16_1 := bF BK296.out 1; have hfz16_2 := bF BK296.out 2; have hfz16_3 := bF BK296.out 3; have hfz16_4 := bF BK296.out 4; have hfz16_5 := bF BK296.out 5))
   go_ret
   exact ⟨by first | rfl | (simp [errW_none, errW_some] <;> rfl) | (simp [*, errW_none, errW_some] <;> rfl), by repeat (first | (with_reducible first | exact HB.out | apply lA | apply lN | apply lW | refine lS ?_ GE296.out) | exact HB.out)⟩

end Go.Proofs.Ytcgkkjimonfhbaa.P

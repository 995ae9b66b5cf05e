/- Go functions that the laws of this seat reach, each as a Lean function, and a proof that a call of the Go code comes to its answers; written by a program (the kit's print, turned in a few places). Conditions: each theorem's own premises. -/
import Derived.Test.YtcgkkjimonfhbaaPx0
import Derived.Test.YtcgkkjimonfhbaaPx12
namespace Go.Proofs.Ytcgkkjimonfhbaa.P
open Go.RowKit Go.Proofs.YtcgkkjimonfhbaaW.PrintWords Go.Proofs.YtcgkkjimonfhbaaW.PrintLast Go.Proofs.YtcgkkjimonfhbaaW.PrintMore
attribute [local go_sem] max2_int min2_int max_two min_two max_three min_three max_four min_four   -- for this text's walks alone
set_option linter.unusedVariables false
set_option linter.unusedSimpArgs false

/-! ### phaetonref15_Right: function 17 -/
mutual
def phaetonref15_Right.j0 : Nat → Int → Bool → Int → Int → Bool → Bool → Int → Int → Option (Bool)
 | 0, _, _, _, _, _, _, _, _ => none
 | k + 1, x1, x32, x277000, x277001, x277002, x277003, x277004, x277005 => if x32 = true then (some false) else ((phaetonref15_all.f k x277000 x277001 x277002 x277003 x277004 x277005).bind fun t277 => (phaetonref15_Right.l0 k x1 t277 0 x277000 x277001 x277002 x277003 x277004 x277005))
def phaetonref15_Right.l0 : Nat → Int → List Int → Int → Int → Int → Bool → Bool → Int → Int → Option (Bool)
 | 0, _, _, _, _, _, _, _, _, _ => none
 | k + 1, x1, x5, x6, x277000, x277001, x277002, x277003, x277004, x277005 => if x6 < (x5.length : Int) then (if 0 ≤ x6 then (if (rd x5 x6) ≥ (wrap64 (8 * x1)) then (some false) else (phaetonref15_Right.l0 k x1 x5 (wrap64 (x6 + 1)) x277000 x277001 x277002 x277003 x277004 x277005)) else (none)) else (if x277004 = 0 then (some false) else (if x277004 ≥ (-1000000) then (if x277004 ≤ 1000000 then (if x277005 ≥ (-1000000000) then (some (decide (x277005 ≤ 1000000000))) else (some false)) else (some false)) else (some false)))
end
def phaetonref15_Right.f (k : Nat) (a0_0 : Int) (a0_1 : Int) (a0_2 : Bool) (a0_3 : Bool) (a0_4 : Int) (a0_5 : Int) (a1 : Int) : Option (Bool) := if a1 < 0 then (phaetonref15_Right.j0 k a1 true a0_0 a0_1 a0_2 a0_3 a0_4 a0_5) else (if a1 > 8 then (phaetonref15_Right.j0 k a1 true a0_0 a0_1 a0_2 a0_3 a0_4 a0_5) else (if a0_1 < 1 then (phaetonref15_Right.j0 k a1 true a0_0 a0_1 a0_2 a0_3 a0_4 a0_5) else (if a0_1 > 32 then (phaetonref15_Right.j0 k a1 true a0_0 a0_1 a0_2 a0_3 a0_4 a0_5) else (if a0_0 < 0 then (phaetonref15_Right.j0 k a1 true a0_0 a0_1 a0_2 a0_3 a0_4 a0_5) else (phaetonref15_Right.j0 k a1 (decide (a0_0 > 63)) a0_0 a0_1 a0_2 a0_3 a0_4 a0_5)))))
theorem phaetonref15_Right.mono_l : ∀ k, (∀ y0 y1 y2 y3 y4 y5 y6 y7, LeO (phaetonref15_Right.j0 k y0 y1 y2 y3 y4 y5 y6 y7) (phaetonref15_Right.j0 (k + 1) y0 y1 y2 y3 y4 y5 y6 y7)) ∧ (∀ y0 y1 y2 y3 y4 y5 y6 y7 y8, LeO (phaetonref15_Right.l0 k y0 y1 y2 y3 y4 y5 y6 y7 y8) (phaetonref15_Right.l0 (k + 1) y0 y1 y2 y3 y4 y5 y6 y7 y8))
 | 0 => ⟨fun _ _ _ _ _ _ _ _ r h => by simp [phaetonref15_Right.j0] at h, fun _ _ _ _ _ _ _ _ _ r h => by simp [phaetonref15_Right.l0] at h⟩
 | k + 1 => by
  obtain ⟨ih0, ih1⟩ := phaetonref15_Right.mono_l k
  refine ⟨?_, ?_⟩
  ·intro y0 y1 y2 y3 y4 y5 y6 y7
   unfold phaetonref15_Right.j0
   repeat' first
   | (with_reducible exact ih0 _ _ _ _ _ _ _ _)
   | (with_reducible exact ih1 _ _ _ _ _ _ _ _ _)
   | (with_reducible exact phaetonref15_all.mono _ _ _ _ _ _ _)
   | (with_reducible exact LeO.refl _)
   | (with_reducible exact LeO.none _)
   | (with_reducible refine LeO.ite ?_ ?_)
   | (with_reducible refine LeO.bind ?_ (fun _ => ?_))
   | exact ih0 _ _ _ _ _ _ _ _
   | exact ih1 _ _ _ _ _ _ _ _ _
   | exact phaetonref15_all.mono _ _ _ _ _ _ _
   | exact LeO.none _
   | refine LeO.ite ?_ ?_
   | refine LeO.bind ?_ (fun _ => ?_)
  ·intro y0 y1 y2 y3 y4 y5 y6 y7 y8
   unfold phaetonref15_Right.l0
   repeat' first
   | (with_reducible exact ih0 _ _ _ _ _ _ _ _)
   | (with_reducible exact ih1 _ _ _ _ _ _ _ _ _)
   | (with_reducible exact phaetonref15_all.mono _ _ _ _ _ _ _)
   | (with_reducible exact LeO.refl _)
   | (with_reducible exact LeO.none _)
   | (with_reducible refine LeO.ite ?_ ?_)
   | (with_reducible refine LeO.bind ?_ (fun _ => ?_))
   | exact ih0 _ _ _ _ _ _ _ _
   | exact ih1 _ _ _ _ _ _ _ _ _
   | exact phaetonref15_all.mono _ _ _ _ _ _ _
   | exact LeO.none _
   | refine LeO.ite ?_ ?_
   | refine LeO.bind ?_ (fun _ => ?_)
theorem phaetonref15_Right.mono : ∀ a0 a1 a2 a3 a4 a5 a6 k, LeO (phaetonref15_Right.f k a0 a1 a2 a3 a4 a5 a6) (phaetonref15_Right.f (k + 1) a0 a1 a2 a3 a4 a5 a6) := by
 intro a0 a1 a2 a3 a4 a5 a6 k
 obtain ⟨ih0, ih1⟩ := phaetonref15_Right.mono_l k
 unfold phaetonref15_Right.f
 repeat' first
   | (with_reducible exact ih0 _ _ _ _ _ _ _ _)
   | (with_reducible exact ih1 _ _ _ _ _ _ _ _ _)
   | (with_reducible exact phaetonref15_all.mono _ _ _ _ _ _ _)
   | (with_reducible exact LeO.refl _)
   | (with_reducible exact LeO.none _)
   | (with_reducible refine LeO.ite ?_ ?_)
   | (with_reducible refine LeO.bind ?_ (fun _ => ?_))
   | exact ih0 _ _ _ _ _ _ _ _
   | exact ih1 _ _ _ _ _ _ _ _ _
   | exact phaetonref15_all.mono _ _ _ _ _ _ _
   | exact LeO.none _
   | refine LeO.ite ?_ ?_
   | refine LeO.bind ?_ (fun _ => ?_)
set_option maxHeartbeats 8000000 in
set_option maxRecDepth 100000 in
theorem phaetonref15_Right.calls (k : Nat) (a0_0 : Int) (a0_1 : Int) (a0_2 : Bool) (a0_3 : Bool) (a0_4 : Int) (a0_5 : Int) (a1 : Int) (r : Bool) (w : World) (h : phaetonref15_Right.f k a0_0 a0_1 a0_2 a0_3 a0_4 a0_5 a1 = some r) :
  Calls Try.prog 17 #[.agg #[.int .i64 a0_0, .int .i64 a0_1, .bool a0_2, .bool a0_3, .int .i64 a0_4, .int .i64 a0_5], .int .i64 a1] w fun e w' => e = .returned (.bool r) ∧ Below w.heap.size w w' := by
 have hu23 := Try.underlying23
 have HB := aM (Below.refl w.heap.size w)
 have H : (if a1 < 0 then (phaetonref15_Right.j0 k a1 true a0_0 a0_1 a0_2 a0_3 a0_4 a0_5) else (if a1 > 8 then (phaetonref15_Right.j0 k a1 true a0_0 a0_1 a0_2 a0_3 a0_4 a0_5) else (if a0_1 < 1 then (phaetonref15_Right.j0 k a1 true a0_0 a0_1 a0_2 a0_3 a0_4 a0_5) else (if a0_1 > 32 then (phaetonref15_Right.j0 k a1 true a0_0 a0_1 a0_2 a0_3 a0_4 a0_5) else (if a0_0 < 0 then (phaetonref15_Right.j0 k a1 true a0_0 a0_1 a0_2 a0_3 a0_4 a0_5) else (phaetonref15_Right.j0 k a1 (decide (a0_0 > 63)) a0_0 a0_1 a0_2 a0_3 a0_4 a0_5)))))) = some r := h
 clear h
 have HC3 := aM H
 clear H
 go_enter Try.func17, Try.ntmps17
 go_upto_region 1 with (first | ((with_reducible refine gate_dst (N := 2) rfl ?_); refine box_event ?hg (N := 2) ?hd (cs := #[.int .i64 a0_0, .int .i64 a0_1, .bool a0_2, .bool a0_3, .int .i64 a0_4, .int .i64 a0_5]) (t := 23) ?hr ?_; (case hd => rfl); (case hg => rfl); (case hr => first | (go_simp; done) | (go_simp; rfl)); intro gb276 hg w4 hbox hb; have n0_ := aM (lT (by repeat (first | (with_reducible first | exact HB.out | apply lA | apply lN | apply lW) | exact HB.out)) hb); have n1_ := aM (hbox); have n2_ := aM ((by rw [hg]; exact (lZ (by repeat (first | (with_reducible first | exact HB.out | apply lA | apply lN | apply lW) | exact HB.out))) : w.heap.size ≤ gb276)); have n3_ := aM ((by rw [hg]; exact (lZ (by repeat (first | (with_reducible first | exact HB.out | apply lA | apply lN | apply lW) | exact HB.out))) : w.heap.size ≤ gb276)); clear HB; have HB := n0_; have BK276 := n1_; have GW276 := n2_; have GE276 := n3_; clear n0_ n1_ n2_ n3_; clear hb hbox hg))
 (try simp only [Act.put, sT, sZ, sS])
 go_cut [32] (fun v32 wc => ∃ (kq : Nat) (x32_2 : Bool), v32 = .bool x32_2 ∧ Aside0 (phaetonref15_Right.j0 kq a1 x32_2 a0_0 a0_1 a0_2 a0_3 a0_4 a0_5 = some r) ∧ Aside0 (kq ≤ k) ∧ Aside0 (wc.heap[gb276]? = some (.cells #[.int .i64 a0_0, .int .i64 a0_1, .bool a0_2, .bool a0_3, .int .i64 a0_4, .int .i64 a0_5] 23 (0, 0))) ∧ Aside0 (Below w.heap.size w wc))
 case first =>
  have H := HC3.out
  clear HC3
  by_cases c5 : a1 < 0
  ·rw [if_pos c5] at H
   have c5b0 : decide (a1 < 0) = true := decide_eq_true c5
   clear c5
   (first | rw [c5b0] | (simp only [i64_w, i32_w]; rw [c5b0]) | skip)
   have H' := aM H
   clear H
   go_wp2
   go_meet
   case rel => exact ⟨_, (true), (by first | rfl | (simp; done) | (simp [*]; done)), H', ⟨by first | omega | exact Nat.le_refl _⟩, ⟨by (with_reducible repeat (first | refine bN ?_ _ | refine bW ?_ | refine bA ?_ _)); exact BK276.out⟩, ⟨by repeat (first | (with_reducible first | exact HB.out | apply lA | apply lN | apply lW | refine lS ?_ GE276.out) | exact HB.out)⟩⟩
  ·rw [if_neg c5] at H
   have c5b0 : decide (a1 < 0) = false := decide_eq_false c5
   clear c5
   (first | rw [c5b0] | (simp only [i64_w, i32_w]; rw [c5b0]) | skip)
   by_cases c6 : a1 > 8
   ·rw [if_pos c6] at H
    have c6b0 : decide (8 < a1) = true := decide_eq_true c6
    clear c6
    have H' := aM H
    clear H
    go_wp2
    go_meet
    case rel => exact ⟨_, (true), (by first | rfl | (simp; done) | (simp [*]; done)), H', ⟨by first | omega | exact Nat.le_refl _⟩, ⟨by (with_reducible repeat (first | refine bN ?_ _ | refine bW ?_ | refine bA ?_ _)); exact BK276.out⟩, ⟨by repeat (first | (with_reducible first | exact HB.out | apply lA | apply lN | apply lW | refine lS ?_ GE276.out) | exact HB.out)⟩⟩
   ·rw [if_neg c6] at H
    have c6b0 : decide (8 < a1) = false := decide_eq_false c6
    clear c6
    by_cases c7 : a0_1 < 1
    ·rw [if_pos c7] at H
     have c7b0 : decide (a0_1 < 1) = true := decide_eq_true c7
     clear c7
     have H' := aM H
     clear H
     have hcz8_0 : w4.cell? ⟨gb276, 0, none⟩ = some (.int .i64 a0_0) := (bC BK276.out 0).trans rfl
     have hcz8_1 : w4.cell? ⟨gb276, 1, none⟩ = some (.int .i64 a0_1) := (bC BK276.out 1).trans rfl
     have hcz8_2 : w4.cell? ⟨gb276, 2, none⟩ = some (.bool a0_2) := (bC BK276.out 2).trans rfl
     have hcz8_3 : w4.cell? ⟨gb276, 3, none⟩ = some (.bool a0_3) := (bC BK276.out 3).trans rfl
     have hcz8_4 : w4.cell? ⟨gb276, 4, none⟩ = some (.int .i64 a0_4) := (bC BK276.out 4).trans rfl
     have hcz8_5 : w4.cell? ⟨gb276, 5, none⟩ = some (.int .i64 a0_5) := (bC BK276.out 5).trans rfl
     have hfz8_0 := bF BK276.out 0
     have hfz8_1 := bF BK276.out 1
     have hfz8_2 := bF BK276.out 2
     have hfz8_3 := bF BK276.out 3
     have hfz8_4 := bF BK276.out 4
     have hfz8_5 := bF BK276.out 5
     go_wp2
     go_meet
     case rel => exact ⟨_, (true), (by first | rfl | (simp; done) | (simp [*]; done)), H', ⟨by first | omega | exact Nat.le_refl _⟩, ⟨by (with_reducible repeat (first | refine bN ?_ _ | refine bW ?_ | refine bA ?_ _)); exact BK276.out⟩, ⟨by repeat (first | (with_reducible first | exact HB.out | apply lA | apply lN | apply lW | refine lS ?_ GE276.out) | exact HB.out)⟩⟩
    ·rw [if_neg c7] at H
     have c7b0 : decide (a0_1 < 1) = false := decide_eq_false c7
     clear c7
     by_cases c9 : a0_1 > 32
     ·rw [if_pos c9] at H
      have c9b0 : decide (32 < a0_1) = true := decide_eq_true c9
      clear c9
      have H' := aM H
      clear H
      have hcz10_0 : w4.cell? ⟨gb276, 0, none⟩ = some (.int .i64 a0_0) := (bC BK276.out 0).trans rfl
      have hcz10_1 : w4.cell? ⟨gb276, 1, none⟩ = some (.int .i64 a0_1) := (bC BK276.out 1).trans rfl
      have hcz10_2 : w4.cell? ⟨gb276, 2, none⟩ = some (.bool a0_2) := (bC BK276.out 2).trans rfl
      have hcz10_3 : w4.cell? ⟨gb276, 3, none⟩ = some (.bool a0_3) := (bC BK276.out 3).trans rfl
      have hcz10_4 : w4.cell? ⟨gb276, 4, none⟩ = some (.int .i64 a0_4) := (bC BK276.out 4).trans rfl
      have hcz10_5 : w4.cell? ⟨gb276, 5, none⟩ = some (.int .i64 a0_5) := (bC BK276.out 5).trans rfl
      have hfz10_0 := bF BK276.out 0
      have hfz10_1 := bF BK276.out 1
      have hfz10_2 := bF BK276.out 2
      have hfz10_3 := bF BK276.out 3
      have hfz10_4 := bF BK276.out 4
      have hfz10_5 := bF BK276.out 5
      go_wp2
      go_meet
      case rel => exact ⟨_, (true), (by first | rfl | (simp; done) | (simp [*]; done)), H', ⟨by first | omega | exact Nat.le_refl _⟩, ⟨by (with_reducible repeat (first | refine bN ?_ _ | refine bW ?_ | refine bA ?_ _)); exact BK276.out⟩, ⟨by repeat (first | (with_reducible first | exact HB.out | apply lA | apply lN | apply lW | refine lS ?_ GE276.out) | exact HB.out)⟩⟩
     ·rw [if_neg c9] at H
      have c9b0 : decide (32 < a0_1) = false := decide_eq_false c9
      clear c9
      by_cases c11 : a0_0 < 0
      ·rw [if_pos c11] at H
       have c11b0 : decide (a0_0 < 0) = true := decide_eq_true c11
       clear c11
       have H' := aM H
       clear H
       have hcz12_0 : w4.cell? ⟨gb276, 0, none⟩ = some (.int .i64 a0_0) := (bC BK276.out 0).trans rfl
       have hcz12_1 : w4.cell? ⟨gb276, 1, none⟩ = some (.int .i64 a0_1) := (bC BK276.out 1).trans rfl
       have hcz12_2 : w4.cell? ⟨gb276, 2, none⟩ = some (.bool a0_2) := (bC BK276.out 2).trans rfl
       have hcz12_3 : w4.cell? ⟨gb276, 3, none⟩ = some (.bool a0_3) := (bC BK276.out 3).trans rfl
       have hcz12_4 : w4.cell? ⟨gb276, 4, none⟩ = some (.int .i64 a0_4) := (bC BK276.out 4).trans rfl
       have hcz12_5 : w4.cell? ⟨gb276, 5, none⟩ = some (.int .i64 a0_5) := (bC BK276.out 5).trans rfl
       have hfz12_0 := bF BK276.out 0
       have hfz12_1 := bF BK276.out 1
       have hfz12_2 := bF BK276.out 2
       have hfz12_3 := bF BK276.out 3
       have hfz12_4 := bF BK276.out 4
       have hfz12_5 := bF BK276.out 5
       go_wp2
       go_meet
       case rel => exact ⟨_, (true), (by first | rfl | (simp; done) | (simp [*]; done)), H', ⟨by first | omega | exact Nat.le_refl _⟩, ⟨by (with_reducible repeat (first | refine bN ?_ _ | refine bW ?_ | refine bA ?_ _)); exact BK276.out⟩, ⟨by repeat (first | (with_reducible first | exact HB.out | apply lA | apply lN | apply lW | refine lS ?_ GE276.out) | exact HB.out)⟩⟩
      ·rw [if_neg c11] at H
       have c11b0 : decide (a0_0 < 0) = false := decide_eq_false c11
       clear c11
       have H' := aM H
       clear H
       have hcz13_0 : w4.cell? ⟨gb276, 0, none⟩ = some (.int .i64 a0_0) := (bC BK276.out 0).trans rfl
       have hcz13_1 : w4.cell? ⟨gb276, 1, none⟩ = some (.int .i64 a0_1) := (bC BK276.out 1).trans rfl
       have hcz13_2 : w4.cell? ⟨gb276, 2, none⟩ = some (.bool a0_2) := (bC BK276.out 2).trans rfl
       have hcz13_3 : w4.cell? ⟨gb276, 3, none⟩ = some (.bool a0_3) := (bC BK276.out 3).trans rfl
       have hcz13_4 : w4.cell? ⟨gb276, 4, none⟩ = some (.int .i64 a0_4) := (bC BK276.out 4).trans rfl
       have hcz13_5 : w4.cell? ⟨gb276, 5, none⟩ = some (.int .i64 a0_5) := (bC BK276.out 5).trans rfl
       have hfz13_0 := bF BK276.out 0
       have hfz13_1 := bF BK276.out 1
       have hfz13_2 := bF BK276.out 2
       have hfz13_3 := bF BK276.out 3
       have hfz13_4 := bF BK276.out 4
       have hfz13_5 := bF BK276.out 5
       go_wp2
       go_meet
       case rel => exact ⟨_, (decide (a0_0 > 63)), (by first | rfl | (simp; done) | (simp [*]; done)), H', ⟨by first | omega | exact Nat.le_refl _⟩, ⟨by (with_reducible repeat (first | refine bN ?_ _ | refine bW ?_ | refine bA ?_ _)); exact BK276.out⟩, ⟨by repeat (first | (with_reducible first | exact HB.out | apply lA | apply lN | apply lW | refine lS ?_ GE276.out) | exact HB.out)⟩⟩
 case rest =>
  clear HC3
  try clear c1
  try clear p2
  try clear c5
  try clear c5b0
  try clear c6
  try clear c6b0
  try clear c7
  try clear c7b0
  try clear c9
  try clear c9b0
  try clear c11
  try clear c11b0
  try clear hcz10_0
  try clear hcz10_1
  try clear hcz10_2
  try clear hcz10_3
  try clear hcz10_4
  try clear hcz10_5
  try clear hcz12_0
  try clear hcz12_1
  try clear hcz12_2
  try clear hcz12_3
  try clear hcz12_4
  try clear hcz12_5
  try clear hcz13_0
  try clear hcz13_1
  try clear hcz13_2
  try clear hcz13_3
  try clear hcz13_4
  try clear hcz13_5
  try clear hcz8_0
  try clear hcz8_1
  try clear hcz8_2
  try clear hcz8_3
  try clear hcz8_4
  try clear hcz8_5
  try clear hfz10_0
  try clear hfz10_1
  try clear hfz10_2
  try clear hfz10_3
  try clear hfz10_4
  try clear hfz10_5
  try clear hfz12_0
  try clear hfz12_1
  try clear hfz12_2
  try clear hfz12_3
  try clear hfz12_4
  try clear hfz12_5
  try clear hfz13_0
  try clear hfz13_1
  try clear hfz13_2
  try clear hfz13_3
  try clear hfz13_4
  try clear hfz13_5
  try clear hfz8_0
  try clear hfz8_1
  try clear hfz8_2
  try clear hfz8_3
  try clear hfz8_4
  try clear hfz8_5
  obtain ⟨kq, x32_2, rfl, HA, HJ2, BK276, HB⟩ := hcut
  cases kq with
  | zero => exact absurd HA.out (by simp [phaetonref15_Right.j0])
  | succ kj2 =>
   have H := HA.out
   clear HA
   simp only [phaetonref15_Right.j0] at H
   by_cases c14 : x32_2 = true
   ·subst c14
    have H1 : (some false) = some r := by rw [if_pos rfl] at H; exact H
    clear H
    have H := H1
    clear H1
    obtain rfl := Option.some.inj H
    go_wp2
    go_ret
    exact ⟨by first | rfl | (simp [errW_none, errW_some] <;> rfl) | (simp [*, errW_none, errW_some] <;> rfl), by repeat (first | (with_reducible first | exact HB.out | apply lA | apply lN | apply lW | refine lS ?_ GE276.out) | exact HB.out)⟩
   ·replace c14 := Bool.eq_false_iff.mpr c14
    subst c14
    have H1 : ((phaetonref15_all.f kj2 a0_0 a0_1 a0_2 a0_3 a0_4 a0_5).bind fun t277 => (phaetonref15_Right.l0 kj2 a1 t277 0 a0_0 a0_1 a0_2 a0_3 a0_4 a0_5)) = some r := by rw [if_neg (show ¬ (false = true) by decide)] at H; exact H
    clear H
    have H := H1
    clear H1
    replace H := Option.bind_eq_some_iff.mp H
    obtain ⟨t277, A150, H⟩ := H
    replace H : (phaetonref15_Right.l0 kj2 a1 t277 0 a0_0 a0_1 a0_2 a0_3 a0_4 a0_5) = some r := H
    have A15 := aM A150
    clear A150
    have H' := aM H
    clear H
    have hcz16_0 : wc.cell? ⟨gb276, 0, none⟩ = some (.int .i64 a0_0) := (bC BK276.out 0).trans rfl
    have hcz16_1 : wc.cell? ⟨gb276, 1, none⟩ = some (.int .i64 a0_1) := (bC BK276.out 1).trans rfl
    have hcz16_2 : wc.cell? ⟨gb276, 2, none⟩ = some (.bool a0_2) := (bC BK276.out 2).trans rfl
    have hcz16_3 : wc.cell? ⟨gb276, 3, none⟩ = some (.bool a0_3) := (bC BK276.out 3).trans rfl
    have hcz16_4 : wc.cell? ⟨gb276, 4, none⟩ = some (.int .i64 a0_4) := (bC BK276.out 4).trans rfl
    have hcz16_5 : wc.cell? ⟨gb276, 5, none⟩ = some (.int .i64 a0_5) := (bC BK276.out 5).trans rfl
    have hfz16_0 := bF BK276.out 0
    have hfz16_1 := bF BK276.out 1
    have hfz16_2 := bF BK276.out 2
    have hfz16_3 := bF BK276.out 3
    have hfz16_4 := bF BK276.out 4
    have hfz16_5 := bF BK276.out 5
    go_wp2_with (first | ((with_reducible refine gate_callee (f := 35) rfl ?_); refine goesL_ (some 34) rfl rfl Try.func35 (by kernel_rfl) rfl #[.agg #[.int .i64 a0_0, .int .i64 a0_1, .bool a0_2, .bool a0_3, .int .i64 a0_4, .int .i64 a0_5]] rfl (by (try simp only [List.map_toArray, List.map_cons, List.map_nil]); first | done | rfl | (simp only [List.length_drop, List.length_take]; rfl)) ?_; (with_reducible refine (phaetonref15_all.calls kj2 a0_0 a0_1 a0_2 a0_3 a0_4 a0_5 t277 _ A15.out).mono ?_); rintro e w17 ⟨v278, rfl, ho0, hb⟩; refine ⟨_, rfl, ?_⟩; have n0_ := aM (Kd.R_lower ho0 (lZ (by repeat (first | (with_reducible first | exact HB.out | apply lA | apply lN | apply lW | refine lS ?_ GE276.out) | exact HB.out)))); have n1_ := aM (blk_below (g := gb276) (o := .cells #[.int .i64 a0_0, .int .i64 a0_1, .bool a0_2, .bool a0_3, .int .i64 a0_4, .int .i64 a0_5] 23 (0, 0)) (by (with_reducible repeat (first | refine bN ?_ _ | refine bW ?_ | refine bA ?_ _)); exact BK276.out) hb); have n2_ := aM (lT (by repeat (first | (with_reducible first | exact HB.out | apply lA | apply lN | apply lW | refine lS ?_ GE276.out) | exact HB.out)) hb); clear BK276; clear HB; have HO279 := n0_; have BK276 := n1_; have HB := n2_; clear n0_ n1_ n2_; (try clear hb); (try clear hb2); (try clear hk); (try clear hi); (try clear ho0)))
    go_loopg [6] kj2 (fun kq v6 w' => ∃ (x6_2 : Int), v6 = .int .i64 x6_2 ∧ Aside0 (phaetonref15_Right.l0 kq a1 t277 x6_2 a0_0 a0_1 a0_2 a0_3 a0_4 a0_5 = some r) ∧ Aside0 (kq ≤ kj2) ∧ Aside0 (Kd.R (Kd.int .i64) 3 w' w.heap.size (fun _ => True) v278 t277) ∧ Aside0 (w'.heap[gb276]? = some (.cells #[.int .i64 a0_0, .int .i64 a0_1, .bool a0_2, .bool a0_3, .int .i64 a0_4, .int .i64 a0_5] 23 (0, 0))) ∧ Aside0 (Below w.heap.size w w'))
    case atStart => exact ⟨(0), (by first | rfl | (simp; done) | (simp [*]; done)), H', ⟨Nat.le_refl _⟩, ⟨by (with_reducible repeat (first | apply rA | apply rN | apply rW)); exact HO279.out⟩, ⟨by (with_reducible repeat (first | refine bN ?_ _ | refine bW ?_ | refine bA ?_ _)); exact BK276.out⟩, ⟨by repeat (first | (with_reducible first | exact HB.out | apply lA | apply lN | apply lW | refine lS ?_ GE276.out) | exact HB.out)⟩⟩
    case round =>
     clear H'
     try clear c1
     try clear p2
     try clear c3
     try clear c5
     try clear c5b0
     try clear c6
     try clear c6b0
     try clear c7
     try clear c7b0
     try clear c9
     try clear c9b0
     try clear c11
     try clear c11b0
     try clear c14
     try clear c17
     try clear hcz10_0
     try clear hcz10_1
     try clear hcz10_2
     try clear hcz10_3
     try clear hcz10_4
     try clear hcz10_5
     try clear hcz12_0
     try clear hcz12_1
     try clear hcz12_2
     try clear hcz12_3
     try clear hcz12_4
     try clear hcz12_5
     try clear hcz13_0
     try clear hcz13_1
     try clear hcz13_2
     try clear hcz13_3
     try clear hcz13_4
     try clear hcz13_5
     try clear hcz16_0
     try clear hcz16_1
     try clear hcz16_2
     try clear hcz16_3
     try clear hcz16_4
     try clear hcz16_5
     try clear hcz8_0
     try clear hcz8_1
     try clear hcz8_2
     try clear hcz8_3
     try clear hcz8_4
     try clear hcz8_5
     try clear hfz10_0
     try clear hfz10_1
     try clear hfz10_2
     try clear hfz10_3
     try clear hfz10_4
     try clear hfz10_5
     try clear hfz12_0
     try clear hfz12_1
     try clear hfz12_2
     try clear hfz12_3
     try clear hfz12_4
     try clear hfz12_5
     try clear hfz13_0
     try clear hfz13_1
     try clear hfz13_2
     try clear hfz13_3
     try clear hfz13_4
     try clear hfz13_5
     try clear hfz16_0
     try clear hfz16_1
     try clear hfz16_2
     try clear hfz16_3
     try clear hfz16_4
     try clear hfz16_5
     try clear hfz8_0
     try clear hfz8_1
     try clear hfz8_2
     try clear hfz8_3
     try clear hfz8_4
     try clear hfz8_5
     try clear p2
     obtain ⟨x6_2, rfl, HA, HK2, HO_5, BK276, HB⟩ := hrel
     cases gk with
     | zero => exact absurd HA.out (by simp [phaetonref15_Right.l0])
     | succ k2 =>
      have H := HA.out
      clear HA
      simp only [phaetonref15_Right.l0] at H
      by_cases c18 : x6_2 < (t277.length : Int)
      ·rw [if_pos c18] at H
       have c18b0 : decide (x6_2 < (t277.length : Int)) = true := decide_eq_true c18
       clear c18
       by_cases c19 : 0 ≤ x6_2
       ·rw [if_pos c19] at H
        have c19b0 : decide (0 ≤ x6_2) = true := decide_eq_true c19
        clear c19
        by_cases c20 : (rd t277 x6_2) ≥ (wrap64 (8 * a1))
        ·rw [if_pos c20] at H
         have c20b0 : decide ((wrap64 (8 * a1)) ≤ (rd t277 x6_2)) = true := decide_eq_true c20
         clear c20
         obtain rfl := Option.some.inj H
         obtain ⟨Ao21, co21, eo21⟩ := Kd.R_slice HO_5.out
         subst eo21
         have p280 : 0 ≤ (x6_2 : Int) := oD (by first | (with_reducible assumption) | assumption)
         have q280 : x6_2 < (t277.length : Int) := oD (by first | (with_reducible assumption) | assumption)
         obtain ⟨ad280, e280, hx280_0⟩ := Kd.at_int (Kd.R_reads' HO_5.out).2.2 x6_2 p280 q280
         cases e280
         replace p280 := eq_true p280
         replace q280 := eq_true q280
         go_wp2
         go_ret
         exact ⟨by first | rfl | (simp [errW_none, errW_some] <;> rfl) | (simp [*, errW_none, errW_some] <;> rfl), by repeat (first | (with_reducible first | exact HB.out | apply lA | apply lN | apply lW | refine lS ?_ GE276.out) | exact HB.out)⟩
        ·rw [if_neg c20] at H
         have c20b0 : decide ((wrap64 (8 * a1)) ≤ (rd t277 x6_2)) = false := decide_eq_false c20
         clear c20
         have H' := aM H
         clear H
         obtain ⟨Ao22, co22, eo22⟩ := Kd.R_slice HO_5.out
         subst eo22
         have p280 : 0 ≤ (x6_2 : Int) := oD (by first | (with_reducible assumption) | assumption)
         have q280 : x6_2 < (t277.length : Int) := oD (by first | (with_reducible assumption) | assumption)
         obtain ⟨ad280, e280, hx280_0⟩ := Kd.at_int (Kd.R_reads' HO_5.out).2.2 x6_2 p280 q280
         cases e280
         replace p280 := eq_true p280
         replace q280 := eq_true q280
         go_wp2
         go_roundg k2
         case measure => have := HJ2.out; have := HK2.out; omega
         case rel => exact ⟨(wrap64 (x6_2 + 1)), (by first | rfl | (simp; done) | (simp [*]; done)), H', ⟨by have := HJ2.out; have := HK2.out; omega⟩, ⟨by (with_reducible repeat (first | apply rA | apply rN | apply rW)); exact HO_5.out⟩, ⟨by (with_reducible repeat (first | refine bN ?_ _ | refine bW ?_ | refine bA ?_ _)); exact BK276.out⟩, ⟨by repeat (first | (with_reducible first | exact HB.out | apply lA | apply lN | apply lW | refine lS ?_ GE276.out) | exact HB.out)⟩⟩
       ·rw [if_neg c19] at H
        exact absurd H (by simp)
      ·rw [if_neg c18] at H
       have c18b0 : decide (x6_2 < (t277.length : Int)) = false := decide_eq_false c18
       clear c18
       by_cases c23 : a0_4 = 0
       ·rw [if_pos c23] at H
        have c23b0 : (a0_4 == 0) = true := beq_iff_eq.mpr c23
        have c23b1 : (a0_4 != 0) = false := bne_eq_false_iff_eq.mpr c23
        clear c23
        obtain rfl := Option.some.inj H
        obtain ⟨Ao24, co24, eo24⟩ := Kd.R_slice HO_5.out
        subst eo24
        have hcz25_0 : wr.cell? ⟨gb276, 0, none⟩ = some (.int .i64 a0_0) := (bC BK276.out 0).trans rfl
        have hcz25_1 : wr.cell? ⟨gb276, 1, none⟩ = some (.int .i64 a0_1) := (bC BK276.out 1).trans rfl
        have hcz25_2 : wr.cell? ⟨gb276, 2, none⟩ = some (.bool a0_2) := (bC BK276.out 2).trans rfl
        have hcz25_3 : wr.cell? ⟨gb276, 3, none⟩ = some (.bool a0_3) := (bC BK276.out 3).trans rfl
        have hcz25_4 : wr.cell? ⟨gb276, 4, none⟩ = some (.int .i64 a0_4) := (bC BK276.out 4).trans rfl
        have hcz25_5 : wr.cell? ⟨gb276, 5, none⟩ = some (.int .i64 a0_5) := (bC BK276.out 5).trans rfl
        have hfz25_0 := bF BK276.out 0
        have hfz25_1 := bF BK276.out 1
        have hfz25_2 := bF BK276.out 2
        have hfz25_3 := bF BK276.out 3
        have hfz25_4 := bF BK276.out 4
        have hfz25_5 := bF BK276.out 5
        go_wp2
        go_ret
        exact ⟨by first | rfl | (simp [errW_none, errW_some] <;> rfl) | (simp [*, errW_none, errW_some] <;> rfl), by repeat (first | (with_reducible first | exact HB.out | apply lA | apply lN | apply lW | refine lS ?_ GE276.out) | exact HB.out)⟩
       ·rw [if_neg c23] at H
        have c23b0 : (a0_4 == 0) = false := nF c23
        have c23b1 : (a0_4 != 0) = true := nT c23
        by_cases c26 : a0_4 ≥ (-1000000)
        ·rw [if_pos c26] at H
         have c26b0 : decide ((-1000000) ≤ a0_4) = true := decide_eq_true c26
         clear c26
         by_cases c27 : a0_4 ≤ 1000000
         ·rw [if_pos c27] at H
          have c27b0 : decide (a0_4 ≤ 1000000) = true := decide_eq_true c27
          clear c27
          by_cases c28 : a0_5 ≥ (-1000000000)
          ·rw [if_pos c28] at H
           have c28b0 : decide ((-1000000000) ≤ a0_5) = true := decide_eq_true c28
           clear c28
           obtain rfl := Option.some.inj H
           obtain ⟨Ao29, co29, eo29⟩ := Kd.R_slice HO_5.out
           subst eo29
           have hcz30_0 : wr.cell? ⟨gb276, 0, none⟩ = some (.int .i64 a0_0) := (bC BK276.out 0).trans rfl
           have hcz30_1 : wr.cell? ⟨gb276, 1, none⟩ = some (.int .i64 a0_1) := (bC BK276.out 1).trans rfl
           have hcz30_2 : wr.cell? ⟨gb276, 2, none⟩ = some (.bool a0_2) := (bC BK276.out 2).trans rfl
           have hcz30_3 : wr.cell? ⟨gb276, 3, none⟩ = some (.bool a0_3) := (bC BK276.out 3).trans rfl
           have hcz30_4 : wr.cell? ⟨gb276, 4, none⟩ = some (.int .i64 a0_4) := (bC BK276.out 4).trans rfl
           have hcz30_5 : wr.cell? ⟨gb276, 5, none⟩ = some (.int .i64 a0_5) := (bC BK276.out 5).trans rfl
           have hfz30_0 := bF BK276.out 0
           have hfz30_1 := bF BK276.out 1
           have hfz30_2 := bF BK276.out 2
           have hfz30_3 := bF BK276.out 3
           have hfz30_4 := bF BK276.out 4
           have hfz30_5 := bF BK276.out 5
           go_wp2
           go_ret
           exact ⟨by first | rfl | (simp [errW_none, errW_some] <;> rfl) | (simp [*, errW_none, errW_some] <;> rfl), by repeat (first | (with_reducible first | exact HB.out | apply lA | apply lN | apply lW | refine lS ?_ GE276.out) | exact HB.out)⟩
          ·rw [if_neg c28] at H
           have c28b0 : decide ((-1000000000) ≤ a0_5) = false := decide_eq_false c28
           clear c28
           obtain rfl := Option.some.inj H
           obtain ⟨Ao31, co31, eo31⟩ := Kd.R_slice HO_5.out
           subst eo31
           have hcz32_0 : wr.cell? ⟨gb276, 0, none⟩ = some (.int .i64 a0_0) := (bC BK276.out 0).trans rfl
           have hcz32_1 : wr.cell? ⟨gb276, 1, none⟩ = some (.int .i64 a0_1) := (bC BK276.out 1).trans rfl
           have hcz32_2 : wr.cell? ⟨gb276, 2, none⟩ = some (.bool a0_2) := (bC BK276.out 2).trans rfl
           have hcz32_3 : wr.cell? ⟨gb276, 3, none⟩ = some (.bool a0_3) := (bC BK276.out 3).trans rfl
           have hcz32_4 : wr.cell? ⟨gb276, 4, none⟩ = some (.int .i64 a0_4) := (bC BK276.out 4).trans rfl
           have hcz32_5 : wr.cell? ⟨gb276, 5, none⟩ = some (.int .i64 a0_5) := (bC BK276.out 5).trans rfl
           have hfz32_0 := bF BK276.out 0
           have hfz32_1 := bF BK276.out 1
           have hfz32_2 := bF BK276.out 2
           have hfz32_3 := bF BK276.out 3
           have hfz32_4 := bF BK276.out 4
           have hfz32_5 := bF BK276.out 5
           go_wp2
           go_ret
           exact ⟨by first | rfl | (simp [errW_none, errW_some] <;> rfl) | (simp [*, errW_none, errW_some] <;> rfl), by repeat (first | (with_reducible first | exact HB.out | apply lA | apply lN | apply lW | refine lS ?_ GE276.out) | exact HB.out)⟩
         ·rw [if_neg c27] at H
          have c27b0 : decide (a0_4 ≤ 1000000) = false := decide_eq_false c27
          clear c27
          obtain rfl := Option.some.inj H
          obtain ⟨Ao33, co33, eo33⟩ := Kd.R_slice HO_5.out
          subst eo33
          have hcz34_0 : wr.cell? ⟨gb276, 0, none⟩ = some (.int .i64 a0_0) := (bC BK276.out 0).trans rfl
          have hcz34_1 : wr.cell? ⟨gb276, 1, none⟩ = some (.int .i64 a0_1) := (bC BK276.out 1).trans rfl
          have hcz34_2 : wr.cell? ⟨gb276, 2, none⟩ = some (.bool a0_2) := (bC BK276.out 2).trans rfl
          have hcz34_3 : wr.cell? ⟨gb276, 3, none⟩ = some (.bool a0_3) := (bC BK276.out 3).trans rfl
          have hcz34_4 : wr.cell? ⟨gb276, 4, none⟩ = some (.int .i64 a0_4) := (bC BK276.out 4).trans rfl
          have hcz34_5 : wr.cell? ⟨gb276, 5, none⟩ = some (.int .i64 a0_5) := (bC BK276.out 5).trans rfl
          have hfz34_0 := bF BK276.out 0
          have hfz34_1 := bF BK276.out 1
          have hfz34_2 := bF BK276.out 2
          have hfz34_3 := bF BK276.out 3
          have hfz34_4 := bF BK276.out 4
          have hfz34_5 := bF BK276.out 5
          go_wp2
          go_ret
          exact ⟨by first | rfl | (simp [errW_none, errW_some] <;> rfl) | (simp [*, errW_none, errW_some] <;> rfl), by repeat (first | (with_reducible first | exact HB.out | apply lA | apply lN | apply lW | refine lS ?_ GE276.out) | exact HB.out)⟩
        ·rw [if_neg c26] at H
         have c26b0 : decide ((-1000000) ≤ a0_4) = false := decide_eq_false c26
         clear c26
         obtain rfl := Option.some.inj H
         obtain ⟨Ao35, co35, eo35⟩ := Kd.R_slice HO_5.out
         subst eo35
         have hcz36_0 : wr.cell? ⟨gb276, 0, none⟩ = some (.int .i64 a0_0) := (bC BK276.out 0).trans rfl
         have hcz36_1 : wr.cell? ⟨gb276, 1, none⟩ = some (.int .i64 a0_1) := (bC BK276.out 1).trans rfl
         have hcz36_2 : wr.cell? ⟨gb276, 2, none⟩ = some (.bool a0_2) := (bC BK276.out 2).trans rfl
         have hcz36_3 : wr.cell? ⟨gb276, 3, none⟩ = some (.bool a0_3) := (bC BK276.out 3).trans rfl
         have hcz36_4 : wr.cell? ⟨gb276, 4, none⟩ = some (.int .i64 a0_4) := (bC BK276.out 4).trans rfl
         have hcz36_5 : wr.cell? ⟨gb276, 5, none⟩ = some (.int .i64 a0_5) := (bC BK276.out 5).trans rfl
         have hfz36_0 := bF BK276.out 0
         have hfz36_1 := bF BK276.out 1
         have hfz36_2 := bF BK276.out 2
         have hfz36_3 := bF BK276.out 3
         have hfz36_4 := bF BK276.out 4
         have hfz36_5 := bF BK276.out 5
         go_wp2
         go_ret
         exact ⟨by first | rfl | (simp [errW_none, errW_some] <;> rfl) | (simp [*, errW_none, errW_some] <;> rfl), by repeat (first | (with_reducible first | exact HB.out | apply lA | apply lN | apply lW | refine lS ?_ GE276.out) | exact HB.out)⟩

end Go.Proofs.Ytcgkkjimonfhbaa.P

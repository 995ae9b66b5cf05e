/- Go functions that the laws of this seat reach, each as a Lean function, and a proof that a call of the Go code comes to its answers; written by a program (the kit's print, turned in a few places). Conditions: each theorem's own premises. -/
import Derived.Test.YtpcabeefahldlaaPx0
namespace Go.Proofs.Ytpcabeefahldlaa.P
open Go.RowKit Go.Proofs.YtpcabeefahldlaaW.PrintWords Go.Proofs.YtpcabeefahldlaaW.PrintLast Go.Proofs.YtpcabeefahldlaaW.PrintMore
attribute [local go_sem] max2_int min2_int max_two min_two max_three min_three max_four min_four   -- for this text's walks alone
set_option linter.unusedVariables false
set_option linter.unusedSimpArgs false

/-! ### phaetonref04_Right: function 23 -/
mutual
def phaetonref04_Right.j0 : Nat → Int → Bool → Int → Bool → Int → List Int → Option (Bool)
 | 0, _, _, _, _, _, _ => none
 | k + 1, x3, x289000, x289001, x289002, x289003, x289004 => if x289001 < 0 then (phaetonref04_Right.j1 k true x289000 x289001 x289002 x289003 x289004) else (if x289001 ≥ x3 then (phaetonref04_Right.j1 k true x289000 x289001 x289002 x289003 x289004) else (if x289003 < 0 then (phaetonref04_Right.j1 k true x289000 x289001 x289002 x289003 x289004) else (phaetonref04_Right.j1 k (decide (x289003 > 8)) x289000 x289001 x289002 x289003 x289004)))
def phaetonref04_Right.j1 : Nat → Bool → Bool → Int → Bool → Int → List Int → Option (Bool)
 | 0, _, _, _, _, _, _ => none
 | k + 1, x24, x289000, x289001, x289002, x289003, x289004 => if x24 = true then (some false) else (if x289002 = true then (some ((x289004.length : Int) == 0)) else (some ((x289004.length : Int) == x289003)))
end
def phaetonref04_Right.f (k : Nat) (a0_0 : Bool) (a0_1 : Int) (a0_2 : Bool) (a0_3 : Int) (l0_4 : List Int) : Option (Bool) := if a0_0 = true then (phaetonref04_Right.j0 k 536870912 a0_0 a0_1 a0_2 a0_3 l0_4) else (phaetonref04_Right.j0 k 2048 a0_0 a0_1 a0_2 a0_3 l0_4)
theorem phaetonref04_Right.mono_l : ∀ k, (∀ y0 y1 y2 y3 y4 y5, LeO (phaetonref04_Right.j0 k y0 y1 y2 y3 y4 y5) (phaetonref04_Right.j0 (k + 1) y0 y1 y2 y3 y4 y5)) ∧ (∀ y0 y1 y2 y3 y4 y5, LeO (phaetonref04_Right.j1 k y0 y1 y2 y3 y4 y5) (phaetonref04_Right.j1 (k + 1) y0 y1 y2 y3 y4 y5))
 | 0 => ⟨fun _ _ _ _ _ _ r h => by simp [phaetonref04_Right.j0] at h, fun _ _ _ _ _ _ r h => by simp [phaetonref04_Right.j1] at h⟩
 | k + 1 => by
  obtain ⟨ih0, ih1⟩ := phaetonref04_Right.mono_l k
  refine ⟨?_, ?_⟩
  ·intro y0 y1 y2 y3 y4 y5
   unfold phaetonref04_Right.j0
   repeat' first
   | (with_reducible exact ih0 _ _ _ _ _ _)
   | (with_reducible exact ih1 _ _ _ _ _ _)
   | (with_reducible exact LeO.refl _)
   | (with_reducible exact LeO.none _)
   | (with_reducible refine LeO.ite ?_ ?_)
   | (with_reducible refine LeO.bind ?_ (fun _ => ?_))
   | exact ih0 _ _ _ _ _ _
   | exact ih1 _ _ _ _ _ _
   | exact LeO.none _
   | refine LeO.ite ?_ ?_
   | refine LeO.bind ?_ (fun _ => ?_)
  ·intro y0 y1 y2 y3 y4 y5
   unfold phaetonref04_Right.j1
   repeat' first
   | (with_reducible exact ih0 _ _ _ _ _ _)
   | (with_reducible exact ih1 _ _ _ _ _ _)
   | (with_reducible exact LeO.refl _)
   | (with_reducible exact LeO.none _)
   | (with_reducible refine LeO.ite ?_ ?_)
   | (with_reducible refine LeO.bind ?_ (fun _ => ?_))
   | exact ih0 _ _ _ _ _ _
   | exact ih1 _ _ _ _ _ _
   | exact LeO.none _
   | refine LeO.ite ?_ ?_
   | refine LeO.bind ?_ (fun _ => ?_)
theorem phaetonref04_Right.mono : ∀ a0 a1 a2 a3 a4 k, LeO (phaetonref04_Right.f k a0 a1 a2 a3 a4) (phaetonref04_Right.f (k + 1) a0 a1 a2 a3 a4) := by
 intro a0 a1 a2 a3 a4 k
 obtain ⟨ih0, ih1⟩ := phaetonref04_Right.mono_l k
 unfold phaetonref04_Right.f
 repeat' first
   | (with_reducible exact ih0 _ _ _ _ _ _)
   | (with_reducible exact ih1 _ _ _ _ _ _)
   | (with_reducible exact LeO.refl _)
   | (with_reducible exact LeO.none _)
   | (with_reducible refine LeO.ite ?_ ?_)
   | (with_reducible refine LeO.bind ?_ (fun _ => ?_))
   | exact ih0 _ _ _ _ _ _
   | exact ih1 _ _ _ _ _ _
   | exact LeO.none _
   | refine LeO.ite ?_ ?_
   | refine LeO.bind ?_ (fun _ => ?_)
set_option maxHeartbeats 8000000 in
set_option maxRecDepth 100000 in
theorem phaetonref04_Right.calls (k : Nat) (a0_0 : Bool) (a0_1 : Int) (a0_2 : Bool) (a0_3 : Int) (A0_4 : Option Addr) (c0_4 : Nat) (l0_4 : List Int) (r : Bool) (w : World) (hr0_4 : Kd.C (Kd.int .u8) w A0_4 l0_4.length l0_4) (hc0_4 : l0_4.length ≤ c0_4) (h : phaetonref04_Right.f k a0_0 a0_1 a0_2 a0_3 l0_4 = some r) :
  Calls Try.prog 23 #[.agg #[.bool a0_0, .int .i64 a0_1, .bool a0_2, .int .i64 a0_3, .slice A0_4 l0_4.length c0_4]] w fun e w' => e = .returned (.bool r) ∧ Below w.heap.size w w' := by
 have hu25 := Try.underlying25
 have HR0_4 := aM hr0_4
 have HC0_4 := aM hc0_4
 clear hr0_4 hc0_4
 have HB := aM (Below.refl w.heap.size w)
 have H : (if a0_0 = true then (phaetonref04_Right.j0 k 536870912 a0_0 a0_1 a0_2 a0_3 l0_4) else (phaetonref04_Right.j0 k 2048 a0_0 a0_1 a0_2 a0_3 l0_4)) = some r := h
 clear h
 have HC2 := aM H
 clear H
 go_enter Try.func23, Try.ntmps23
 go_upto_if 5 with (first | ((with_reducible refine gate_dst (N := 1) rfl ?_); refine box_event ?hg (N := 1) ?hd (cs := #[.bool a0_0, .int .i64 a0_1, .bool a0_2, .int .i64 a0_3, .slice A0_4 l0_4.length c0_4]) (t := 25) ?hr ?_; (case hd => rfl); (case hg => rfl); (case hr => first | (go_simp; done) | (go_simp; rfl)); intro gb288 hg w3 hbox hb; have n0_ := aM (lT (by repeat (first | (with_reducible first | exact HB.out | apply lA | apply lN | apply lW) | exact HB.out)) hb); have n1_ := aM (hbox); have n2_ := aM ((by rw [hg]; exact (lZ (by repeat (first | (with_reducible first | exact HB.out | apply lA | apply lN | apply lW) | exact HB.out))) : w.heap.size ≤ gb288)); have n3_ := aM ((by rw [hg]; exact (lZ (by repeat (first | (with_reducible first | exact HB.out | apply lA | apply lN | apply lW) | exact HB.out))) : w.heap.size ≤ gb288)); clear HB; have HB := n0_; have BK288 := n1_; have GW288 := n2_; have GE288 := n3_; clear n0_ n1_ n2_ n3_; clear hb hbox hg; have hcz4_0 : w3.cell? ⟨gb288, 0, none⟩ = some (.bool a0_0) := (bC BK288.out 0).trans rfl; have hcz4_1 : w3.cell? ⟨gb288, 1, none⟩ = some (.int .i64 a0_1) := (bC BK288.out 1).trans rfl; have hcz4_2 : w3.cell? ⟨gb288, 2, none⟩ = some (.bool a0_2) := (bC BK288.out 2).trans rfl; have hcz4_3 : w3.cell? ⟨gb288, 3, none⟩ = some (.int .i64 a0_3) := (bC BK288.out 3).trans rfl; have hcz4_4 : w3.cell? ⟨gb288, 4, none⟩ = some (.slice A0_4 l0_4.length c0_4) := (bC BK288.out 4).trans rfl; have hfz4_0 := bF BK288.out 0; have hfz4_1 := bF BK288.out 1; have hfz4_2 := bF BK288.out 2; have hfz4_3 := bF BK288.out 3; have hfz4_4 := bF BK288.out 4))
 (try simp only [Act.put, sT, sZ, sS])
 go_cut [3] (fun v3 wc => ∃ (kq : Nat) (x3_1 : Int), v3 = .int .i64 x3_1 ∧ Aside0 (phaetonref04_Right.j0 kq x3_1 a0_0 a0_1 a0_2 a0_3 l0_4 = some r) ∧ Aside0 (kq ≤ k) ∧ Aside0 (wc.heap[gb288]? = some (.cells #[.bool a0_0, .int .i64 a0_1, .bool a0_2, .int .i64 a0_3, (.slice A0_4 l0_4.length c0_4)] 25 (0, 0))) ∧ Aside0 (Below w.heap.size w wc))
 case first =>
  have H := HC2.out
  clear HC2
  by_cases c5 : a0_0 = true
  ·subst c5
   have H1 : (phaetonref04_Right.j0 k 536870912 true a0_1 a0_2 a0_3 l0_4) = some r := by rw [if_pos rfl] at H; exact H
   clear H
   have H := H1
   clear H1
   have H' := aM H
   clear H
   go_wp2
   go_meet
   case rel => exact ⟨_, (536870912), (by first | rfl | (simp; done) | (simp [*]; done)), H', ⟨by first | omega | exact Nat.le_refl _⟩, ⟨by (with_reducible repeat (first | refine bN ?_ _ | refine bW ?_ | refine bA ?_ _)); exact BK288.out⟩, ⟨by repeat (first | (with_reducible first | exact HB.out | apply lA | apply lN | apply lW | refine lS ?_ GE288.out) | exact HB.out)⟩⟩
  ·replace c5 := Bool.eq_false_iff.mpr c5
   subst c5
   have H1 : (phaetonref04_Right.j0 k 2048 false a0_1 a0_2 a0_3 l0_4) = some r := by rw [if_neg (show ¬ (false = true) by decide)] at H; exact H
   clear H
   have H := H1
   clear H1
   have H' := aM H
   clear H
   go_wp2
   go_meet
   case rel => exact ⟨_, (2048), (by first | rfl | (simp; done) | (simp [*]; done)), H', ⟨by first | omega | exact Nat.le_refl _⟩, ⟨by (with_reducible repeat (first | refine bN ?_ _ | refine bW ?_ | refine bA ?_ _)); exact BK288.out⟩, ⟨by repeat (first | (with_reducible first | exact HB.out | apply lA | apply lN | apply lW | refine lS ?_ GE288.out) | exact HB.out)⟩⟩
 case rest =>
  clear HC2
  try clear c2
  try clear p2
  try clear c5
  try clear hcz4_0
  try clear hcz4_1
  try clear hcz4_2
  try clear hcz4_3
  try clear hcz4_4
  try clear hfz4_0
  try clear hfz4_1
  try clear hfz4_2
  try clear hfz4_3
  try clear hfz4_4
  obtain ⟨kq, x3_1, rfl, HA, HJ1, BK288, HB⟩ := hcut
  cases kq with
  | zero => exact absurd HA.out (by simp [phaetonref04_Right.j0])
  | succ kj1 =>
   have H := HA.out
   clear HA
   simp only [phaetonref04_Right.j0] at H
   have HC6 := aM H
   clear H
   go_upto_region 4 with (fail)
   go_cut [24] (fun v24 wc => ∃ (kq : Nat) (x24_5 : Bool), v24 = .bool x24_5 ∧ Aside0 (phaetonref04_Right.j1 kq x24_5 a0_0 a0_1 a0_2 a0_3 l0_4 = some r) ∧ Aside0 (kq ≤ kj1) ∧ Aside0 (wc.heap[gb288]? = some (.cells #[.bool a0_0, .int .i64 a0_1, .bool a0_2, .int .i64 a0_3, (.slice A0_4 l0_4.length c0_4)] 25 (0, 0))) ∧ Aside0 (Below w.heap.size w wc))
   case first =>
    have H := HC6.out
    clear HC6
    by_cases c7 : a0_1 < 0
    ·rw [if_pos c7] at H
     have c7b0 : decide (a0_1 < 0) = true := decide_eq_true c7
     clear c7
     (first | rw [c7b0] | (simp only [i64_w, i32_w]; rw [c7b0]) | skip)
     have H' := aM H
     clear H
     have hcz8_0 : wc.cell? ⟨gb288, 0, none⟩ = some (.bool a0_0) := (bC BK288.out 0).trans rfl
     have hcz8_1 : wc.cell? ⟨gb288, 1, none⟩ = some (.int .i64 a0_1) := (bC BK288.out 1).trans rfl
     have hcz8_2 : wc.cell? ⟨gb288, 2, none⟩ = some (.bool a0_2) := (bC BK288.out 2).trans rfl
     have hcz8_3 : wc.cell? ⟨gb288, 3, none⟩ = some (.int .i64 a0_3) := (bC BK288.out 3).trans rfl
     have hcz8_4 : wc.cell? ⟨gb288, 4, none⟩ = some (.slice A0_4 l0_4.length c0_4) := (bC BK288.out 4).trans rfl
     have hfz8_0 := bF BK288.out 0
     have hfz8_1 := bF BK288.out 1
     have hfz8_2 := bF BK288.out 2
     have hfz8_3 := bF BK288.out 3
     have hfz8_4 := bF BK288.out 4
     go_wp2
     go_meet
     case rel => exact ⟨_, (true), (by first | rfl | (simp; done) | (simp [*]; done)), H', ⟨by have := HJ1.out; first | omega | exact Nat.le_refl _⟩, ⟨by (with_reducible repeat (first | refine bN ?_ _ | refine bW ?_ | refine bA ?_ _)); exact BK288.out⟩, ⟨by repeat (first | (with_reducible first | exact HB.out | apply lA | apply lN | apply lW | refine lS ?_ GE288.out) | exact HB.out)⟩⟩
    ·rw [if_neg c7] at H
     have c7b0 : decide (a0_1 < 0) = false := decide_eq_false c7
     clear c7
     (first | rw [c7b0] | (simp only [i64_w, i32_w]; rw [c7b0]) | skip)
     by_cases c9 : a0_1 ≥ x3_1
     ·rw [if_pos c9] at H
      have c9b0 : decide (x3_1 ≤ a0_1) = true := decide_eq_true c9
      clear c9
      have H' := aM H
      clear H
      have hcz10_0 : wc.cell? ⟨gb288, 0, none⟩ = some (.bool a0_0) := (bC BK288.out 0).trans rfl
      have hcz10_1 : wc.cell? ⟨gb288, 1, none⟩ = some (.int .i64 a0_1) := (bC BK288.out 1).trans rfl
      have hcz10_2 : wc.cell? ⟨gb288, 2, none⟩ = some (.bool a0_2) := (bC BK288.out 2).trans rfl
      have hcz10_3 : wc.cell? ⟨gb288, 3, none⟩ = some (.int .i64 a0_3) := (bC BK288.out 3).trans rfl
      have hcz10_4 : wc.cell? ⟨gb288, 4, none⟩ = some (.slice A0_4 l0_4.length c0_4) := (bC BK288.out 4).trans rfl
      have hfz10_0 := bF BK288.out 0
      have hfz10_1 := bF BK288.out 1
      have hfz10_2 := bF BK288.out 2
      have hfz10_3 := bF BK288.out 3
      have hfz10_4 := bF BK288.out 4
      go_wp2
      go_meet
      case rel => exact ⟨_, (true), (by first | rfl | (simp; done) | (simp [*]; done)), H', ⟨by have := HJ1.out; first | omega | exact Nat.le_refl _⟩, ⟨by (with_reducible repeat (first | refine bN ?_ _ | refine bW ?_ | refine bA ?_ _)); exact BK288.out⟩, ⟨by repeat (first | (with_reducible first | exact HB.out | apply lA | apply lN | apply lW | refine lS ?_ GE288.out) | exact HB.out)⟩⟩
     ·rw [if_neg c9] at H
      have c9b0 : decide (x3_1 ≤ a0_1) = false := decide_eq_false c9
      clear c9
      by_cases c11 : a0_3 < 0
      ·rw [if_pos c11] at H
       have c11b0 : decide (a0_3 < 0) = true := decide_eq_true c11
       clear c11
       have H' := aM H
       clear H
       have hcz12_0 : wc.cell? ⟨gb288, 0, none⟩ = some (.bool a0_0) := (bC BK288.out 0).trans rfl
       have hcz12_1 : wc.cell? ⟨gb288, 1, none⟩ = some (.int .i64 a0_1) := (bC BK288.out 1).trans rfl
       have hcz12_2 : wc.cell? ⟨gb288, 2, none⟩ = some (.bool a0_2) := (bC BK288.out 2).trans rfl
       have hcz12_3 : wc.cell? ⟨gb288, 3, none⟩ = some (.int .i64 a0_3) := (bC BK288.out 3).trans rfl
       have hcz12_4 : wc.cell? ⟨gb288, 4, none⟩ = some (.slice A0_4 l0_4.length c0_4) := (bC BK288.out 4).trans rfl
       have hfz12_0 := bF BK288.out 0
       have hfz12_1 := bF BK288.out 1
       have hfz12_2 := bF BK288.out 2
       have hfz12_3 := bF BK288.out 3
       have hfz12_4 := bF BK288.out 4
       go_wp2
       go_meet
       case rel => exact ⟨_, (true), (by first | rfl | (simp; done) | (simp [*]; done)), H', ⟨by have := HJ1.out; first | omega | exact Nat.le_refl _⟩, ⟨by (with_reducible repeat (first | refine bN ?_ _ | refine bW ?_ | refine bA ?_ _)); exact BK288.out⟩, ⟨by repeat (first | (with_reducible first | exact HB.out | apply lA | apply lN | apply lW | refine lS ?_ GE288.out) | exact HB.out)⟩⟩
      ·rw [if_neg c11] at H
       have c11b0 : decide (a0_3 < 0) = false := decide_eq_false c11
       clear c11
       have H' := aM H
       clear H
       have hcz13_0 : wc.cell? ⟨gb288, 0, none⟩ = some (.bool a0_0) := (bC BK288.out 0).trans rfl
       have hcz13_1 : wc.cell? ⟨gb288, 1, none⟩ = some (.int .i64 a0_1) := (bC BK288.out 1).trans rfl
       have hcz13_2 : wc.cell? ⟨gb288, 2, none⟩ = some (.bool a0_2) := (bC BK288.out 2).trans rfl
       have hcz13_3 : wc.cell? ⟨gb288, 3, none⟩ = some (.int .i64 a0_3) := (bC BK288.out 3).trans rfl
       have hcz13_4 : wc.cell? ⟨gb288, 4, none⟩ = some (.slice A0_4 l0_4.length c0_4) := (bC BK288.out 4).trans rfl
       have hfz13_0 := bF BK288.out 0
       have hfz13_1 := bF BK288.out 1
       have hfz13_2 := bF BK288.out 2
       have hfz13_3 := bF BK288.out 3
       have hfz13_4 := bF BK288.out 4
       go_wp2
       go_meet
       case rel => exact ⟨_, (decide (a0_3 > 8)), (by first | rfl | (simp; done) | (simp [*]; done)), H', ⟨by have := HJ1.out; first | omega | exact Nat.le_refl _⟩, ⟨by (with_reducible repeat (first | refine bN ?_ _ | refine bW ?_ | refine bA ?_ _)); exact BK288.out⟩, ⟨by repeat (first | (with_reducible first | exact HB.out | apply lA | apply lN | apply lW | refine lS ?_ GE288.out) | exact HB.out)⟩⟩
   case rest =>
    clear HC6
    try clear c1
    try clear c2
    try clear p2
    try clear c5
    try clear c7
    try clear c7b0
    try clear c9
    try clear c9b0
    try clear c11
    try clear c11b0
    try clear hcz10_0
    try clear hcz10_1
    try clear hcz10_2
    try clear hcz10_3
    try clear hcz10_4
    try clear hcz12_0
    try clear hcz12_1
    try clear hcz12_2
    try clear hcz12_3
    try clear hcz12_4
    try clear hcz13_0
    try clear hcz13_1
    try clear hcz13_2
    try clear hcz13_3
    try clear hcz13_4
    try clear hcz4_0
    try clear hcz4_1
    try clear hcz4_2
    try clear hcz4_3
    try clear hcz4_4
    try clear hcz8_0
    try clear hcz8_1
    try clear hcz8_2
    try clear hcz8_3
    try clear hcz8_4
    try clear hfz10_0
    try clear hfz10_1
    try clear hfz10_2
    try clear hfz10_3
    try clear hfz10_4
    try clear hfz12_0
    try clear hfz12_1
    try clear hfz12_2
    try clear hfz12_3
    try clear hfz12_4
    try clear hfz13_0
    try clear hfz13_1
    try clear hfz13_2
    try clear hfz13_3
    try clear hfz13_4
    try clear hfz4_0
    try clear hfz4_1
    try clear hfz4_2
    try clear hfz4_3
    try clear hfz4_4
    try clear hfz8_0
    try clear hfz8_1
    try clear hfz8_2
    try clear hfz8_3
    try clear hfz8_4
    try clear p2
    obtain ⟨kq, x24_5, rfl, HA, HJ5, BK288, HB⟩ := hcut
    cases kq with
    | zero => exact absurd HA.out (by simp [phaetonref04_Right.j1])
    | succ kj5 =>
     have H := HA.out
     clear HA
     simp only [phaetonref04_Right.j1] at H
     by_cases c14 : x24_5 = true
     ·subst c14
      have H1 : (some false) = some r := by rw [if_pos rfl] at H; exact H
      clear H
      have H := H1
      clear H1
      obtain rfl := Option.some.inj H
      go_wp2
      go_ret
      exact ⟨by first | rfl | (simp [errW_none, errW_some] <;> rfl) | (simp [*, errW_none, errW_some] <;> rfl), by repeat (first | (with_reducible first | exact HB.out | apply lA | apply lN | apply lW | refine lS ?_ GE288.out) | exact HB.out)⟩
     ·replace c14 := Bool.eq_false_iff.mpr c14
      subst c14
      have H1 : (if a0_2 = true then (some ((l0_4.length : Int) == 0)) else (some ((l0_4.length : Int) == a0_3))) = some r := by rw [if_neg (show ¬ (false = true) by decide)] at H; exact H
      clear H
      have H := H1
      clear H1
      by_cases c15 : a0_2 = true
      ·subst c15
       have H1 : (some ((l0_4.length : Int) == 0)) = some r := by rw [if_pos rfl] at H; exact H
       clear H
       have H := H1
       clear H1
       obtain rfl := Option.some.inj H
       have hcz16_0 : wc.cell? ⟨gb288, 0, none⟩ = some (.bool a0_0) := (bC BK288.out 0).trans rfl
       have hcz16_1 : wc.cell? ⟨gb288, 1, none⟩ = some (.int .i64 a0_1) := (bC BK288.out 1).trans rfl
       have hcz16_2 : wc.cell? ⟨gb288, 2, none⟩ = some (.bool true) := (bC BK288.out 2).trans rfl
       have hcz16_3 : wc.cell? ⟨gb288, 3, none⟩ = some (.int .i64 a0_3) := (bC BK288.out 3).trans rfl
       have hcz16_4 : wc.cell? ⟨gb288, 4, none⟩ = some (.slice A0_4 l0_4.length c0_4) := (bC BK288.out 4).trans rfl
       have hfz16_0 := bF BK288.out 0
       have hfz16_1 := bF BK288.out 1
       have hfz16_2 := bF BK288.out 2
       have hfz16_3 := bF BK288.out 3
       have hfz16_4 := bF BK288.out 4
       go_wp2
       go_ret
       exact ⟨by first | rfl | (simp [errW_none, errW_some] <;> rfl) | (simp [*, errW_none, errW_some] <;> rfl), by repeat (first | (with_reducible first | exact HB.out | apply lA | apply lN | apply lW | refine lS ?_ GE288.out) | exact HB.out)⟩
      ·replace c15 := Bool.eq_false_iff.mpr c15
       subst c15
       have H1 : (some ((l0_4.length : Int) == a0_3)) = some r := by rw [if_neg (show ¬ (false = true) by decide)] at H; exact H
       clear H
       have H := H1
       clear H1
       obtain rfl := Option.some.inj H
       have hcz17_0 : wc.cell? ⟨gb288, 0, none⟩ = some (.bool a0_0) := (bC BK288.out 0).trans rfl
       have hcz17_1 : wc.cell? ⟨gb288, 1, none⟩ = some (.int .i64 a0_1) := (bC BK288.out 1).trans rfl
       have hcz17_2 : wc.cell? ⟨gb288, 2, none⟩ = some (.bool false) := (bC BK288.out 2).trans rfl
       have hcz17_3 : wc.cell? ⟨gb288, 3, none⟩ = some (.int .i64 a0_3) := (bC BK288.out 3).trans rfl
       have hcz17_4 : wc.cell? ⟨gb288, 4, none⟩ = some (.slice A0_4 l0_4.length c0_4) := (bC BK288.out 4).trans rfl
       have hfz17_0 := bF BK288.out 0
       have hfz17_1 := bF BK288.out 1
       have hfz17_2 := bF BK288.out 2
       have hfz17_3 := bF BK288.out 3
       have hfz17_4 := bF BK288.out 4
       go_wp2
       go_ret
       exact ⟨by first | rfl | (simp [errW_none, errW_some] <;> rfl) | (simp [*, errW_none, errW_some] <;> rfl), by repeat (first | (with_reducible first | exact HB.out | apply lA | apply lN | apply lW | refine lS ?_ GE288.out) | exact HB.out)⟩

end Go.Proofs.Ytpcabeefahldlaa.P

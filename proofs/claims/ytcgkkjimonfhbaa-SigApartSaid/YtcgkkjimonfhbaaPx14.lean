/- Go functions that the laws of this seat reach, each as a Lean function, and a proof that a call of the Go code comes to its answers; written by a program (the kit's print, turned in a few places). Conditions: each theorem's own premises. -/
import Derived.Test.YtcgkkjimonfhbaaPx0
import Derived.Test.YtcgkkjimonfhbaaPx12
import Derived.Test.YtcgkkjimonfhbaaPx13
namespace Go.Proofs.Ytcgkkjimonfhbaa.P
open Go.RowKit Go.Proofs.YtcgkkjimonfhbaaW.PrintWords Go.Proofs.YtcgkkjimonfhbaaW.PrintLast Go.Proofs.YtcgkkjimonfhbaaW.PrintMore
attribute [local go_sem] max2_int min2_int max_two min_two max_three min_three max_four min_four   -- for this text's walks alone
set_option linter.unusedVariables false
set_option linter.unusedSimpArgs false

/-! ### phaetonref15_Places: function 20 -/
def phaetonref15_Places.l0 : Nat → List Int → List Int → Int → Option (List Int)
 | 0, _, _, _ => none
 | k + 1, x3, x4, x5 => if x5 ≥ 0 then (if 0 ≤ x5 then (if x5 < (x3.length : Int) then (if x4.length < 17592186044416 then (phaetonref15_Places.l0 k x3 (x4 ++ [rd x3 x5]) (wrap64 (x5 - 1))) else (none)) else (none)) else (none)) else (some x4)
def phaetonref15_Places.f (k : Nat) (a0_0 : Int) (a0_1 : Int) (a0_2 : Bool) (a0_3 : Bool) (a0_4 : Int) (a0_5 : Int) : Option (List Int) := (phaetonref15_Right.f k a0_0 a0_1 a0_2 a0_3 a0_4 a0_5 8).bind fun t282 => (if t282 = true then ((phaetonref15_all.f k a0_0 a0_1 a0_2 a0_3 a0_4 a0_5).bind fun t286 => (if a0_2 = true then (phaetonref15_Places.l0 k t286 (([] : List Int)) (wrap64 ((t286.length : Int) - 1))) else (some t286))) else (some (([] : List Int))))
theorem phaetonref15_Places.mono_l : ∀ k, (∀ y0 y1 y2, LeO (phaetonref15_Places.l0 k y0 y1 y2) (phaetonref15_Places.l0 (k + 1) y0 y1 y2))
 | 0 => fun _ _ _ r h => by simp [phaetonref15_Places.l0] at h
 | k + 1 => by
  have ih0 := phaetonref15_Places.mono_l k
  ·intro y0 y1 y2
   unfold phaetonref15_Places.l0
   repeat' first
   | (with_reducible exact ih0 _ _ _)
   | (with_reducible exact phaetonref15_Right.mono _ _ _ _ _ _ _ _)
   | (with_reducible exact phaetonref15_all.mono _ _ _ _ _ _ _)
   | (with_reducible exact LeO.refl _)
   | (with_reducible exact LeO.none _)
   | (with_reducible refine LeO.ite ?_ ?_)
   | (with_reducible refine LeO.bind ?_ (fun _ => ?_))
   | exact ih0 _ _ _
   | exact phaetonref15_Right.mono _ _ _ _ _ _ _ _
   | exact phaetonref15_all.mono _ _ _ _ _ _ _
   | exact LeO.none _
   | refine LeO.ite ?_ ?_
   | refine LeO.bind ?_ (fun _ => ?_)
theorem phaetonref15_Places.mono : ∀ a0 a1 a2 a3 a4 a5 k, LeO (phaetonref15_Places.f k a0 a1 a2 a3 a4 a5) (phaetonref15_Places.f (k + 1) a0 a1 a2 a3 a4 a5) := by
 intro a0 a1 a2 a3 a4 a5 k
 have ih0 := phaetonref15_Places.mono_l k
 unfold phaetonref15_Places.f
 repeat' first
   | (with_reducible exact ih0 _ _ _)
   | (with_reducible exact phaetonref15_Right.mono _ _ _ _ _ _ _ _)
   | (with_reducible exact phaetonref15_all.mono _ _ _ _ _ _ _)
   | (with_reducible exact LeO.refl _)
   | (with_reducible exact LeO.none _)
   | (with_reducible refine LeO.ite ?_ ?_)
   | (with_reducible refine LeO.bind ?_ (fun _ => ?_))
   | exact ih0 _ _ _
   | exact phaetonref15_Right.mono _ _ _ _ _ _ _ _
   | exact phaetonref15_all.mono _ _ _ _ _ _ _
   | exact LeO.none _
   | refine LeO.ite ?_ ?_
   | refine LeO.bind ?_ (fun _ => ?_)
set_option maxHeartbeats 8000000 in
set_option maxRecDepth 100000 in
theorem phaetonref15_Places.calls (k : Nat) (a0_0 : Int) (a0_1 : Int) (a0_2 : Bool) (a0_3 : Bool) (a0_4 : Int) (a0_5 : Int) (r : List Int) (w : World) (h : phaetonref15_Places.f k a0_0 a0_1 a0_2 a0_3 a0_4 a0_5 = some r) :
  Calls Try.prog 20 #[.agg #[.int .i64 a0_0, .int .i64 a0_1, .bool a0_2, .bool a0_3, .int .i64 a0_4, .int .i64 a0_5]] w fun e w' => ∃ v0_ : Value, e = .returned (v0_) ∧ Kd.R (Kd.int .i64) 3 w' w.heap.size (fun _ => True) v0_ r ∧ Below w.heap.size w w' := by
 have hu23 := Try.underlying23
 have HB := aM (Below.refl w.heap.size w)
 have H : ((phaetonref15_Right.f k a0_0 a0_1 a0_2 a0_3 a0_4 a0_5 8).bind fun t282 => (if t282 = true then ((phaetonref15_all.f k a0_0 a0_1 a0_2 a0_3 a0_4 a0_5).bind fun t286 => (if a0_2 = true then (phaetonref15_Places.l0 k t286 (([] : List Int)) (wrap64 ((t286.length : Int) - 1))) else (some t286))) else (some (([] : List Int))))) = some r := h
 clear h
 replace H := Option.bind_eq_some_iff.mp H
 obtain ⟨t282, A20, H⟩ := H
 replace H : (if t282 = true then ((phaetonref15_all.f k a0_0 a0_1 a0_2 a0_3 a0_4 a0_5).bind fun t286 => (if a0_2 = true then (phaetonref15_Places.l0 k t286 (([] : List Int)) (wrap64 ((t286.length : Int) - 1))) else (some t286))) else (some (([] : List Int)))) = some r := H
 have A2 := aM A20
 clear A20
 by_cases c3 : t282 = true
 ·subst c3
  have H1 : ((phaetonref15_all.f k a0_0 a0_1 a0_2 a0_3 a0_4 a0_5).bind fun t286 => (if a0_2 = true then (phaetonref15_Places.l0 k t286 (([] : List Int)) (wrap64 ((t286.length : Int) - 1))) else (some t286))) = some r := by rw [if_pos rfl] at H; exact H
  clear H
  have H := H1
  clear H1
  replace H := Option.bind_eq_some_iff.mp H
  obtain ⟨t286, A40, H⟩ := H
  replace H : (if a0_2 = true then (phaetonref15_Places.l0 k t286 (([] : List Int)) (wrap64 ((t286.length : Int) - 1))) else (some t286)) = some r := H
  have A4 := aM A40
  clear A40
  by_cases c5 : a0_2 = true
  ·subst c5
   have H1 : (phaetonref15_Places.l0 k t286 (([] : List Int)) (wrap64 ((t286.length : Int) - 1))) = some r := by rw [if_pos rfl] at H; exact H
   clear H
   have H := H1
   clear H1
   obtain ⟨y289, hy289⟩ : ∃ y_ : List Int, y_ = (([] : List Int)) := ⟨_, rfl⟩
   replace H : (phaetonref15_Places.l0 k t286 y289 (wrap64 ((t286.length : Int) - 1))) = some r := by first | (rw [hy289]; with_reducible exact H) | (have H2_ := (Option.bind_some _ _).symm.trans H; rw [hy289]; with_reducible exact H2_) | (have H2_ := (Option.bind_some _ _).symm.trans H; with_reducible exact H2_) | with_reducible exact H | (rw [hy289]; exact H) | exact H
   have Ny289 := aM hy289
   clear hy289
   have H' := aM H
   clear H
   go_enter Try.func20, Try.ntmps20
   go_wp2_with (first | ((with_reducible refine gate_dst (N := 1) rfl ?_); refine box_event ?hg (N := 1) ?hd (cs := #[.int .i64 a0_0, .int .i64 a0_1, .bool true, .bool a0_3, .int .i64 a0_4, .int .i64 a0_5]) (t := 23) ?hr ?_; (case hd => rfl); (case hg => rfl); (case hr => first | (go_simp; done) | (go_simp; rfl)); intro gb281 hg w6 hbox hb; have n0_ := aM (lT (by repeat (first | (with_reducible first | exact HB.out | apply lA | apply lN | apply lW) | exact HB.out)) hb); have n1_ := aM (hbox); have n2_ := aM ((by rw [hg]; exact (lZ (by repeat (first | (with_reducible first | exact HB.out | apply lA | apply lN | apply lW) | exact HB.out))) : w.heap.size ≤ gb281)); have n3_ := aM ((by rw [hg]; exact (lZ (by repeat (first | (with_reducible first | exact HB.out | apply lA | apply lN | apply lW) | exact HB.out))) : w.heap.size ≤ gb281)); clear HB; have HB := n0_; have BK281 := n1_; have GW281 := n2_; have GE281 := n3_; clear n0_ n1_ n2_ n3_; clear hb hbox hg; have hcz7_0 : w6.cell? ⟨gb281, 0, none⟩ = some (.int .i64 a0_0) := (bC BK281.out 0).trans rfl; have hcz7_1 : w6.cell? ⟨gb281, 1, none⟩ = some (.int .i64 a0_1) := (bC BK281.out 1).trans rfl; have hcz7_2 : w6.cell? ⟨gb281, 2, none⟩ = some (.bool true) := (bC BK281.out 2).trans rfl; have hcz7_3 : w6.cell? ⟨gb281, 3, none⟩ = some (.bool a0_3) := (bC BK281.out 3).trans rfl; have hcz7_4 : w6.cell? ⟨gb281, 4, none⟩ = some (.int .i64 a0_4) := (bC BK281.out 4).trans rfl; have hcz7_5 : w6.cell? ⟨gb281, 5, none⟩ = some (.int .i64 a0_5) := (bC BK281.out 5).trans rfl; have hfz7_0 := bF BK281.out 0; have hfz7_1 := bF BK281.out 1; have hfz7_2 := bF BK281.out 2; have hfz7_3 := bF BK281.out 3; have hfz7_4 := bF BK281.out 4; have hfz7_5 := bF BK281.out 5) | ((with_reducible refine gate_callee (f := 17) rfl ?_); refine goesL_ (some 7) rfl rfl Try.func17 (by kernel_rfl) rfl #[.agg #[.int .i64 a0_0, .int .i64 a0_1, .bool true, .bool a0_3, .int .i64 a0_4, .int .i64 a0_5], .int .i64 8] rfl (by (try simp only [List.map_toArray, List.map_cons, List.map_nil]); first | done | rfl | (simp only [List.length_drop, List.length_take]; rfl)) ?_; (with_reducible refine (phaetonref15_Right.calls k a0_0 a0_1 true a0_3 a0_4 a0_5 8 true _ A2.out).mono ?_); rintro e w8 ⟨rfl, hb⟩; refine ⟨_, rfl, ?_⟩; have n0_ := aM (blk_below (g := gb281) (o := .cells #[.int .i64 a0_0, .int .i64 a0_1, .bool true, .bool a0_3, .int .i64 a0_4, .int .i64 a0_5] 23 (0, 0)) (by (with_reducible repeat (first | refine bN ?_ _ | refine bW ?_ | refine bA ?_ _)); exact BK281.out) hb); have n1_ := aM (lT (by repeat (first | (with_reducible first | exact HB.out | apply lA | apply lN | apply lW | refine lS ?_ GE281.out) | exact HB.out)) hb); clear BK281; clear HB; have BK281 := n0_; have HB := n1_; clear n0_ n1_; (try clear hb); (try clear hb2); (try clear hk); (try clear hi); have hcz9_0 : w8.cell? ⟨gb281, 0, none⟩ = some (.int .i64 a0_0) := (bC BK281.out 0).trans rfl; have hcz9_1 : w8.cell? ⟨gb281, 1, none⟩ = some (.int .i64 a0_1) := (bC BK281.out 1).trans rfl; have hcz9_2 : w8.cell? ⟨gb281, 2, none⟩ = some (.bool true) := (bC BK281.out 2).trans rfl; have hcz9_3 : w8.cell? ⟨gb281, 3, none⟩ = some (.bool a0_3) := (bC BK281.out 3).trans rfl; have hcz9_4 : w8.cell? ⟨gb281, 4, none⟩ = some (.int .i64 a0_4) := (bC BK281.out 4).trans rfl; have hcz9_5 : w8.cell? ⟨gb281, 5, none⟩ = some (.int .i64 a0_5) := (bC BK281.out 5).trans rfl; have hfz9_0 := bF BK281.out 0; have hfz9_1 := bF BK281.out 1; have hfz9_2 := bF BK281.out 2; have hfz9_3 := bF BK281.out 3; have hfz9_4 := bF BK281.out 4; have hfz9_5 := bF BK281.out 5) | ((with_reducible refine gate_callee (f := 35) rfl ?_); refine goesL_ (some 11) rfl rfl Try.func35 (by kernel_rfl) rfl #[.agg #[.int .i64 a0_0, .int .i64 a0_1, .bool true, .bool a0_3, .int .i64 a0_4, .int .i64 a0_5]] rfl (by (try simp only [List.map_toArray, List.map_cons, List.map_nil]); first | done | rfl | (simp only [List.length_drop, List.length_take]; rfl)) ?_; (with_reducible refine (phaetonref15_all.calls k a0_0 a0_1 true a0_3 a0_4 a0_5 t286 _ A4.out).mono ?_); rintro e w10 ⟨v287, rfl, ho0, hb⟩; refine ⟨_, rfl, ?_⟩; have n0_ := aM (Kd.R_lower ho0 (lZ (by repeat (first | (with_reducible first | exact HB.out | apply lA | apply lN | apply lW | refine lS ?_ GE281.out) | exact HB.out)))); have n1_ := aM (blk_below (g := gb281) (o := .cells #[.int .i64 a0_0, .int .i64 a0_1, .bool true, .bool a0_3, .int .i64 a0_4, .int .i64 a0_5] 23 (0, 0)) (by (with_reducible repeat (first | refine bN ?_ _ | refine bW ?_ | refine bA ?_ _)); exact BK281.out) hb); have n2_ := aM (lT (by repeat (first | (with_reducible first | exact HB.out | apply lA | apply lN | apply lW | refine lS ?_ GE281.out) | exact HB.out)) hb); clear BK281; clear HB; have HO288 := n0_; have BK281 := n1_; have HB := n2_; clear n0_ n1_ n2_; (try clear hb); (try clear hb2); (try clear hk); (try clear hi); (try clear ho0); have hcz11_0 : w10.cell? ⟨gb281, 0, none⟩ = some (.int .i64 a0_0) := (bC BK281.out 0).trans rfl; have hcz11_1 : w10.cell? ⟨gb281, 1, none⟩ = some (.int .i64 a0_1) := (bC BK281.out 1).trans rfl; have hcz11_2 : w10.cell? ⟨gb281, 2, none⟩ = some (.bool true) := (bC BK281.out 2).trans rfl; have hcz11_3 : w10.cell? ⟨gb281, 3, none⟩ = some (.bool a0_3) := (bC BK281.out 3).trans rfl; have hcz11_4 : w10.cell? ⟨gb281, 4, none⟩ = some (.int .i64 a0_4) := (bC BK281.out 4).trans rfl; have hcz11_5 : w10.cell? ⟨gb281, 5, none⟩ = some (.int .i64 a0_5) := (bC BK281.out 5).trans rfl; have hfz11_0 := bF BK281.out 0; have hfz11_1 := bF BK281.out 1; have hfz11_2 := bF BK281.out 2; have hfz11_3 := bF BK281.out 3; have hfz11_4 := bF BK281.out 4; have hfz11_5 := bF BK281.out 5) | ((with_reducible refine gate_dst (N := 16) rfl ?_); refine Kd.R_lit (Kd.int .i64) _ 3 ?hg (N := 16) ?hd (xs := ([] : List Int)) (inner := []) (ok := fun _ => True) (okp := fun _ => True) ?hr ?hp (fun _ hk => hk) trivial (Below.refl _ _) (Nat.le_refl _) (by simp) ?_; (case hd => rfl); (case hg => rfl); (case hr => first | (go_simp; done) | (go_simp; rfl)); (case hp => exact (Reps.none _ _)); intro v290 w12 ho13 hb hg_ hnew_; clear hg_ hnew_; (first | rw [← Ny289.out] at ho13 | (simp only [Int.reduceToNat] at ho13; rw [← Ny289.out] at ho13)); have n0_ := aM (Kd.R_elder' (by (with_reducible repeat (first | apply rA | apply rN | apply rW)); exact HO288.out) (Kd.R_base ho13) hb); have n1_ := aM (Kd.R_lower (Kd.R_new' ho13 (Kd.R_lt (by (with_reducible repeat (first | apply rA | apply rN | apply rW)); exact HO288.out))) (lZ (by repeat (first | (with_reducible first | exact HB.out | apply lA | apply lN | apply lW | refine lS ?_ GE281.out) | exact HB.out)))); have n2_ := aM (blk_below (g := gb281) (o := .cells #[.int .i64 a0_0, .int .i64 a0_1, .bool true, .bool a0_3, .int .i64 a0_4, .int .i64 a0_5] 23 (0, 0)) (by (with_reducible repeat (first | refine bN ?_ _ | refine bW ?_ | refine bA ?_ _)); exact BK281.out) hb); have n3_ := aM (lT (by repeat (first | (with_reducible first | exact HB.out | apply lA | apply lN | apply lW | refine lS ?_ GE281.out) | exact HB.out)) hb); clear HO288; clear BK281; clear HB; have HO288 := n0_; have HO291 := n1_; have BK281 := n2_; have HB := n3_; clear n0_ n1_ n2_ n3_; clear hb ho13; obtain ⟨Ao14, co14, eo14⟩ := Kd.R_slice HO288.out; subst eo14))
   go_loopg [4, 5] k (fun kq v4 v5 w' => ∃ (x4_1 : List Int) (x5_1 : Int), v5 = .int .i64 x5_1 ∧ Aside0 (phaetonref15_Places.l0 kq t286 x4_1 x5_1 = some r) ∧ Aside0 (kq ≤ k) ∧ Aside0 (Kd.R (Kd.int .i64) 3 w' w.heap.size (fun k_ => some k_ ≠ (v4 : Value).ownBlock) (.slice Ao14 t286.length co14) t286) ∧ Aside0 (Kd.R (Kd.int .i64) 3 w' w.heap.size (fun k_ => some k_ ≠ ((.slice Ao14 t286.length co14) : Value).ownBlock) v4 x4_1) ∧ Aside0 (w'.heap[gb281]? = some (.cells #[.int .i64 a0_0, .int .i64 a0_1, .bool true, .bool a0_3, .int .i64 a0_4, .int .i64 a0_5] 23 (0, 0))) ∧ Aside0 (Below w.heap.size w w'))
   case atStart => exact ⟨(y289), (wrap64 ((t286.length : Int) - 1)), (by first | rfl | (simp; done) | (simp [*]; done)), H', ⟨Nat.le_refl _⟩, ⟨by (with_reducible repeat (first | apply rA | apply rN | apply rW)); exact Kd.R_mono HO288.out (fun _ hk => hk.2)⟩, ⟨by (with_reducible repeat (first | apply rA | apply rN | apply rW)); exact Kd.R_mono HO291.out (fun _ hk => hk.2)⟩, ⟨by (with_reducible repeat (first | refine bN ?_ _ | refine bW ?_ | refine bA ?_ _)); exact BK281.out⟩, ⟨by repeat (first | (with_reducible first | exact HB.out | apply lA | apply lN | apply lW | refine lS ?_ GE281.out) | exact HB.out)⟩⟩
   case round =>
    clear H'
    try clear c1
    try clear c2
    try clear p2
    try clear c3
    try clear c5
    try clear p6
    try clear hcz11_0
    try clear hcz11_1
    try clear hcz11_2
    try clear hcz11_3
    try clear hcz11_4
    try clear hcz11_5
    try clear hcz7_0
    try clear hcz7_1
    try clear hcz7_2
    try clear hcz7_3
    try clear hcz7_4
    try clear hcz7_5
    try clear hcz9_0
    try clear hcz9_1
    try clear hcz9_2
    try clear hcz9_3
    try clear hcz9_4
    try clear hcz9_5
    try clear hfz11_0
    try clear hfz11_1
    try clear hfz11_2
    try clear hfz11_3
    try clear hfz11_4
    try clear hfz11_5
    try clear hfz7_0
    try clear hfz7_1
    try clear hfz7_2
    try clear hfz7_3
    try clear hfz7_4
    try clear hfz7_5
    try clear hfz9_0
    try clear hfz9_1
    try clear hfz9_2
    try clear hfz9_3
    try clear hfz9_4
    try clear hfz9_5
    obtain ⟨x4_1, x5_1, rfl, HA, HK1, HO_3, HO_4, BK281, HB⟩ := hrel
    cases gk with
    | zero => exact absurd HA.out (by simp [phaetonref15_Places.l0])
    | succ k1 =>
     have H := HA.out
     clear HA
     simp only [phaetonref15_Places.l0] at H
     by_cases c15 : x5_1 ≥ 0
     ·rw [if_pos c15] at H
      have c15b0 : decide (0 ≤ x5_1) = true := decide_eq_true c15
      clear c15
      by_cases c16 : 0 ≤ x5_1
      ·rw [if_pos c16] at H
       have c16b0 : decide (0 ≤ x5_1) = true := decide_eq_true c16
       clear c16
       by_cases c17 : x5_1 < (t286.length : Int)
       ·rw [if_pos c17] at H
        have c17b0 : decide (x5_1 < (t286.length : Int)) = true := decide_eq_true c17
        clear c17
        by_cases c18 : x4_1.length < 17592186044416
        ·rw [if_pos c18] at H
         have LMc18 := aM c18
         clear c18
         obtain ⟨y293, hy293⟩ : ∃ y_ : List Int, y_ = (x4_1 ++ [rd t286 x5_1]) := ⟨_, rfl⟩
         replace H : (phaetonref15_Places.l0 k1 t286 y293 (wrap64 (x5_1 - 1))) = some r := by first | (rw [hy293]; with_reducible exact H) | (have H2_ := (Option.bind_some _ _).symm.trans H; rw [hy293]; with_reducible exact H2_) | (have H2_ := (Option.bind_some _ _).symm.trans H; with_reducible exact H2_) | with_reducible exact H | (rw [hy293]; exact H) | exact H
         have Ny293 := aM hy293
         clear hy293
         have H' := aM H
         clear H
         have p292 : 0 ≤ (x5_1 : Int) := oD (by first | (with_reducible assumption) | assumption)
         have q292 : x5_1 < (t286.length : Int) := oD (by first | (with_reducible assumption) | assumption)
         obtain ⟨ad292, e292, hx292_0⟩ := Kd.at_int (Kd.R_reads' HO_3.out).2.2 x5_1 p292 q292
         cases e292
         replace p292 := eq_true p292
         replace q292 := eq_true q292
         go_wp2_with (first | ((with_reducible refine gate_builtin (b := .append) (xs := #[.tmp 24, .tmp 29]) rfl ?_); at_builtin; refine Kd.R_append (Kd.int .i64) (w0 := w) w.heap.size rfl (.tmp 24) (.tmp 29) 32 3 (.int .i64 0) 8 rfl Try.underlying32 info3 rfl (by decide) (by omega) u4 x4_1 (rd t286 x5_1) [.int .i64 (rd t286 x5_1)] (fun k_ => some k_ ≠ (.slice (some ad292) t286.length co14 : Value).ownBlock) (fun _ => False) rfl rfl ?aP (fun _ hk => hk.elim) ?aF ?aO ?aB ?aS ?aL ?_; (case aP => exact rfl); (case aB => exact (by repeat (first | (with_reducible first | exact HB.out | apply lA | apply lN | apply lW | refine lS ?_ GE281.out) | exact HB.out))); (case aF => exact (fun k_ hk => Kd.fresh' (Kd.R_lt (by (with_reducible repeat (first | apply rA | apply rN | apply rW)); exact HO_3.out)) k_ hk)); (case aO => exact (by (with_reducible repeat (first | apply rA | apply rN | apply rW)); exact HO_4.out)); (case aS => exact (lZ (by repeat (first | (with_reducible first | exact HB.out | apply lA | apply lN | apply lW | refine lS ?_ GE281.out) | exact HB.out)))); (case aL => have := LMc18.out; omega); intro v294 w19 ho hb hg hat; rw [← Ny293.out] at ho; have n0_ := aM (Kd.R_after (ok := (fun _ => True)) (by (with_reducible repeat (first | apply rA | apply rN | apply rW)); exact Kd.R_mono HO_3.out (fun _ hk => ⟨trivial, hk⟩)) hg hat); have n1_ := aM (blk_grown (g := gb281) (o := .cells #[.int .i64 a0_0, .int .i64 a0_1, .bool true, .bool a0_3, .int .i64 a0_4, .int .i64 a0_5] 23 (0, 0)) (by (with_reducible repeat (first | refine bN ?_ _ | refine bW ?_ | refine bA ?_ _)); exact BK281.out) hg (Kd.R_ne HO_4.out BK281.out (by decide))); have n2_ := aM (hb); have n3_ := aM (ho); clear HO_3; clear BK281; clear HB; clear HO_4; have HO_3 := n0_; have BK281 := n1_; have HB := n2_; have HO295 := n3_; clear n0_ n1_ n2_ n3_; clear ho hb hg hat))
         go_roundg k1
         case measure => have := HK1.out; omega
         case rel => exact ⟨(y293), (wrap64 (x5_1 - 1)), (by first | rfl | (simp; done) | (simp [*]; done)), H', ⟨by have := HK1.out; omega⟩, ⟨by (with_reducible repeat (first | apply rA | apply rN | apply rW)); exact Kd.R_mono HO_3.out (fun _ hk => hk.2)⟩, ⟨by (with_reducible repeat (first | apply rA | apply rN | apply rW)); exact HO295.out⟩, ⟨by (with_reducible repeat (first | refine bN ?_ _ | refine bW ?_ | refine bA ?_ _)); exact BK281.out⟩, ⟨by repeat (first | (with_reducible first | exact HB.out | apply lA | apply lN | apply lW | refine lS ?_ GE281.out) | exact HB.out)⟩⟩
        ·rw [if_neg c18] at H
         exact absurd H (by simp)
       ·rw [if_neg c17] at H
        exact absurd H (by simp)
      ·rw [if_neg c16] at H
       exact absurd H (by simp)
     ·rw [if_neg c15] at H
      have c15b0 : decide (0 ≤ x5_1) = false := decide_eq_false c15
      clear c15
      obtain rfl := Option.some.inj H
      go_wp2
      go_ret
      exact ⟨_, by first | rfl | (simp [errW_none, errW_some] <;> rfl) | (simp [*, errW_none, errW_some] <;> rfl), by (with_reducible repeat (first | apply rA | apply rN | apply rW)); exact Kd.R_mono HO_4.out (fun _ hk => trivial), by repeat (first | (with_reducible first | exact HB.out | apply lA | apply lN | apply lW | refine lS ?_ GE281.out) | exact HB.out)⟩
  ·replace c5 := Bool.eq_false_iff.mpr c5
   subst c5
   have H1 : (some t286) = some r := by rw [if_neg (show ¬ (false = true) by decide)] at H; exact H
   clear H
   have H := H1
   clear H1
   obtain rfl := Option.some.inj H
   go_enter Try.func20, Try.ntmps20
   go_wp2_with (first | ((with_reducible refine gate_dst (N := 1) rfl ?_); refine box_event ?hg (N := 1) ?hd (cs := #[.int .i64 a0_0, .int .i64 a0_1, .bool false, .bool a0_3, .int .i64 a0_4, .int .i64 a0_5]) (t := 23) ?hr ?_; (case hd => rfl); (case hg => rfl); (case hr => first | (go_simp; done) | (go_simp; rfl)); intro gb281 hg w20 hbox hb; have n0_ := aM (lT (by repeat (first | (with_reducible first | exact HB.out | apply lA | apply lN | apply lW) | exact HB.out)) hb); have n1_ := aM (hbox); have n2_ := aM ((by rw [hg]; exact (lZ (by repeat (first | (with_reducible first | exact HB.out | apply lA | apply lN | apply lW) | exact HB.out))) : w.heap.size ≤ gb281)); have n3_ := aM ((by rw [hg]; exact (lZ (by repeat (first | (with_reducible first | exact HB.out | apply lA | apply lN | apply lW) | exact HB.out))) : w.heap.size ≤ gb281)); clear HB; have HB := n0_; have BK281 := n1_; have GW281 := n2_; have GE281 := n3_; clear n0_ n1_ n2_ n3_; clear hb hbox hg; have hcz21_0 : w20.cell? ⟨gb281, 0, none⟩ = some (.int .i64 a0_0) := (bC BK281.out 0).trans rfl; have hcz21_1 : w20.cell? ⟨gb281, 1, none⟩ = some (.int .i64 a0_1) := (bC BK281.out 1).trans rfl; have hcz21_2 : w20.cell? ⟨gb281, 2, none⟩ = some (.bool false) := (bC BK281.out 2).trans rfl; have hcz21_3 : w20.cell? ⟨gb281, 3, none⟩ = some (.bool a0_3) := (bC BK281.out 3).trans rfl; have hcz21_4 : w20.cell? ⟨gb281, 4, none⟩ = some (.int .i64 a0_4) := (bC BK281.out 4).trans rfl; have hcz21_5 : w20.cell? ⟨gb281, 5, none⟩ = some (.int .i64 a0_5) := (bC BK281.out 5).trans rfl; have hfz21_0 := bF BK281.out 0; have hfz21_1 := bF BK281.out 1; have hfz21_2 := bF BK281.out 2; have hfz21_3 := bF BK281.out 3; have hfz21_4 := bF BK281.out 4; have hfz21_5 := bF BK281.out 5) | ((with_reducible refine gate_callee (f := 17) rfl ?_); refine goesL_ (some 7) rfl rfl Try.func17 (by kernel_rfl) rfl #[.agg #[.int .i64 a0_0, .int .i64 a0_1, .bool false, .bool a0_3, .int .i64 a0_4, .int .i64 a0_5], .int .i64 8] rfl (by (try simp only [List.map_toArray, List.map_cons, List.map_nil]); first | done | rfl | (simp only [List.length_drop, List.length_take]; rfl)) ?_; (with_reducible refine (phaetonref15_Right.calls k a0_0 a0_1 false a0_3 a0_4 a0_5 8 true _ A2.out).mono ?_); rintro e w22 ⟨rfl, hb⟩; refine ⟨_, rfl, ?_⟩; have n0_ := aM (blk_below (g := gb281) (o := .cells #[.int .i64 a0_0, .int .i64 a0_1, .bool false, .bool a0_3, .int .i64 a0_4, .int .i64 a0_5] 23 (0, 0)) (by (with_reducible repeat (first | refine bN ?_ _ | refine bW ?_ | refine bA ?_ _)); exact BK281.out) hb); have n1_ := aM (lT (by repeat (first | (with_reducible first | exact HB.out | apply lA | apply lN | apply lW | refine lS ?_ GE281.out) | exact HB.out)) hb); clear BK281; clear HB; have BK281 := n0_; have HB := n1_; clear n0_ n1_; (try clear hb); (try clear hb2); (try clear hk); (try clear hi); have hcz23_0 : w22.cell? ⟨gb281, 0, none⟩ = some (.int .i64 a0_0) := (bC BK281.out 0).trans rfl; have hcz23_1 : w22.cell? ⟨gb281, 1, none⟩ = some (.int .i64 a0_1) := (bC BK281.out 1).trans rfl; have hcz23_2 : w22.cell? ⟨gb281, 2, none⟩ = some (.bool false) := (bC BK281.out 2).trans rfl; have hcz23_3 : w22.cell? ⟨gb281, 3, none⟩ = some (.bool a0_3) := (bC BK281.out 3).trans rfl; have hcz23_4 : w22.cell? ⟨gb281, 4, none⟩ = some (.int .i64 a0_4) := (bC BK281.out 4).trans rfl; have hcz23_5 : w22.cell? ⟨gb281, 5, none⟩ = some (.int .i64 a0_5) := (bC BK281.out 5).trans rfl; have hfz23_0 := bF BK281.out 0; have hfz23_1 := bF BK281.out 1; have hfz23_2 := bF BK281.out 2; have hfz23_3 := bF BK281.out 3; have hfz23_4 := bF BK281.out 4; have hfz23_5 := bF BK281.out 5) | ((with_reducible refine gate_callee (f := 35) rfl ?_); refine goesL_ (some 11) rfl rfl Try.func35 (by kernel_rfl) rfl #[.agg #[.int .i64 a0_0, .int .i64 a0_1, .bool false, .bool a0_3, .int .i64 a0_4, .int .i64 a0_5]] rfl (by (try simp only [List.map_toArray, List.map_cons, List.map_nil]); first | done | rfl | (simp only [List.length_drop, List.length_take]; rfl)) ?_; (with_reducible refine (phaetonref15_all.calls k a0_0 a0_1 false a0_3 a0_4 a0_5 t286 _ A4.out).mono ?_); rintro e w24 ⟨v287, rfl, ho0, hb⟩; refine ⟨_, rfl, ?_⟩; have n0_ := aM (Kd.R_lower ho0 (lZ (by repeat (first | (with_reducible first | exact HB.out | apply lA | apply lN | apply lW | refine lS ?_ GE281.out) | exact HB.out)))); have n1_ := aM (blk_below (g := gb281) (o := .cells #[.int .i64 a0_0, .int .i64 a0_1, .bool false, .bool a0_3, .int .i64 a0_4, .int .i64 a0_5] 23 (0, 0)) (by (with_reducible repeat (first | refine bN ?_ _ | refine bW ?_ | refine bA ?_ _)); exact BK281.out) hb); have n2_ := aM (lT (by repeat (first | (with_reducible first | exact HB.out | apply lA | apply lN | apply lW | refine lS ?_ GE281.out) | exact HB.out)) hb); clear BK281; clear HB; have HO288 := n0_; have BK281 := n1_; have HB := n2_; clear n0_ n1_ n2_; (try clear hb); (try clear hb2); (try clear hk); (try clear hi); (try clear ho0); have hcz25_0 : w24.cell? ⟨gb281, 0, none⟩ = some (.int .i64 a0_0) := (bC BK281.out 0).trans rfl; have hcz25_1 : w24.cell? ⟨gb281, 1, none⟩ = some (.int .i64 a0_1) := (bC BK281.out 1).trans rfl; have hcz25_2 : w24.cell? ⟨gb281, 2, none⟩ = some (.bool false) := (bC BK281.out 2).trans rfl; have hcz25_3 : w24.cell? ⟨gb281, 3, none⟩ = some (.bool a0_3) := (bC BK281.out 3).trans rfl; have hcz25_4 : w24.cell? ⟨gb281, 4, none⟩ = some (.int .i64 a0_4) := (bC BK281.out 4).trans rfl; have hcz25_5 : w24.cell? ⟨gb281, 5, none⟩ = some (.int .i64 a0_5) := (bC BK281.out 5).trans rfl; have hfz25_0 := bF BK281.out 0; have hfz25_1 := bF BK281.out 1; have hfz25_2 := bF BK281.out 2; have hfz25_3 := bF BK281.out 3; have hfz25_4 := bF BK281.out 4; have hfz25_5 := bF BK281.out 5))
   go_ret
   exact ⟨_, by first | rfl | (simp [errW_none, errW_some] <;> rfl) | (simp [*, errW_none, errW_some] <;> rfl), by (with_reducible repeat (first | apply rA | apply rN | apply rW)); exact HO288.out, by repeat (first | (with_reducible first | exact HB.out | apply lA | apply lN | apply lW | refine lS ?_ GE281.out) | exact HB.out)⟩
 ·replace c3 := Bool.eq_false_iff.mpr c3
  subst c3
  have H1 : (some (([] : List Int))) = some r := by rw [if_neg (show ¬ (false = true) by decide)] at H; exact H
  clear H
  have H := H1
  clear H1
  obtain ⟨y283, hy283⟩ : ∃ y_ : List Int, y_ = (([] : List Int)) := ⟨_, rfl⟩
  replace H : (some y283) = some r := by first | (rw [hy283]; with_reducible exact H) | (have H2_ := (Option.bind_some _ _).symm.trans H; rw [hy283]; with_reducible exact H2_) | (have H2_ := (Option.bind_some _ _).symm.trans H; with_reducible exact H2_) | with_reducible exact H | (rw [hy283]; exact H) | exact H
  have Ny283 := aM hy283
  clear hy283
  obtain rfl := Option.some.inj H
  go_enter Try.func20, Try.ntmps20
  go_wp2_with (first | ((with_reducible refine gate_dst (N := 1) rfl ?_); refine box_event ?hg (N := 1) ?hd (cs := #[.int .i64 a0_0, .int .i64 a0_1, .bool a0_2, .bool a0_3, .int .i64 a0_4, .int .i64 a0_5]) (t := 23) ?hr ?_; (case hd => rfl); (case hg => rfl); (case hr => first | (go_simp; done) | (go_simp; rfl)); intro gb281 hg w26 hbox hb; have n0_ := aM (lT (by repeat (first | (with_reducible first | exact HB.out | apply lA | apply lN | apply lW) | exact HB.out)) hb); have n1_ := aM (hbox); have n2_ := aM ((by rw [hg]; exact (lZ (by repeat (first | (with_reducible first | exact HB.out | apply lA | apply lN | apply lW) | exact HB.out))) : w.heap.size ≤ gb281)); have n3_ := aM ((by rw [hg]; exact (lZ (by repeat (first | (with_reducible first | exact HB.out | apply lA | apply lN | apply lW) | exact HB.out))) : w.heap.size ≤ gb281)); clear HB; have HB := n0_; have BK281 := n1_; have GW281 := n2_; have GE281 := n3_; clear n0_ n1_ n2_ n3_; clear hb hbox hg; have hcz27_0 : w26.cell? ⟨gb281, 0, none⟩ = some (.int .i64 a0_0) := (bC BK281.out 0).trans rfl; have hcz27_1 : w26.cell? ⟨gb281, 1, none⟩ = some (.int .i64 a0_1) := (bC BK281.out 1).trans rfl; have hcz27_2 : w26.cell? ⟨gb281, 2, none⟩ = some (.bool a0_2) := (bC BK281.out 2).trans rfl; have hcz27_3 : w26.cell? ⟨gb281, 3, none⟩ = some (.bool a0_3) := (bC BK281.out 3).trans rfl; have hcz27_4 : w26.cell? ⟨gb281, 4, none⟩ = some (.int .i64 a0_4) := (bC BK281.out 4).trans rfl; have hcz27_5 : w26.cell? ⟨gb281, 5, none⟩ = some (.int .i64 a0_5) := (bC BK281.out 5).trans rfl; have hfz27_0 := bF BK281.out 0; have hfz27_1 := bF BK281.out 1; have hfz27_2 := bF BK281.out 2; have hfz27_3 := bF BK281.out 3; have hfz27_4 := bF BK281.out 4; have hfz27_5 := bF BK281.out 5) | ((with_reducible refine gate_callee (f := 17) rfl ?_); refine goesL_ (some 7) rfl rfl Try.func17 (by kernel_rfl) rfl #[.agg #[.int .i64 a0_0, .int .i64 a0_1, .bool a0_2, .bool a0_3, .int .i64 a0_4, .int .i64 a0_5], .int .i64 8] rfl (by (try simp only [List.map_toArray, List.map_cons, List.map_nil]); first | done | rfl | (simp only [List.length_drop, List.length_take]; rfl)) ?_; (with_reducible refine (phaetonref15_Right.calls k a0_0 a0_1 a0_2 a0_3 a0_4 a0_5 8 false _ A2.out).mono ?_); rintro e w28 ⟨rfl, hb⟩; refine ⟨_, rfl, ?_⟩; have n0_ := aM (blk_below (g := gb281) (o := .cells #[.int .i64 a0_0, .int .i64 a0_1, .bool a0_2, .bool a0_3, .int .i64 a0_4, .int .i64 a0_5] 23 (0, 0)) (by (with_reducible repeat (first | refine bN ?_ _ | refine bW ?_ | refine bA ?_ _)); exact BK281.out) hb); have n1_ := aM (lT (by repeat (first | (with_reducible first | exact HB.out | apply lA | apply lN | apply lW | refine lS ?_ GE281.out) | exact HB.out)) hb); clear BK281; clear HB; have BK281 := n0_; have HB := n1_; clear n0_ n1_; (try clear hb); (try clear hb2); (try clear hk); (try clear hi)) | ((with_reducible refine gate_dst (N := 9) rfl ?_); refine Kd.R_lit (Kd.int .i64) _ 3 ?hg (N := 9) ?hd (xs := ([] : List Int)) (inner := []) (ok := fun _ => True) (okp := fun _ => True) ?hr ?hp (fun _ hk => hk) trivial (Below.refl _ _) (Nat.le_refl _) (by simp) ?_; (case hd => rfl); (case hg => rfl); (case hr => first | (go_simp; done) | (go_simp; rfl)); (case hp => exact (Reps.none _ _)); intro v284 w29 ho30 hb hg_ hnew_; clear hg_ hnew_; (first | rw [← Ny283.out] at ho30 | (simp only [Int.reduceToNat] at ho30; rw [← Ny283.out] at ho30)); have n0_ := aM (Kd.R_lower ho30 (lZ (by repeat (first | (with_reducible first | exact HB.out | apply lA | apply lN | apply lW | refine lS ?_ GE281.out) | exact HB.out)))); have n1_ := aM (blk_below (g := gb281) (o := .cells #[.int .i64 a0_0, .int .i64 a0_1, .bool a0_2, .bool a0_3, .int .i64 a0_4, .int .i64 a0_5] 23 (0, 0)) (by (with_reducible repeat (first | refine bN ?_ _ | refine bW ?_ | refine bA ?_ _)); exact BK281.out) hb); have n2_ := aM (lT (by repeat (first | (with_reducible first | exact HB.out | apply lA | apply lN | apply lW | refine lS ?_ GE281.out) | exact HB.out)) hb); clear BK281; clear HB; have HO285 := n0_; have BK281 := n1_; have HB := n2_; clear n0_ n1_ n2_; clear hb ho30))
  go_ret
  exact ⟨_, by first | rfl | (simp [errW_none, errW_some] <;> rfl) | (simp [*, errW_none, errW_some] <;> rfl), by (with_reducible repeat (first | apply rA | apply rN | apply rW)); exact HO285.out, by repeat (first | (with_reducible first | exact HB.out | apply lA | apply lN | apply lW | refine lS ?_ GE281.out) | exact HB.out)⟩

end Go.Proofs.Ytcgkkjimonfhbaa.P

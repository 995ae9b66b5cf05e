/- Go functions that the laws of this seat reach, each as a Lean function, and a proof that a call of the Go code comes to its answers; written by a program (the kit's print, turned in a few places). Conditions: each theorem's own premises. -/
import Derived.Test.YtpcabeefahldlaaPx0
import Derived.Test.YtpcabeefahldlaaPx7
namespace Go.Proofs.Ytpcabeefahldlaa.P
open Go.RowKit Go.Proofs.YtpcabeefahldlaaW.PrintWords Go.Proofs.YtpcabeefahldlaaW.PrintLast Go.Proofs.YtpcabeefahldlaaW.PrintMore
attribute [local go_sem] max2_int min2_int max_two min_two max_three min_three max_four min_four   -- for this text's walks alone
set_option linter.unusedVariables false
set_option linter.unusedSimpArgs false

/-! ### phaetonref12_On: function 27 -/
mutual
def phaetonref12_On.l0 : Nat → List (S45) → List Int → List Int → Int → Option (List Int)
  | 0, _, _, _, _ => none
  | k + 1, x0, x1, x5, x6 => if x6 < 4 then (phaetonref12_On.l1 k x0 x1 x5 x6 false 0) else (some x5)
def phaetonref12_On.l1 : Nat → List (S45) → List Int → List Int → Int → Bool → Int → Option (List Int)
  | 0, _, _, _, _, _, _ => none
  | k + 1, x0, x1, x5, x6, x7, x8 => if x8 < (x0.length : Int) then (if x7 = true then (phaetonref12_On.l1 k x0 x1 x5 x6 true (wrap64 (x8 + 1))) else (if 0 ≤ x8 then (if ((rd_T45 x0 x8).f1) = x6 then ((phaetonref12_In.f k x1 ((rd_T45 x0 x8).f0)).bind fun t197 => (phaetonref12_On.l1 k x0 x1 x5 x6 t197 (wrap64 (x8 + 1)))) else (phaetonref12_On.l1 k x0 x1 x5 x6 false (wrap64 (x8 + 1)))) else (none))) else (if x7 = true then (if x5.length < 17592186044416 then (phaetonref12_On.l0 k x0 x1 (x5 ++ [x6]) (wrap64 (x6 + 1))) else (none)) else (phaetonref12_On.l0 k x0 x1 x5 (wrap64 (x6 + 1))))
end
def phaetonref12_On.f (k : Nat) (l0 : List (S45)) (l1 : List Int) : Option (List Int) := phaetonref12_On.l0 k l0 l1 (([] : List Int)) 0
theorem phaetonref12_On.mono_l : ∀ k, (∀ y0 y1 y2 y3, LeO (phaetonref12_On.l0 k y0 y1 y2 y3) (phaetonref12_On.l0 (k + 1) y0 y1 y2 y3)) ∧ (∀ y0 y1 y2 y3 y4 y5, LeO (phaetonref12_On.l1 k y0 y1 y2 y3 y4 y5) (phaetonref12_On.l1 (k + 1) y0 y1 y2 y3 y4 y5))
  | 0 => ⟨fun _ _ _ _ r h => by simp [phaetonref12_On.l0] at h, fun _ _ _ _ _ _ r h => by simp [phaetonref12_On.l1] at h⟩
  | k + 1 => by
    obtain ⟨ih0, ih1⟩ := phaetonref12_On.mono_l k
    refine ⟨?_, ?_⟩
    · intro y0 y1 y2 y3
      unfold phaetonref12_On.l0
      repeat' first
      | (with_reducible exact ih0 _ _ _ _)
      | (with_reducible exact ih1 _ _ _ _ _ _)
      | (with_reducible exact phaetonref12_In.mono _ _ _)
      | (with_reducible exact LeO.refl _)
      | (with_reducible exact LeO.none _)
      | (with_reducible refine LeO.ite ?_ ?_)
      | (with_reducible refine LeO.bind ?_ (fun _ => ?_))
      | exact ih0 _ _ _ _
      | exact ih1 _ _ _ _ _ _
      | exact phaetonref12_In.mono _ _ _
      | exact LeO.none _
      | refine LeO.ite ?_ ?_
      | refine LeO.bind ?_ (fun _ => ?_)
    · intro y0 y1 y2 y3 y4 y5
      unfold phaetonref12_On.l1
      repeat' first
      | (with_reducible exact ih0 _ _ _ _)
      | (with_reducible exact ih1 _ _ _ _ _ _)
      | (with_reducible exact phaetonref12_In.mono _ _ _)
      | (with_reducible exact LeO.refl _)
      | (with_reducible exact LeO.none _)
      | (with_reducible refine LeO.ite ?_ ?_)
      | (with_reducible refine LeO.bind ?_ (fun _ => ?_))
      | exact ih0 _ _ _ _
      | exact ih1 _ _ _ _ _ _
      | exact phaetonref12_In.mono _ _ _
      | exact LeO.none _
      | refine LeO.ite ?_ ?_
      | refine LeO.bind ?_ (fun _ => ?_)
theorem phaetonref12_On.mono : ∀ a0 a1 k, LeO (phaetonref12_On.f k a0 a1) (phaetonref12_On.f (k + 1) a0 a1) := by
  intro a0 a1 k
  obtain ⟨ih0, ih1⟩ := phaetonref12_On.mono_l k
  unfold phaetonref12_On.f
  repeat' first
      | (with_reducible exact ih0 _ _ _ _)
      | (with_reducible exact ih1 _ _ _ _ _ _)
      | (with_reducible exact phaetonref12_In.mono _ _ _)
      | (with_reducible exact LeO.refl _)
      | (with_reducible exact LeO.none _)
      | (with_reducible refine LeO.ite ?_ ?_)
      | (with_reducible refine LeO.bind ?_ (fun _ => ?_))
      | exact ih0 _ _ _ _
      | exact ih1 _ _ _ _ _ _
      | exact phaetonref12_In.mono _ _ _
      | exact LeO.none _
      | refine LeO.ite ?_ ?_
      | refine LeO.bind ?_ (fun _ => ?_)
set_option maxHeartbeats 8000000 in
set_option maxRecDepth 100000 in
theorem phaetonref12_On.calls (k : Nat) (A0 : Option Addr) (c0 : Nat) (l0 : List (S45)) (A1 : Option Addr) (c1 : Nat) (l1 : List Int) (r : List Int) (w : World) (hr0 : Kd.C k45 w A0 l0.length l0) (hc0 : l0.length ≤ c0) (hr1 : Kd.C (Kd.int .i64) w A1 l1.length l1) (hc1 : l1.length ≤ c1) (h : phaetonref12_On.f k l0 l1 = some r) :
    Calls Try.prog 27 #[.slice A0 l0.length c0, .slice A1 l1.length c1] w fun e w' => ∃ v0_ : Value, e = .returned (v0_) ∧ Kd.R (Kd.int .i64) 3 w' w.heap.size (fun _ => True) v0_ r ∧ Below w.heap.size w w' := by
  have HR0 := Aside0.mk hr0
  have HC0 := Aside0.mk hc0
  clear hr0 hc0
  have HR1 := Aside0.mk hr1
  have HC1 := Aside0.mk hc1
  clear hr1 hc1
  have HB := Aside0.mk (Below.refl w.heap.size w)
  have H : (phaetonref12_On.l0 k l0 l1 (([] : List Int)) 0) = some r := h
  clear h
  obtain ⟨y192, hy192⟩ : ∃ y_ : List Int, y_ = (([] : List Int)) := ⟨_, rfl⟩
  replace H : (phaetonref12_On.l0 k l0 l1 y192 0) = some r := by first | (rw [hy192]; with_reducible exact H) | (have H2_ := (Option.bind_some _ _).symm.trans H; rw [hy192]; with_reducible exact H2_) | (have H2_ := (Option.bind_some _ _).symm.trans H; with_reducible exact H2_) | with_reducible exact H | (rw [hy192]; exact H) | exact H
  have Ny192 := Aside0.mk hy192
  clear hy192
  have H' := Aside0.mk H
  clear H
  go_enter Try.func27, Try.ntmps27
  go_wp2_with (first | ((with_reducible refine gate_dst (N := 9) rfl ?_); refine Kd.R_lit (Kd.int .i64) _ 3 ?hg (N := 9) ?hd (xs := ([] : List Int)) (inner := []) (ok := fun _ => True) (okp := fun _ => True) ?hr ?hp (fun _ hk => hk) trivial (Below.refl _ _) (Nat.le_refl _) (by simp) ?_; (case hd => rfl); (case hg => rfl); (case hr => first | (go_simp; done) | (go_simp; rfl)); (case hp => exact (Reps.none _ _)); intro v193 w3 ho4 hb hg_ hnew_; clear hg_ hnew_; (first | rw [← Ny192.out] at ho4 | (simp only [Int.reduceToNat] at ho4; rw [← Ny192.out] at ho4)); have n0_ := Aside0.mk (Kd.R_lower ho4 (below_size (by repeat (first | (with_reducible first | exact HB.out | apply below_alloc | apply pw_below_drewN | apply below_drew1) | exact HB.out)))); have n1_ := Aside0.mk (below_step (by repeat (first | (with_reducible first | exact HB.out | apply below_alloc | apply pw_below_drewN | apply below_drew1) | exact HB.out)) hb); clear HB; have HO194 := n0_; have HB := n1_; clear n0_ n1_; clear hb ho4))
  go_loopg [5, 6] k (fun kq v5 v6 w' => ∃ (x5_1 : List Int) (x6_1 : Int), v6 = .int .i64 x6_1 ∧ Aside0 (phaetonref12_On.l0 kq l0 l1 x5_1 x6_1 = some r) ∧ Aside0 (kq ≤ k) ∧ Aside0 (Kd.R (Kd.int .i64) 3 w' w.heap.size (fun _ => True) v5 x5_1) ∧ Aside0 (Below w.heap.size w w'))
  case atStart => exact ⟨(y192), (0), (by first | rfl | (simp; done) | (simp [*]; done)), H', ⟨Nat.le_refl _⟩, ⟨by (with_reducible repeat (first | apply Kd.R_alloc | apply Kd.R_drewN | apply Kd.R_drew)); exact HO194.out⟩, ⟨by repeat (first | (with_reducible first | exact HB.out | apply below_alloc | apply pw_below_drewN | apply below_drew1) | exact HB.out)⟩⟩
  case round =>
    clear H'
    try clear c1
    try clear c2
    try clear p2
    obtain ⟨x5_1, x6_1, rfl, HA, HK1, HO_5, HB⟩ := hrel
    cases gk with
    | zero => exact absurd HA.out (by simp [phaetonref12_On.l0])
    | succ k1 =>
      have H := HA.out
      clear HA
      simp only [phaetonref12_On.l0] at H
      by_cases c5 : x6_1 < 4
      · rw [if_pos c5] at H
        have c5b0 : decide (x6_1 < 4) = true := decide_eq_true c5
        clear c5
        have H' := Aside0.mk H
        clear H
        go_wp2
        go_loopg [7, 8] k1 (fun kq v7 v8 w' => ∃ (x7_2 : Bool) (x8_2 : Int), v7 = .bool x7_2 ∧ v8 = .int .i64 x8_2 ∧ Aside0 (phaetonref12_On.l1 kq l0 l1 x5_1 x6_1 x7_2 x8_2 = some r) ∧ Aside0 (kq ≤ k1) ∧ Aside0 (Kd.R (Kd.int .i64) 3 w' w.heap.size (fun _ => True) u5 x5_1) ∧ Aside0 (Below w.heap.size w w'))
        case atStart => exact ⟨(false), (0), (by first | rfl | (simp; done) | (simp [*]; done)), (by first | rfl | (simp; done) | (simp [*]; done)), H', ⟨Nat.le_refl _⟩, ⟨by (with_reducible repeat (first | apply Kd.R_alloc | apply Kd.R_drewN | apply Kd.R_drew)); exact HO_5.out⟩, ⟨by repeat (first | (with_reducible first | exact HB.out | apply below_alloc | apply pw_below_drewN | apply below_drew1) | exact HB.out)⟩⟩
        case round =>
          clear H'
          try clear c1
          try clear c2
          try clear p2
          try clear c5
          try clear c5b0
          try clear p2
          obtain ⟨x7_2, x8_2, rfl, rfl, HA, HK2, HO_5, HB⟩ := hrel
          cases gk with
          | zero => exact absurd HA.out (by simp [phaetonref12_On.l1])
          | succ k2 =>
            have H := HA.out
            clear HA
            simp only [phaetonref12_On.l1] at H
            by_cases c6 : x8_2 < (l0.length : Int)
            · rw [if_pos c6] at H
              have c6b0 : decide (x8_2 < (l0.length : Int)) = true := decide_eq_true c6
              clear c6
              by_cases c7 : x7_2 = true
              · subst c7
                have H1 : (phaetonref12_On.l1 k2 l0 l1 x5_1 x6_1 true (wrap64 (x8_2 + 1))) = some r := by rw [if_pos rfl] at H; exact H
                clear H
                have H := H1
                clear H1
                have H' := Aside0.mk H
                clear H
                go_wp2
                go_roundg k2
                case measure => have := HK1.out; have := HK2.out; omega
                case rel => exact ⟨(true), (wrap64 (x8_2 + 1)), (by first | rfl | (simp; done) | (simp [*]; done)), (by first | rfl | (simp; done) | (simp [*]; done)), H', ⟨by have := HK1.out; have := HK2.out; omega⟩, ⟨by (with_reducible repeat (first | apply Kd.R_alloc | apply Kd.R_drewN | apply Kd.R_drew)); exact HO_5.out⟩, ⟨by repeat (first | (with_reducible first | exact HB.out | apply below_alloc | apply pw_below_drewN | apply below_drew1) | exact HB.out)⟩⟩
              · replace c7 := Bool.eq_false_iff.mpr c7
                subst c7
                have H1 : (if 0 ≤ x8_2 then (if ((rd_T45 l0 x8_2).f1) = x6_1 then ((phaetonref12_In.f k2 l1 ((rd_T45 l0 x8_2).f0)).bind fun t197 => (phaetonref12_On.l1 k2 l0 l1 x5_1 x6_1 t197 (wrap64 (x8_2 + 1)))) else (phaetonref12_On.l1 k2 l0 l1 x5_1 x6_1 false (wrap64 (x8_2 + 1)))) else (none)) = some r := by rw [if_neg (show ¬ (false = true) by decide)] at H; exact H
                clear H
                have H := H1
                clear H1
                by_cases c8 : 0 ≤ x8_2
                · rw [if_pos c8] at H
                  have c8b0 : decide (0 ≤ x8_2) = true := decide_eq_true c8
                  clear c8
                  by_cases c9 : ((rd_T45 l0 x8_2).f1) = x6_1
                  · rw [if_pos c9] at H
                    have c9b0 : (((rd_T45 l0 x8_2).f1) == x6_1) = true := beq_iff_eq.mpr c9
                    have c9b1 : (((rd_T45 l0 x8_2).f1) != x6_1) = false := bne_eq_false_iff_eq.mpr c9
                    clear c9
                    replace H := Option.bind_eq_some_iff.mp H
                    obtain ⟨t197, A100, H⟩ := H
                    replace H : (phaetonref12_On.l1 k2 l0 l1 x5_1 x6_1 t197 (wrap64 (x8_2 + 1))) = some r := H
                    have A10 := Aside0.mk A100
                    clear A100
                    have H' := Aside0.mk H
                    clear H
                    have p195 : 0 ≤ (x8_2 : Int) := of_decide_eq_true (by first | (with_reducible assumption) | assumption)
                    have q195 : x8_2 < (l0.length : Int) := of_decide_eq_true (by first | (with_reducible assumption) | assumption)
                    obtain ⟨ad195, e195, hx195_0, hx195_1, hx195_2, hx195_3, hx195_4, hx195_5⟩ := at_T45 HR0.out x8_2 p195 q195
                    cases e195
                    replace hx195_0 := (HB.out.cell (World.block_lt_of_cell? w _ hx195_0)).trans hx195_0
                    replace hx195_1 := (HB.out.cell (World.block_lt_of_cell? w _ hx195_1)).trans hx195_1
                    replace hx195_2 := (HB.out.cell (World.block_lt_of_cell? w _ hx195_2)).trans hx195_2
                    replace hx195_3 := (HB.out.cell (World.block_lt_of_cell? w _ hx195_3)).trans hx195_3
                    replace hx195_4 := (HB.out.cell (World.block_lt_of_cell? w _ hx195_4)).trans hx195_4
                    replace hx195_5 := (HB.out.cell (World.block_lt_of_cell? w _ hx195_5)).trans hx195_5
                    replace p195 := eq_true p195
                    replace q195 := eq_true q195
                    have p196 : 0 ≤ (x8_2 : Int) := of_decide_eq_true (by first | (with_reducible assumption) | assumption)
                    have q196 : x8_2 < (l0.length : Int) := of_decide_eq_true (by first | (with_reducible assumption) | assumption)
                    obtain ⟨ad196, e196, hx196_0, hx196_1, hx196_2, hx196_3, hx196_4, hx196_5⟩ := at_T45 HR0.out x8_2 p196 q196
                    obtain rfl : ad195 = ad196 := (by injection e196)
                    replace hx196_0 := (HB.out.cell (World.block_lt_of_cell? w _ hx196_0)).trans hx196_0
                    replace hx196_1 := (HB.out.cell (World.block_lt_of_cell? w _ hx196_1)).trans hx196_1
                    replace hx196_2 := (HB.out.cell (World.block_lt_of_cell? w _ hx196_2)).trans hx196_2
                    replace hx196_3 := (HB.out.cell (World.block_lt_of_cell? w _ hx196_3)).trans hx196_3
                    replace hx196_4 := (HB.out.cell (World.block_lt_of_cell? w _ hx196_4)).trans hx196_4
                    replace hx196_5 := (HB.out.cell (World.block_lt_of_cell? w _ hx196_5)).trans hx196_5
                    replace p196 := eq_true p196
                    replace q196 := eq_true q196
                    go_wp2_with (first | (go_at_call 28; (with_reducible refine (phaetonref12_In.calls k2 _ _ l1 ((rd_T45 l0 x8_2).f0) t197 _ ?side1 ?side2 A10.out).mono ?_); (case side1 => repeat (first | exact (Kd.C_below HR1.out HB.out) | (with_reducible refine Kd.C_alloc ?_ _) | (with_reducible refine Kd.C_drewN ?_ _) | (with_reducible refine Kd.C_drew ?_))); (case side2 => exact HC1.out); rintro e w' ⟨rfl, ⟨nd, rfl⟩⟩))
                    go_roundg k2
                    case measure => have := HK1.out; have := HK2.out; omega
                    case rel => exact ⟨(t197), (wrap64 (x8_2 + 1)), (by first | rfl | (simp; done) | (simp [*]; done)), (by first | rfl | (simp; done) | (simp [*]; done)), H', ⟨by have := HK1.out; have := HK2.out; omega⟩, ⟨by (with_reducible repeat (first | apply Kd.R_alloc | apply Kd.R_drewN | apply Kd.R_drew)); exact HO_5.out⟩, ⟨by repeat (first | (with_reducible first | exact HB.out | apply below_alloc | apply pw_below_drewN | apply below_drew1) | exact HB.out)⟩⟩
                  · rw [if_neg c9] at H
                    have c9b0 : (((rd_T45 l0 x8_2).f1) == x6_1) = false := beq_eq_false_iff_ne.mpr c9
                    have c9b1 : (((rd_T45 l0 x8_2).f1) != x6_1) = true := bne_iff_ne.mpr c9
                    have H' := Aside0.mk H
                    clear H
                    have p195 : 0 ≤ (x8_2 : Int) := of_decide_eq_true (by first | (with_reducible assumption) | assumption)
                    have q195 : x8_2 < (l0.length : Int) := of_decide_eq_true (by first | (with_reducible assumption) | assumption)
                    obtain ⟨ad195, e195, hx195_0, hx195_1, hx195_2, hx195_3, hx195_4, hx195_5⟩ := at_T45 HR0.out x8_2 p195 q195
                    cases e195
                    replace hx195_0 := (HB.out.cell (World.block_lt_of_cell? w _ hx195_0)).trans hx195_0
                    replace hx195_1 := (HB.out.cell (World.block_lt_of_cell? w _ hx195_1)).trans hx195_1
                    replace hx195_2 := (HB.out.cell (World.block_lt_of_cell? w _ hx195_2)).trans hx195_2
                    replace hx195_3 := (HB.out.cell (World.block_lt_of_cell? w _ hx195_3)).trans hx195_3
                    replace hx195_4 := (HB.out.cell (World.block_lt_of_cell? w _ hx195_4)).trans hx195_4
                    replace hx195_5 := (HB.out.cell (World.block_lt_of_cell? w _ hx195_5)).trans hx195_5
                    replace p195 := eq_true p195
                    replace q195 := eq_true q195
                    go_wp2
                    go_roundg k2
                    case measure => have := HK1.out; have := HK2.out; omega
                    case rel => exact ⟨(false), (wrap64 (x8_2 + 1)), (by first | rfl | (simp; done) | (simp [*]; done)), (by first | rfl | (simp; done) | (simp [*]; done)), H', ⟨by have := HK1.out; have := HK2.out; omega⟩, ⟨by (with_reducible repeat (first | apply Kd.R_alloc | apply Kd.R_drewN | apply Kd.R_drew)); exact HO_5.out⟩, ⟨by repeat (first | (with_reducible first | exact HB.out | apply below_alloc | apply pw_below_drewN | apply below_drew1) | exact HB.out)⟩⟩
                · rw [if_neg c8] at H
                  exact absurd H (by simp)
            · rw [if_neg c6] at H
              have c6b0 : decide (x8_2 < (l0.length : Int)) = false := decide_eq_false c6
              clear c6
              by_cases c11 : x7_2 = true
              · subst c11
                have H1 : (if x5_1.length < 17592186044416 then (phaetonref12_On.l0 k2 l0 l1 (x5_1 ++ [x6_1]) (wrap64 (x6_1 + 1))) else (none)) = some r := by rw [if_pos rfl] at H; exact H
                clear H
                have H := H1
                clear H1
                by_cases c12 : x5_1.length < 17592186044416
                · rw [if_pos c12] at H
                  have LMc12 := Aside0.mk c12
                  clear c12
                  obtain ⟨y198, hy198⟩ : ∃ y_ : List Int, y_ = (x5_1 ++ [x6_1]) := ⟨_, rfl⟩
                  replace H : (phaetonref12_On.l0 k2 l0 l1 y198 (wrap64 (x6_1 + 1))) = some r := by first | (rw [hy198]; with_reducible exact H) | (have H2_ := (Option.bind_some _ _).symm.trans H; rw [hy198]; with_reducible exact H2_) | (have H2_ := (Option.bind_some _ _).symm.trans H; with_reducible exact H2_) | with_reducible exact H | (rw [hy198]; exact H) | exact H
                  have Ny198 := Aside0.mk hy198
                  clear hy198
                  have H' := Aside0.mk H
                  clear H
                  go_wp2_with (first | ((with_reducible refine gate_builtin (b := .append) (xs := #[.tmp 40, .tmp 42]) rfl ?_); at_builtin; refine Kd.R_append (Kd.int .i64) (w0 := w) w.heap.size rfl (.tmp 40) (.tmp 42) 41 3 (.int .i64 0) 8 rfl Try.underlying41 info3 rfl (by decide) (by omega) u5 x5_1 x6_1 [.int .i64 x6_1] (fun _ => True) (fun _ => False) rfl (by first | rfl | (go_simp; done) | (go_simp; rfl)) ?aP (fun _ hk => hk.elim) ?aF ?aO ?aB ?aS ?aL ?_; (case aP => exact rfl); (case aB => exact (by repeat (first | (with_reducible first | exact HB.out | apply below_alloc | apply pw_below_drewN | apply below_drew1) | exact HB.out))); (case aF => exact (fun _ _ => trivial)); (case aO => exact (by (with_reducible repeat (first | apply Kd.R_alloc | apply Kd.R_drewN | apply Kd.R_drew)); exact HO_5.out)); (case aS => exact (below_size (by repeat (first | (with_reducible first | exact HB.out | apply below_alloc | apply pw_below_drewN | apply below_drew1) | exact HB.out)))); (case aL => have := LMc12.out; omega); intro v199 w13 ho hb hg hat; rw [← Ny198.out] at ho; have n0_ := Aside0.mk (hb); have n1_ := Aside0.mk (ho); clear HB; clear HO_5; have HB := n0_; have HO200 := n1_; clear n0_ n1_; clear ho hb hg hat))
                  go_roundg k2
                  case measure => have := HK1.out; have := HK2.out; omega
                  case rel => exact ⟨(y198), (wrap64 (x6_1 + 1)), (by first | rfl | (simp; done) | (simp [*]; done)), H', ⟨by have := HK1.out; have := HK2.out; omega⟩, ⟨by (with_reducible repeat (first | apply Kd.R_alloc | apply Kd.R_drewN | apply Kd.R_drew)); exact HO200.out⟩, ⟨by repeat (first | (with_reducible first | exact HB.out | apply below_alloc | apply pw_below_drewN | apply below_drew1) | exact HB.out)⟩⟩
                · rw [if_neg c12] at H
                  exact absurd H (by simp)
              · replace c11 := Bool.eq_false_iff.mpr c11
                subst c11
                have H1 : (phaetonref12_On.l0 k2 l0 l1 x5_1 (wrap64 (x6_1 + 1))) = some r := by rw [if_neg (show ¬ (false = true) by decide)] at H; exact H
                clear H
                have H := H1
                clear H1
                have H' := Aside0.mk H
                clear H
                go_wp2
                go_roundg k2
                case measure => have := HK1.out; have := HK2.out; omega
                case rel => exact ⟨(x5_1), (wrap64 (x6_1 + 1)), (by first | rfl | (simp; done) | (simp [*]; done)), H', ⟨by have := HK1.out; have := HK2.out; omega⟩, ⟨by (with_reducible repeat (first | apply Kd.R_alloc | apply Kd.R_drewN | apply Kd.R_drew)); exact HO_5.out⟩, ⟨by repeat (first | (with_reducible first | exact HB.out | apply below_alloc | apply pw_below_drewN | apply below_drew1) | exact HB.out)⟩⟩
      · rw [if_neg c5] at H
        have c5b0 : decide (x6_1 < 4) = false := decide_eq_false c5
        clear c5
        obtain rfl := Option.some.inj H
        go_wp2
        go_ret
        exact ⟨_, by first | rfl | (simp [errW_none, errW_some] <;> rfl) | (simp [*, errW_none, errW_some] <;> rfl), by (with_reducible repeat (first | apply Kd.R_alloc | apply Kd.R_drewN | apply Kd.R_drew)); exact HO_5.out, by repeat (first | (with_reducible first | exact HB.out | apply below_alloc | apply pw_below_drewN | apply below_drew1) | exact HB.out)⟩

/-! ### phaetonref12_Loopless: function 15 -/
mutual
def phaetonref12_Loopless.l0 : Nat → List (S45) → Int → Int → Option (Bool)
  | 0, _, _, _ => none
  | k + 1, x0, x1, x5 => if x5 < x1 then (phaetonref12_Loopless.l1 k x0 x1 x5 (([x5] : List Int)) 0) else (some true)
def phaetonref12_Loopless.l1 : Nat → List (S45) → Int → Int → List Int → Int → Option (Bool)
  | 0, _, _, _, _, _ => none
  | k + 1, x0, x1, x5, x6, x7 => if x7 < x1 then ((phaetonref12_On.f k x0 x6).bind fun t205 => ((phaetonref12_In.f k t205 x5).bind fun t208 => (if t208 = true then (some false) else (phaetonref12_Loopless.l1 k x0 x1 x5 t205 (wrap64 (x7 + 1)))))) else (phaetonref12_Loopless.l0 k x0 x1 (wrap64 (x5 + 1)))
end
def phaetonref12_Loopless.f (k : Nat) (l0 : List (S45)) (a1 : Int) : Option (Bool) := (phaetonref12_Right.f k l0 a1).bind fun t201 => (if t201 = true then (phaetonref12_Loopless.l0 k l0 a1 0) else (some false))
theorem phaetonref12_Loopless.mono_l : ∀ k, (∀ y0 y1 y2, LeO (phaetonref12_Loopless.l0 k y0 y1 y2) (phaetonref12_Loopless.l0 (k + 1) y0 y1 y2)) ∧ (∀ y0 y1 y2 y3 y4, LeO (phaetonref12_Loopless.l1 k y0 y1 y2 y3 y4) (phaetonref12_Loopless.l1 (k + 1) y0 y1 y2 y3 y4))
  | 0 => ⟨fun _ _ _ r h => by simp [phaetonref12_Loopless.l0] at h, fun _ _ _ _ _ r h => by simp [phaetonref12_Loopless.l1] at h⟩
  | k + 1 => by
    obtain ⟨ih0, ih1⟩ := phaetonref12_Loopless.mono_l k
    refine ⟨?_, ?_⟩
    · intro y0 y1 y2
      unfold phaetonref12_Loopless.l0
      repeat' first
      | (with_reducible exact ih0 _ _ _)
      | (with_reducible exact ih1 _ _ _ _ _)
      | (with_reducible exact phaetonref12_In.mono _ _ _)
      | (with_reducible exact phaetonref12_On.mono _ _ _)
      | (with_reducible exact phaetonref12_Right.mono _ _ _)
      | (with_reducible exact LeO.refl _)
      | (with_reducible exact LeO.none _)
      | (with_reducible refine LeO.ite ?_ ?_)
      | (with_reducible refine LeO.bind ?_ (fun _ => ?_))
      | exact ih0 _ _ _
      | exact ih1 _ _ _ _ _
      | exact phaetonref12_In.mono _ _ _
      | exact phaetonref12_On.mono _ _ _
      | exact phaetonref12_Right.mono _ _ _
      | exact LeO.none _
      | refine LeO.ite ?_ ?_
      | refine LeO.bind ?_ (fun _ => ?_)
    · intro y0 y1 y2 y3 y4
      unfold phaetonref12_Loopless.l1
      repeat' first
      | (with_reducible exact ih0 _ _ _)
      | (with_reducible exact ih1 _ _ _ _ _)
      | (with_reducible exact phaetonref12_In.mono _ _ _)
      | (with_reducible exact phaetonref12_On.mono _ _ _)
      | (with_reducible exact phaetonref12_Right.mono _ _ _)
      | (with_reducible exact LeO.refl _)
      | (with_reducible exact LeO.none _)
      | (with_reducible refine LeO.ite ?_ ?_)
      | (with_reducible refine LeO.bind ?_ (fun _ => ?_))
      | exact ih0 _ _ _
      | exact ih1 _ _ _ _ _
      | exact phaetonref12_In.mono _ _ _
      | exact phaetonref12_On.mono _ _ _
      | exact phaetonref12_Right.mono _ _ _
      | exact LeO.none _
      | refine LeO.ite ?_ ?_
      | refine LeO.bind ?_ (fun _ => ?_)
theorem phaetonref12_Loopless.mono : ∀ a0 a1 k, LeO (phaetonref12_Loopless.f k a0 a1) (phaetonref12_Loopless.f (k + 1) a0 a1) := by
  intro a0 a1 k
  obtain ⟨ih0, ih1⟩ := phaetonref12_Loopless.mono_l k
  unfold phaetonref12_Loopless.f
  repeat' first
      | (with_reducible exact ih0 _ _ _)
      | (with_reducible exact ih1 _ _ _ _ _)
      | (with_reducible exact phaetonref12_In.mono _ _ _)
      | (with_reducible exact phaetonref12_On.mono _ _ _)
      | (with_reducible exact phaetonref12_Right.mono _ _ _)
      | (with_reducible exact LeO.refl _)
      | (with_reducible exact LeO.none _)
      | (with_reducible refine LeO.ite ?_ ?_)
      | (with_reducible refine LeO.bind ?_ (fun _ => ?_))
      | exact ih0 _ _ _
      | exact ih1 _ _ _ _ _
      | exact phaetonref12_In.mono _ _ _
      | exact phaetonref12_On.mono _ _ _
      | exact phaetonref12_Right.mono _ _ _
      | exact LeO.none _
      | refine LeO.ite ?_ ?_
      | refine LeO.bind ?_ (fun _ => ?_)
set_option maxHeartbeats 8000000 in
set_option maxRecDepth 100000 in
theorem phaetonref12_Loopless.calls (k : Nat) (A0 : Option Addr) (c0 : Nat) (l0 : List (S45)) (a1 : Int) (r : Bool) (w : World) (hr0 : Kd.C k45 w A0 l0.length l0) (hc0 : l0.length ≤ c0) (h : phaetonref12_Loopless.f k l0 a1 = some r) :
    Calls Try.prog 15 #[.slice A0 l0.length c0, .int .i64 a1] w fun e w' => e = .returned (.bool r) ∧ Below w.heap.size w w' := by
  have HR0 := Aside0.mk hr0
  have HC0 := Aside0.mk hc0
  clear hr0 hc0
  have HB := Aside0.mk (Below.refl w.heap.size w)
  have H : ((phaetonref12_Right.f k l0 a1).bind fun t201 => (if t201 = true then (phaetonref12_Loopless.l0 k l0 a1 0) else (some false))) = some r := h
  clear h
  replace H := Option.bind_eq_some_iff.mp H
  obtain ⟨t201, A30, H⟩ := H
  replace H : (if t201 = true then (phaetonref12_Loopless.l0 k l0 a1 0) else (some false)) = some r := H
  have A3 := Aside0.mk A30
  clear A30
  by_cases c4 : t201 = true
  · subst c4
    have H1 : (phaetonref12_Loopless.l0 k l0 a1 0) = some r := by rw [if_pos rfl] at H; exact H
    clear H
    have H := H1
    clear H1
    have H' := Aside0.mk H
    clear H
    go_enter Try.func15, Try.ntmps15
    go_wp2_with (first | ((with_reducible refine gate_callee (f := 13) rfl ?_); refine goesL_ (some 10) rfl rfl Try.func13 (by kernel_rfl) rfl #[.slice A0 l0.length c0, .int .i64 a1] rfl (by (try simp only [List.map_toArray, List.map_cons, List.map_nil]); first | done | rfl | (simp only [List.length_drop, List.length_take]; rfl)) ?_; (with_reducible refine (phaetonref12_Right.calls k _ _ l0 a1 true _ ?side1 ?side2 A3.out).mono ?_); (case side1 => repeat (first | exact HR0.out | (with_reducible refine Kd.C_alloc ?_ _) | (with_reducible refine Kd.C_drewN ?_ _) | (with_reducible refine Kd.C_drew ?_))); (case side2 => exact HC0.out); rintro e w5 ⟨rfl, hb⟩; refine ⟨_, rfl, ?_⟩; have n0_ := Aside0.mk (below_step (by repeat (first | (with_reducible first | exact HB.out | apply below_alloc | apply pw_below_drewN | apply below_drew1) | exact HB.out)) hb); clear HB; have HB := n0_; clear n0_; (try clear hb); (try clear hb2); (try clear hk); (try clear hi)))
    go_loopg [5] k (fun kq v5 w' => ∃ (x5_1 : Int), v5 = .int .i64 x5_1 ∧ Aside0 (phaetonref12_Loopless.l0 kq l0 a1 x5_1 = some r) ∧ Aside0 (kq ≤ k) ∧ Aside0 (Below w.heap.size w w'))
    case atStart => exact ⟨(0), (by first | rfl | (simp; done) | (simp [*]; done)), H', ⟨Nat.le_refl _⟩, ⟨by repeat (first | (with_reducible first | exact HB.out | apply below_alloc | apply pw_below_drewN | apply below_drew1) | exact HB.out)⟩⟩
    case round =>
      clear H'
      try clear c1
      try clear p2
      try clear c4
      obtain ⟨x5_1, rfl, HA, HK1, HB⟩ := hrel
      cases gk with
      | zero => exact absurd HA.out (by simp [phaetonref12_Loopless.l0])
      | succ k1 =>
        have H := HA.out
        clear HA
        simp only [phaetonref12_Loopless.l0] at H
        by_cases c6 : x5_1 < a1
        · rw [if_pos c6] at H
          have c6b0 : decide (x5_1 < a1) = true := decide_eq_true c6
          clear c6
          obtain ⟨y202, hy202⟩ : ∃ y_ : List Int, y_ = (([x5_1] : List Int)) := ⟨_, rfl⟩
          replace H : (phaetonref12_Loopless.l1 k1 l0 a1 x5_1 y202 0) = some r := by first | (rw [hy202]; with_reducible exact H) | (have H2_ := (Option.bind_some _ _).symm.trans H; rw [hy202]; with_reducible exact H2_) | (have H2_ := (Option.bind_some _ _).symm.trans H; with_reducible exact H2_) | with_reducible exact H | (rw [hy202]; exact H) | exact H
          have Ny202 := Aside0.mk hy202
          clear hy202
          have H' := Aside0.mk H
          clear H
          go_wp2_with (first | ((with_reducible refine gate_dst (N := 18) rfl ?_); refine Kd.R_lit (Kd.int .i64) _ 3 ?hg (N := 18) ?hd (xs := ([x5_1] : List Int)) (inner := [.int .i64 x5_1]) (ok := fun _ => True) (okp := fun _ => True) ?hr ?hp (fun _ hk => hk) trivial (Below.refl _ _) (Nat.le_refl _) (by simp) ?_; (case hd => rfl); (case hg => rfl); (case hr => first | (go_simp; done) | (go_simp; rfl)); (case hp => exact (Reps.one (show Kd.M (Kd.int .i64) _ _ _ x5_1 [.int .i64 x5_1] from rfl) (Reps.none _ _))); intro v203 w7 ho8 hb hg_ hnew_; clear hg_ hnew_; (first | rw [← Ny202.out] at ho8 | (simp only [Int.reduceToNat] at ho8; rw [← Ny202.out] at ho8)); have n0_ := Aside0.mk (Kd.R_lower ho8 (below_size (by repeat (first | (with_reducible first | exact HB.out | apply below_alloc | apply pw_below_drewN | apply below_drew1) | exact HB.out)))); have n1_ := Aside0.mk (below_step (by repeat (first | (with_reducible first | exact HB.out | apply below_alloc | apply pw_below_drewN | apply below_drew1) | exact HB.out)) hb); clear HB; have HO204 := n0_; have HB := n1_; clear n0_ n1_; clear hb ho8))
          go_loopg [6, 7] k1 (fun kq v6 v7 w' => ∃ (x6_2 : List Int) (x7_2 : Int), v7 = .int .i64 x7_2 ∧ Aside0 (phaetonref12_Loopless.l1 kq l0 a1 x5_1 x6_2 x7_2 = some r) ∧ Aside0 (kq ≤ k1) ∧ Aside0 (Kd.R (Kd.int .i64) 3 w' w.heap.size (fun _ => True) v6 x6_2) ∧ Aside0 (Below w.heap.size w w'))
          case atStart => exact ⟨(y202), (0), (by first | rfl | (simp; done) | (simp [*]; done)), H', ⟨Nat.le_refl _⟩, ⟨by (with_reducible repeat (first | apply Kd.R_alloc | apply Kd.R_drewN | apply Kd.R_drew)); exact HO204.out⟩, ⟨by repeat (first | (with_reducible first | exact HB.out | apply below_alloc | apply pw_below_drewN | apply below_drew1) | exact HB.out)⟩⟩
          case round =>
            clear H'
            try clear c1
            try clear p2
            try clear c4
            try clear c6
            try clear c6b0
            try clear p2
            obtain ⟨x6_2, x7_2, rfl, HA, HK2, HO_6, HB⟩ := hrel
            cases gk with
            | zero => exact absurd HA.out (by simp [phaetonref12_Loopless.l1])
            | succ k2 =>
              have H := HA.out
              clear HA
              simp only [phaetonref12_Loopless.l1] at H
              by_cases c9 : x7_2 < a1
              · rw [if_pos c9] at H
                have c9b0 : decide (x7_2 < a1) = true := decide_eq_true c9
                clear c9
                replace H := Option.bind_eq_some_iff.mp H
                obtain ⟨t205, A100, H⟩ := H
                replace H : ((phaetonref12_In.f k2 t205 x5_1).bind fun t208 => (if t208 = true then (some false) else (phaetonref12_Loopless.l1 k2 l0 a1 x5_1 t205 (wrap64 (x7_2 + 1))))) = some r := H
                have A10 := Aside0.mk A100
                clear A100
                replace H := Option.bind_eq_some_iff.mp H
                obtain ⟨t208, A110, H⟩ := H
                replace H : (if t208 = true then (some false) else (phaetonref12_Loopless.l1 k2 l0 a1 x5_1 t205 (wrap64 (x7_2 + 1)))) = some r := H
                have A11 := Aside0.mk A110
                clear A110
                by_cases c12 : t208 = true
                · subst c12
                  have H1 : (some false) = some r := by rw [if_pos rfl] at H; exact H
                  clear H
                  have H := H1
                  clear H1
                  obtain rfl := Option.some.inj H
                  obtain ⟨Ao13, co13, eo13⟩ := Kd.R_slice HO_6.out
                  subst eo13
                  go_wp2_with (first | ((with_reducible refine gate_callee (f := 27) rfl ?_); refine goesL_ (some 26) rfl rfl Try.func27 (by kernel_rfl) rfl #[.slice A0 l0.length c0, .slice Ao13 x6_2.length co13] rfl (by (try simp only [List.map_toArray, List.map_cons, List.map_nil]); first | done | rfl | (simp only [List.length_drop, List.length_take]; rfl)) ?_; (with_reducible refine (phaetonref12_On.calls k2 _ _ l0 _ _ x6_2 t205 _ ?side1 ?side2 ?side3 ?side4 A10.out).mono ?_); (case side1 => repeat (first | exact (Kd.C_below HR0.out HB.out) | (with_reducible refine Kd.C_alloc ?_ _) | (with_reducible refine Kd.C_drewN ?_ _) | (with_reducible refine Kd.C_drew ?_))); (case side2 => exact HC0.out); (case side3 => repeat (first | exact (Kd.R_reads' HO_6.out).2.2 | (with_reducible refine Kd.C_alloc ?_ _) | (with_reducible refine Kd.C_drewN ?_ _) | (with_reducible refine Kd.C_drew ?_))); (case side4 => exact (Kd.R_reads' HO_6.out).2.1); rintro e w14 ⟨v206, rfl, ho0, hb⟩; refine ⟨_, rfl, ?_⟩; have n0_ := Aside0.mk (Kd.R_elder' (by (with_reducible repeat (first | apply Kd.R_alloc | apply Kd.R_drewN | apply Kd.R_drew)); exact HO_6.out) (Kd.R_base ho0) hb); have n1_ := Aside0.mk (Kd.R_lower (Kd.R_new' ho0 (Kd.R_lt (by (with_reducible repeat (first | apply Kd.R_alloc | apply Kd.R_drewN | apply Kd.R_drew)); exact HO_6.out))) (below_size (by repeat (first | (with_reducible first | exact HB.out | apply below_alloc | apply pw_below_drewN | apply below_drew1) | exact HB.out)))); have n2_ := Aside0.mk (below_step (by repeat (first | (with_reducible first | exact HB.out | apply below_alloc | apply pw_below_drewN | apply below_drew1) | exact HB.out)) hb); clear HO_6; clear HB; have HO_6 := n0_; have HO207 := n1_; have HB := n2_; clear n0_ n1_ n2_; (try clear hb); (try clear hb2); (try clear hk); (try clear hi); (try clear ho0); obtain ⟨Ao15, co15, eo15⟩ := Kd.R_slice HO207.out; subst eo15) | ((with_reducible refine gate_callee (f := 28) rfl ?_); refine goesL_ (some 29) rfl rfl Try.func28 (by kernel_rfl) rfl #[.slice Ao15 t205.length co15, .int .i64 x5_1] rfl (by (try simp only [List.map_toArray, List.map_cons, List.map_nil]); first | done | rfl | (simp only [List.length_drop, List.length_take]; rfl)) ?_; (with_reducible refine (phaetonref12_In.calls k2 _ _ t205 x5_1 true _ ?side1 ?side2 A11.out).mono ?_); (case side1 => repeat (first | exact (Kd.R_reads' HO207.out).2.2 | (with_reducible refine Kd.C_alloc ?_ _) | (with_reducible refine Kd.C_drewN ?_ _) | (with_reducible refine Kd.C_drew ?_))); (case side2 => exact (Kd.R_reads' HO207.out).2.1); rintro e w' ⟨rfl, ⟨nd, rfl⟩⟩; refine ⟨_, rfl, ?_⟩))
                  go_ret
                  exact ⟨by first | rfl | (simp [errW_none, errW_some] <;> rfl) | (simp [*, errW_none, errW_some] <;> rfl), by repeat (first | (with_reducible first | exact HB.out | apply below_alloc | apply pw_below_drewN | apply below_drew1) | exact HB.out)⟩
                · replace c12 := Bool.eq_false_iff.mpr c12
                  subst c12
                  have H1 : (phaetonref12_Loopless.l1 k2 l0 a1 x5_1 t205 (wrap64 (x7_2 + 1))) = some r := by rw [if_neg (show ¬ (false = true) by decide)] at H; exact H
                  clear H
                  have H := H1
                  clear H1
                  have H' := Aside0.mk H
                  clear H
                  obtain ⟨Ao16, co16, eo16⟩ := Kd.R_slice HO_6.out
                  subst eo16
                  go_wp2_with (first | ((with_reducible refine gate_callee (f := 27) rfl ?_); refine goesL_ (some 26) rfl rfl Try.func27 (by kernel_rfl) rfl #[.slice A0 l0.length c0, .slice Ao16 x6_2.length co16] rfl (by (try simp only [List.map_toArray, List.map_cons, List.map_nil]); first | done | rfl | (simp only [List.length_drop, List.length_take]; rfl)) ?_; (with_reducible refine (phaetonref12_On.calls k2 _ _ l0 _ _ x6_2 t205 _ ?side1 ?side2 ?side3 ?side4 A10.out).mono ?_); (case side1 => repeat (first | exact (Kd.C_below HR0.out HB.out) | (with_reducible refine Kd.C_alloc ?_ _) | (with_reducible refine Kd.C_drewN ?_ _) | (with_reducible refine Kd.C_drew ?_))); (case side2 => exact HC0.out); (case side3 => repeat (first | exact (Kd.R_reads' HO_6.out).2.2 | (with_reducible refine Kd.C_alloc ?_ _) | (with_reducible refine Kd.C_drewN ?_ _) | (with_reducible refine Kd.C_drew ?_))); (case side4 => exact (Kd.R_reads' HO_6.out).2.1); rintro e w17 ⟨v206, rfl, ho0, hb⟩; refine ⟨_, rfl, ?_⟩; have n0_ := Aside0.mk (Kd.R_elder' (by (with_reducible repeat (first | apply Kd.R_alloc | apply Kd.R_drewN | apply Kd.R_drew)); exact HO_6.out) (Kd.R_base ho0) hb); have n1_ := Aside0.mk (Kd.R_lower (Kd.R_new' ho0 (Kd.R_lt (by (with_reducible repeat (first | apply Kd.R_alloc | apply Kd.R_drewN | apply Kd.R_drew)); exact HO_6.out))) (below_size (by repeat (first | (with_reducible first | exact HB.out | apply below_alloc | apply pw_below_drewN | apply below_drew1) | exact HB.out)))); have n2_ := Aside0.mk (below_step (by repeat (first | (with_reducible first | exact HB.out | apply below_alloc | apply pw_below_drewN | apply below_drew1) | exact HB.out)) hb); clear HO_6; clear HB; have HO_6 := n0_; have HO207 := n1_; have HB := n2_; clear n0_ n1_ n2_; (try clear hb); (try clear hb2); (try clear hk); (try clear hi); (try clear ho0); obtain ⟨Ao18, co18, eo18⟩ := Kd.R_slice HO207.out; subst eo18) | ((with_reducible refine gate_callee (f := 28) rfl ?_); refine goesL_ (some 29) rfl rfl Try.func28 (by kernel_rfl) rfl #[.slice Ao18 t205.length co18, .int .i64 x5_1] rfl (by (try simp only [List.map_toArray, List.map_cons, List.map_nil]); first | done | rfl | (simp only [List.length_drop, List.length_take]; rfl)) ?_; (with_reducible refine (phaetonref12_In.calls k2 _ _ t205 x5_1 false _ ?side1 ?side2 A11.out).mono ?_); (case side1 => repeat (first | exact (Kd.R_reads' HO207.out).2.2 | (with_reducible refine Kd.C_alloc ?_ _) | (with_reducible refine Kd.C_drewN ?_ _) | (with_reducible refine Kd.C_drew ?_))); (case side2 => exact (Kd.R_reads' HO207.out).2.1); rintro e w' ⟨rfl, ⟨nd, rfl⟩⟩; refine ⟨_, rfl, ?_⟩))
                  go_roundg k2
                  case measure => have := HK1.out; have := HK2.out; omega
                  case rel => exact ⟨(t205), (wrap64 (x7_2 + 1)), (by first | rfl | (simp; done) | (simp [*]; done)), H', ⟨by have := HK1.out; have := HK2.out; omega⟩, ⟨by (with_reducible repeat (first | apply Kd.R_alloc | apply Kd.R_drewN | apply Kd.R_drew)); exact Kd.R_mono HO207.out (fun _ hk => trivial)⟩, ⟨by repeat (first | (with_reducible first | exact HB.out | apply below_alloc | apply pw_below_drewN | apply below_drew1) | exact HB.out)⟩⟩
              · rw [if_neg c9] at H
                have c9b0 : decide (x7_2 < a1) = false := decide_eq_false c9
                clear c9
                have H' := Aside0.mk H
                clear H
                go_wp2
                go_roundg k2
                case measure => have := HK1.out; have := HK2.out; omega
                case rel => exact ⟨(wrap64 (x5_1 + 1)), (by first | rfl | (simp; done) | (simp [*]; done)), H', ⟨by have := HK1.out; have := HK2.out; omega⟩, ⟨by repeat (first | (with_reducible first | exact HB.out | apply below_alloc | apply pw_below_drewN | apply below_drew1) | exact HB.out)⟩⟩
        · rw [if_neg c6] at H
          have c6b0 : decide (x5_1 < a1) = false := decide_eq_false c6
          clear c6
          obtain rfl := Option.some.inj H
          go_wp2
          go_ret
          exact ⟨by first | rfl | (simp [errW_none, errW_some] <;> rfl) | (simp [*, errW_none, errW_some] <;> rfl), by repeat (first | (with_reducible first | exact HB.out | apply below_alloc | apply pw_below_drewN | apply below_drew1) | exact HB.out)⟩
  · replace c4 := Bool.eq_false_iff.mpr c4
    subst c4
    have H1 : (some false) = some r := by rw [if_neg (show ¬ (false = true) by decide)] at H; exact H
    clear H
    have H := H1
    clear H1
    obtain rfl := Option.some.inj H
    go_enter Try.func15, Try.ntmps15
    go_wp2_with (first | ((with_reducible refine gate_callee (f := 13) rfl ?_); refine goesL_ (some 10) rfl rfl Try.func13 (by kernel_rfl) rfl #[.slice A0 l0.length c0, .int .i64 a1] rfl (by (try simp only [List.map_toArray, List.map_cons, List.map_nil]); first | done | rfl | (simp only [List.length_drop, List.length_take]; rfl)) ?_; (with_reducible refine (phaetonref12_Right.calls k _ _ l0 a1 false _ ?side1 ?side2 A3.out).mono ?_); (case side1 => repeat (first | exact HR0.out | (with_reducible refine Kd.C_alloc ?_ _) | (with_reducible refine Kd.C_drewN ?_ _) | (with_reducible refine Kd.C_drew ?_))); (case side2 => exact HC0.out); rintro e w19 ⟨rfl, hb⟩; refine ⟨_, rfl, ?_⟩; have n0_ := Aside0.mk (below_step (by repeat (first | (with_reducible first | exact HB.out | apply below_alloc | apply pw_below_drewN | apply below_drew1) | exact HB.out)) hb); clear HB; have HB := n0_; clear n0_; (try clear hb); (try clear hb2); (try clear hk); (try clear hi)))
    go_ret
    exact ⟨by first | rfl | (simp [errW_none, errW_some] <;> rfl) | (simp [*, errW_none, errW_some] <;> rfl), by repeat (first | (with_reducible first | exact HB.out | apply below_alloc | apply pw_below_drewN | apply below_drew1) | exact HB.out)⟩

/-! ### phaetonlaw12_Cut: function 16 -/
mutual
def phaetonlaw12_Cut.l0 : Nat → List (S45) → Int → List (S45) → Int → Option ((List (S45)))
  | 0, _, _, _, _ => none
  | k + 1, x0, x1, x5, x6 => if x6 < (x0.length : Int) then (phaetonlaw12_Cut.j1 k x0 x1 x5 x6 (decide (x6 < x1))) else (phaetonlaw12_Cut.j1 k x0 x1 x5 x6 false)
def phaetonlaw12_Cut.j1 : Nat → List (S45) → Int → List (S45) → Int → Bool → Option ((List (S45)))
  | 0, _, _, _, _, _ => none
  | k + 1, x0, x1, x5, x6, x18 => if x18 = true then (if 0 ≤ x6 then (if x6 < (x0.length : Int) then (if (rd_T45 x0 x6).f2.f0 = true then (if (Go.bits .and .i64 ((rd_T45 x0 x6).f0) 3) = (Go.bits .and .i64 ((rd_T45 x0 x6).f1) 3) then (phaetonlaw12_Cut.l0 k x0 x1 x5 (wrap64 (x6 + 1))) else (if x5.length < 2932031007402 then (phaetonlaw12_Cut.l0 k x0 x1 (x5 ++ [(⟨Go.bits .and .i64 ((rd_T45 x0 x6).f0) 3, Go.bits .and .i64 ((rd_T45 x0 x6).f1) 3, (⟨(rd_T45 x0 x6).f2.f0, Go.bits .and .i64 ((rd_T45 x0 x6).f2.f1) 536870911, Go.bits .and .i64 ((rd_T45 x0 x6).f2.f2) (Go.bits .and .i64 ((rd_T45 x0 x6).f2.f1) 536870911)⟩ : S43), mx (-1) (mn ((rd_T45 x0 x6).f3) 536870911)⟩ : S45)]) (wrap64 (x6 + 1))) else (none))) else (if (Go.bits .and .i64 ((rd_T45 x0 x6).f0) 3) = (Go.bits .and .i64 ((rd_T45 x0 x6).f1) 3) then (phaetonlaw12_Cut.l0 k x0 x1 x5 (wrap64 (x6 + 1))) else (if x5.length < 2932031007402 then (phaetonlaw12_Cut.l0 k x0 x1 (x5 ++ [(⟨Go.bits .and .i64 ((rd_T45 x0 x6).f0) 3, Go.bits .and .i64 ((rd_T45 x0 x6).f1) 3, (⟨(rd_T45 x0 x6).f2.f0, Go.bits .and .i64 ((rd_T45 x0 x6).f2.f1) 2047, Go.bits .and .i64 ((rd_T45 x0 x6).f2.f2) (Go.bits .and .i64 ((rd_T45 x0 x6).f2.f1) 2047)⟩ : S43), mx (-1) (mn ((rd_T45 x0 x6).f3) 2047)⟩ : S45)]) (wrap64 (x6 + 1))) else (none)))) else (none)) else (none)) else (some x5)
end
def phaetonlaw12_Cut.f (k : Nat) (l0 : List (S45)) (a1 : Int) : Option ((List (S45))) := phaetonlaw12_Cut.l0 k l0 a1 (([] : List (S45))) 0
theorem phaetonlaw12_Cut.mono_l : ∀ k, (∀ y0 y1 y2 y3, LeO (phaetonlaw12_Cut.l0 k y0 y1 y2 y3) (phaetonlaw12_Cut.l0 (k + 1) y0 y1 y2 y3)) ∧ (∀ y0 y1 y2 y3 y4, LeO (phaetonlaw12_Cut.j1 k y0 y1 y2 y3 y4) (phaetonlaw12_Cut.j1 (k + 1) y0 y1 y2 y3 y4))
  | 0 => ⟨fun _ _ _ _ r h => by simp [phaetonlaw12_Cut.l0] at h, fun _ _ _ _ _ r h => by simp [phaetonlaw12_Cut.j1] at h⟩
  | k + 1 => by
    obtain ⟨ih0, ih1⟩ := phaetonlaw12_Cut.mono_l k
    refine ⟨?_, ?_⟩
    · intro y0 y1 y2 y3
      unfold phaetonlaw12_Cut.l0
      repeat' first
      | (with_reducible exact ih0 _ _ _ _)
      | (with_reducible exact ih1 _ _ _ _ _)
      | (with_reducible exact LeO.refl _)
      | (with_reducible exact LeO.none _)
      | (with_reducible refine LeO.ite ?_ ?_)
      | (with_reducible refine LeO.bind ?_ (fun _ => ?_))
      | exact ih0 _ _ _ _
      | exact ih1 _ _ _ _ _
      | exact LeO.none _
      | refine LeO.ite ?_ ?_
      | refine LeO.bind ?_ (fun _ => ?_)
    · intro y0 y1 y2 y3 y4
      unfold phaetonlaw12_Cut.j1
      repeat' first
      | (with_reducible exact ih0 _ _ _ _)
      | (with_reducible exact ih1 _ _ _ _ _)
      | (with_reducible exact LeO.refl _)
      | (with_reducible exact LeO.none _)
      | (with_reducible refine LeO.ite ?_ ?_)
      | (with_reducible refine LeO.bind ?_ (fun _ => ?_))
      | exact ih0 _ _ _ _
      | exact ih1 _ _ _ _ _
      | exact LeO.none _
      | refine LeO.ite ?_ ?_
      | refine LeO.bind ?_ (fun _ => ?_)
theorem phaetonlaw12_Cut.mono : ∀ a0 a1 k, LeO (phaetonlaw12_Cut.f k a0 a1) (phaetonlaw12_Cut.f (k + 1) a0 a1) := by
  intro a0 a1 k
  obtain ⟨ih0, ih1⟩ := phaetonlaw12_Cut.mono_l k
  unfold phaetonlaw12_Cut.f
  repeat' first
      | (with_reducible exact ih0 _ _ _ _)
      | (with_reducible exact ih1 _ _ _ _ _)
      | (with_reducible exact LeO.refl _)
      | (with_reducible exact LeO.none _)
      | (with_reducible refine LeO.ite ?_ ?_)
      | (with_reducible refine LeO.bind ?_ (fun _ => ?_))
      | exact ih0 _ _ _ _
      | exact ih1 _ _ _ _ _
      | exact LeO.none _
      | refine LeO.ite ?_ ?_
      | refine LeO.bind ?_ (fun _ => ?_)
set_option maxHeartbeats 8000000 in
set_option maxRecDepth 100000 in
theorem phaetonlaw12_Cut.calls (k : Nat) (A0 : Option Addr) (c0 : Nat) (l0 : List (S45)) (a1 : Int) (r : List (S45)) (w : World) (hr0 : Kd.C k45 w A0 l0.length l0) (hc0 : l0.length ≤ c0) (h : phaetonlaw12_Cut.f k l0 a1 = some r) :
    Calls Try.prog 16 #[.slice A0 l0.length c0, .int .i64 a1] w fun e w' => ∃ v0_ : Value, e = .returned (v0_) ∧ Kd.R k45 45 w' w.heap.size (fun _ => True) v0_ r ∧ Below w.heap.size w w' := by
  have hu43 := Try.underlying43
  have hu45 := Try.underlying45
  have HR0 := Aside0.mk hr0
  have HC0 := Aside0.mk hc0
  clear hr0 hc0
  have HB := Aside0.mk (Below.refl w.heap.size w)
  have H : (phaetonlaw12_Cut.l0 k l0 a1 (([] : List (S45))) 0) = some r := h
  clear h
  obtain ⟨y209, hy209⟩ : ∃ y_ : List (S45), y_ = (([] : List (S45))) := ⟨_, rfl⟩
  replace H : (phaetonlaw12_Cut.l0 k l0 a1 y209 0) = some r := by first | (rw [hy209]; with_reducible exact H) | (have H2_ := (Option.bind_some _ _).symm.trans H; rw [hy209]; with_reducible exact H2_) | (have H2_ := (Option.bind_some _ _).symm.trans H; with_reducible exact H2_) | with_reducible exact H | (rw [hy209]; exact H) | exact H
  have Ny209 := Aside0.mk hy209
  clear hy209
  have H' := Aside0.mk H
  clear H
  go_enter Try.func16, Try.ntmps16
  go_wp2_with (first | ((with_reducible refine gate_dst (N := 9) rfl ?_); refine Kd.R_lit k45 _ 45 ?hg (N := 9) ?hd (xs := ([] : List (S45))) (inner := []) (ok := fun _ => True) (okp := fun _ => True) ?hr ?hp (fun _ hk => hk) trivial (Below.refl _ _) (Nat.le_refl _) (by simp) ?_; (case hd => rfl); (case hg => rfl); (case hr => first | (go_simp; done) | (go_simp; rfl)); (case hp => exact (Reps.none _ _)); intro v210 w3 ho4 hb hg_ hnew_; clear hg_ hnew_; (first | rw [← Ny209.out] at ho4 | (simp only [Int.reduceToNat] at ho4; rw [← Ny209.out] at ho4)); have n0_ := Aside0.mk (Kd.R_lower ho4 (below_size (by repeat (first | (with_reducible first | exact HB.out | apply below_alloc | apply pw_below_drewN | apply below_drew1) | exact HB.out)))); have n1_ := Aside0.mk (below_step (by repeat (first | (with_reducible first | exact HB.out | apply below_alloc | apply pw_below_drewN | apply below_drew1) | exact HB.out)) hb); clear HB; have HO211 := n0_; have HB := n1_; clear n0_ n1_; clear hb ho4))
  go_loopg [5, 6] k (fun kq v5 v6 w' => ∃ (x5_1 : List (S45)) (x6_1 : Int), v6 = .int .i64 x6_1 ∧ Aside0 (phaetonlaw12_Cut.l0 kq l0 a1 x5_1 x6_1 = some r) ∧ Aside0 (kq ≤ k) ∧ Aside0 (Kd.R k45 45 w' w.heap.size (fun _ => True) v5 x5_1) ∧ Aside0 (Below w.heap.size w w'))
  case atStart => exact ⟨(y209), (0), (by first | rfl | (simp; done) | (simp [*]; done)), H', ⟨Nat.le_refl _⟩, ⟨by (with_reducible repeat (first | apply Kd.R_alloc | apply Kd.R_drewN | apply Kd.R_drew)); exact HO211.out⟩, ⟨by repeat (first | (with_reducible first | exact HB.out | apply below_alloc | apply pw_below_drewN | apply below_drew1) | exact HB.out)⟩⟩
  case round =>
    clear H'
    try clear c1
    try clear p2
    obtain ⟨x5_1, x6_1, rfl, HA, HK1, HO_5, HB⟩ := hrel
    cases gk with
    | zero => exact absurd HA.out (by simp [phaetonlaw12_Cut.l0])
    | succ k1 =>
      have H := HA.out
      clear HA
      simp only [phaetonlaw12_Cut.l0] at H
      have HC5 := Aside0.mk H
      clear H
      go_upto_region 3 with (fail)
      go_cut [18] (fun v18 wc => ∃ (kq : Nat) (x18_4 : Bool), v18 = .bool x18_4 ∧ Aside0 (phaetonlaw12_Cut.j1 kq l0 a1 x5_1 x6_1 x18_4 = some r) ∧ Aside0 (kq ≤ k1) ∧ Aside0 (Kd.R k45 45 wc w.heap.size (fun _ => True) u5 x5_1) ∧ Aside0 (Below w.heap.size w wc))
      case first =>
        have H := HC5.out
        clear HC5
        by_cases c6 : x6_1 < (l0.length : Int)
        · rw [if_pos c6] at H
          have c6b0 : decide (x6_1 < (l0.length : Int)) = true := decide_eq_true c6
          clear c6
          (first | rw [c6b0] | (simp only [i64_w, i32_w]; rw [c6b0]) | skip)
          have H' := Aside0.mk H
          clear H
          go_wp2
          go_meet
          case rel => exact ⟨_, (decide (x6_1 < a1)), (by first | rfl | (simp; done) | (simp [*]; done)), H', ⟨by have := HK1.out; first | omega | exact Nat.le_refl _⟩, ⟨by (with_reducible repeat (first | apply Kd.R_alloc | apply Kd.R_drewN | apply Kd.R_drew)); exact HO_5.out⟩, ⟨by repeat (first | (with_reducible first | exact HB.out | apply below_alloc | apply pw_below_drewN | apply below_drew1) | exact HB.out)⟩⟩
        · rw [if_neg c6] at H
          have c6b0 : decide (x6_1 < (l0.length : Int)) = false := decide_eq_false c6
          clear c6
          (first | rw [c6b0] | (simp only [i64_w, i32_w]; rw [c6b0]) | skip)
          have H' := Aside0.mk H
          clear H
          go_wp2
          go_meet
          case rel => exact ⟨_, (false), (by first | rfl | (simp; done) | (simp [*]; done)), H', ⟨by have := HK1.out; first | omega | exact Nat.le_refl _⟩, ⟨by (with_reducible repeat (first | apply Kd.R_alloc | apply Kd.R_drewN | apply Kd.R_drew)); exact HO_5.out⟩, ⟨by repeat (first | (with_reducible first | exact HB.out | apply below_alloc | apply pw_below_drewN | apply below_drew1) | exact HB.out)⟩⟩
      case rest =>
        clear HC5
        try clear c1
        try clear p2
        try clear c6
        try clear c6b0
        try clear p2
        obtain ⟨kq, x18_4, rfl, HA, HJ4, HO_5, HB⟩ := hcut
        cases kq with
        | zero => exact absurd HA.out (by simp [phaetonlaw12_Cut.j1])
        | succ kj4 =>
          have H := HA.out
          clear HA
          simp only [phaetonlaw12_Cut.j1] at H
          by_cases c7 : x18_4 = true
          · subst c7
            have H1 : (if 0 ≤ x6_1 then (if x6_1 < (l0.length : Int) then (if (rd_T45 l0 x6_1).f2.f0 = true then (if (Go.bits .and .i64 ((rd_T45 l0 x6_1).f0) 3) = (Go.bits .and .i64 ((rd_T45 l0 x6_1).f1) 3) then (phaetonlaw12_Cut.l0 kj4 l0 a1 x5_1 (wrap64 (x6_1 + 1))) else (if x5_1.length < 2932031007402 then (phaetonlaw12_Cut.l0 kj4 l0 a1 (x5_1 ++ [(⟨Go.bits .and .i64 ((rd_T45 l0 x6_1).f0) 3, Go.bits .and .i64 ((rd_T45 l0 x6_1).f1) 3, (⟨(rd_T45 l0 x6_1).f2.f0, Go.bits .and .i64 ((rd_T45 l0 x6_1).f2.f1) 536870911, Go.bits .and .i64 ((rd_T45 l0 x6_1).f2.f2) (Go.bits .and .i64 ((rd_T45 l0 x6_1).f2.f1) 536870911)⟩ : S43), mx (-1) (mn ((rd_T45 l0 x6_1).f3) 536870911)⟩ : S45)]) (wrap64 (x6_1 + 1))) else (none))) else (if (Go.bits .and .i64 ((rd_T45 l0 x6_1).f0) 3) = (Go.bits .and .i64 ((rd_T45 l0 x6_1).f1) 3) then (phaetonlaw12_Cut.l0 kj4 l0 a1 x5_1 (wrap64 (x6_1 + 1))) else (if x5_1.length < 2932031007402 then (phaetonlaw12_Cut.l0 kj4 l0 a1 (x5_1 ++ [(⟨Go.bits .and .i64 ((rd_T45 l0 x6_1).f0) 3, Go.bits .and .i64 ((rd_T45 l0 x6_1).f1) 3, (⟨(rd_T45 l0 x6_1).f2.f0, Go.bits .and .i64 ((rd_T45 l0 x6_1).f2.f1) 2047, Go.bits .and .i64 ((rd_T45 l0 x6_1).f2.f2) (Go.bits .and .i64 ((rd_T45 l0 x6_1).f2.f1) 2047)⟩ : S43), mx (-1) (mn ((rd_T45 l0 x6_1).f3) 2047)⟩ : S45)]) (wrap64 (x6_1 + 1))) else (none)))) else (none)) else (none)) = some r := by rw [if_pos rfl] at H; exact H
            clear H
            have H := H1
            clear H1
            by_cases c8 : 0 ≤ x6_1
            · rw [if_pos c8] at H
              have c8b0 : decide (0 ≤ x6_1) = true := decide_eq_true c8
              clear c8
              by_cases c9 : x6_1 < (l0.length : Int)
              · rw [if_pos c9] at H
                have c9b0 : decide (x6_1 < (l0.length : Int)) = true := decide_eq_true c9
                clear c9
                obtain ⟨bq10, hbq10⟩ : ∃ b_ : Bool, b_ = ((rd_T45 l0 x6_1).f2.f0) := ⟨_, rfl⟩
                replace H : (if bq10 = true then (if (Go.bits .and .i64 ((rd_T45 l0 x6_1).f0) 3) = (Go.bits .and .i64 ((rd_T45 l0 x6_1).f1) 3) then (phaetonlaw12_Cut.l0 kj4 l0 a1 x5_1 (wrap64 (x6_1 + 1))) else (if x5_1.length < 2932031007402 then (phaetonlaw12_Cut.l0 kj4 l0 a1 (x5_1 ++ [(⟨Go.bits .and .i64 ((rd_T45 l0 x6_1).f0) 3, Go.bits .and .i64 ((rd_T45 l0 x6_1).f1) 3, (⟨bq10, Go.bits .and .i64 ((rd_T45 l0 x6_1).f2.f1) 536870911, Go.bits .and .i64 ((rd_T45 l0 x6_1).f2.f2) (Go.bits .and .i64 ((rd_T45 l0 x6_1).f2.f1) 536870911)⟩ : S43), mx (-1) (mn ((rd_T45 l0 x6_1).f3) 536870911)⟩ : S45)]) (wrap64 (x6_1 + 1))) else (none))) else (if (Go.bits .and .i64 ((rd_T45 l0 x6_1).f0) 3) = (Go.bits .and .i64 ((rd_T45 l0 x6_1).f1) 3) then (phaetonlaw12_Cut.l0 kj4 l0 a1 x5_1 (wrap64 (x6_1 + 1))) else (if x5_1.length < 2932031007402 then (phaetonlaw12_Cut.l0 kj4 l0 a1 (x5_1 ++ [(⟨Go.bits .and .i64 ((rd_T45 l0 x6_1).f0) 3, Go.bits .and .i64 ((rd_T45 l0 x6_1).f1) 3, (⟨bq10, Go.bits .and .i64 ((rd_T45 l0 x6_1).f2.f1) 2047, Go.bits .and .i64 ((rd_T45 l0 x6_1).f2.f2) (Go.bits .and .i64 ((rd_T45 l0 x6_1).f2.f1) 2047)⟩ : S43), mx (-1) (mn ((rd_T45 l0 x6_1).f3) 2047)⟩ : S45)]) (wrap64 (x6_1 + 1))) else (none)))) = some r := by rw [← hbq10] at H; exact H
                have Nbq10 := Aside0.mk hbq10
                clear hbq10
                by_cases c11 : bq10 = true
                · subst c11
                  have H1 : (if (Go.bits .and .i64 ((rd_T45 l0 x6_1).f0) 3) = (Go.bits .and .i64 ((rd_T45 l0 x6_1).f1) 3) then (phaetonlaw12_Cut.l0 kj4 l0 a1 x5_1 (wrap64 (x6_1 + 1))) else (if x5_1.length < 2932031007402 then (phaetonlaw12_Cut.l0 kj4 l0 a1 (x5_1 ++ [(⟨Go.bits .and .i64 ((rd_T45 l0 x6_1).f0) 3, Go.bits .and .i64 ((rd_T45 l0 x6_1).f1) 3, (⟨true, Go.bits .and .i64 ((rd_T45 l0 x6_1).f2.f1) 536870911, Go.bits .and .i64 ((rd_T45 l0 x6_1).f2.f2) (Go.bits .and .i64 ((rd_T45 l0 x6_1).f2.f1) 536870911)⟩ : S43), mx (-1) (mn ((rd_T45 l0 x6_1).f3) 536870911)⟩ : S45)]) (wrap64 (x6_1 + 1))) else (none))) = some r := by rw [if_pos rfl] at H; exact H
                  clear H
                  have H := H1
                  clear H1
                  obtain ⟨ji12, hji12⟩ : ∃ j_ : Int, (mn ((rd_T45 l0 x6_1).f3) 536870911) = j_ := ⟨_, rfl⟩
                  replace H : (if (Go.bits .and .i64 ((rd_T45 l0 x6_1).f0) 3) = (Go.bits .and .i64 ((rd_T45 l0 x6_1).f1) 3) then (phaetonlaw12_Cut.l0 kj4 l0 a1 x5_1 (wrap64 (x6_1 + 1))) else (if x5_1.length < 2932031007402 then (phaetonlaw12_Cut.l0 kj4 l0 a1 (x5_1 ++ [(⟨Go.bits .and .i64 ((rd_T45 l0 x6_1).f0) 3, Go.bits .and .i64 ((rd_T45 l0 x6_1).f1) 3, (⟨true, Go.bits .and .i64 ((rd_T45 l0 x6_1).f2.f1) 536870911, Go.bits .and .i64 ((rd_T45 l0 x6_1).f2.f2) (Go.bits .and .i64 ((rd_T45 l0 x6_1).f2.f1) 536870911)⟩ : S43), mx (-1) (ji12)⟩ : S45)]) (wrap64 (x6_1 + 1))) else (none))) = some r := by first | (rw [hji12] at H; exact H) | (simp only [hji12] at H ⊢; exact H)
                  have hji12_ : (if 536870911 < ((rd_T45 l0 x6_1).f3) then 536870911 else ((rd_T45 l0 x6_1).f3)) = ji12 := hji12
                  obtain ⟨ji13, hji13⟩ : ∃ j_ : Int, (mx (-1) (ji12)) = j_ := ⟨_, rfl⟩
                  replace H : (if (Go.bits .and .i64 ((rd_T45 l0 x6_1).f0) 3) = (Go.bits .and .i64 ((rd_T45 l0 x6_1).f1) 3) then (phaetonlaw12_Cut.l0 kj4 l0 a1 x5_1 (wrap64 (x6_1 + 1))) else (if x5_1.length < 2932031007402 then (phaetonlaw12_Cut.l0 kj4 l0 a1 (x5_1 ++ [(⟨Go.bits .and .i64 ((rd_T45 l0 x6_1).f0) 3, Go.bits .and .i64 ((rd_T45 l0 x6_1).f1) 3, (⟨true, Go.bits .and .i64 ((rd_T45 l0 x6_1).f2.f1) 536870911, Go.bits .and .i64 ((rd_T45 l0 x6_1).f2.f2) (Go.bits .and .i64 ((rd_T45 l0 x6_1).f2.f1) 536870911)⟩ : S43), ji13⟩ : S45)]) (wrap64 (x6_1 + 1))) else (none))) = some r := by first | (rw [hji13] at H; exact H) | (simp only [hji13] at H ⊢; exact H)
                  have hji13_ : (if (-1) < (ji12) then (ji12) else (-1)) = ji13 := hji13
                  by_cases c14 : (Go.bits .and .i64 ((rd_T45 l0 x6_1).f0) 3) = (Go.bits .and .i64 ((rd_T45 l0 x6_1).f1) 3)
                  · rw [if_pos c14] at H
                    have c14b0 : ((Go.bits .and .i64 ((rd_T45 l0 x6_1).f0) 3) == (Go.bits .and .i64 ((rd_T45 l0 x6_1).f1) 3)) = true := beq_iff_eq.mpr c14
                    have c14b1 : ((Go.bits .and .i64 ((rd_T45 l0 x6_1).f0) 3) != (Go.bits .and .i64 ((rd_T45 l0 x6_1).f1) 3)) = false := bne_eq_false_iff_eq.mpr c14
                    clear c14
                    have H' := Aside0.mk H
                    clear H
                    have p212 : 0 ≤ (x6_1 : Int) := of_decide_eq_true (by first | (with_reducible assumption) | assumption)
                    have q212 : x6_1 < (l0.length : Int) := of_decide_eq_true (by first | (with_reducible assumption) | assumption)
                    obtain ⟨ad212, e212, hx212_0, hx212_1, hx212_2, hx212_3, hx212_4, hx212_5⟩ := at_T45 HR0.out x6_1 p212 q212
                    (try rw [← Nbq10.out] at hx212_2)
                    cases e212
                    replace hx212_0 := (HB.out.cell (World.block_lt_of_cell? w _ hx212_0)).trans hx212_0
                    replace hx212_1 := (HB.out.cell (World.block_lt_of_cell? w _ hx212_1)).trans hx212_1
                    replace hx212_2 := (HB.out.cell (World.block_lt_of_cell? w _ hx212_2)).trans hx212_2
                    replace hx212_3 := (HB.out.cell (World.block_lt_of_cell? w _ hx212_3)).trans hx212_3
                    replace hx212_4 := (HB.out.cell (World.block_lt_of_cell? w _ hx212_4)).trans hx212_4
                    replace hx212_5 := (HB.out.cell (World.block_lt_of_cell? w _ hx212_5)).trans hx212_5
                    replace p212 := eq_true p212
                    replace q212 := eq_true q212
                    go_wp2
                    go_roundg kj4
                    case measure => have := HK1.out; have := HJ4.out; omega
                    case rel => exact ⟨(x5_1), (wrap64 (x6_1 + 1)), (by first | rfl | (simp; done) | (simp [*]; done)), H', ⟨by have := HK1.out; have := HJ4.out; omega⟩, ⟨by (with_reducible repeat (first | apply Kd.R_alloc | apply Kd.R_drewN | apply Kd.R_drew)); exact HO_5.out⟩, ⟨by repeat (first | (with_reducible first | exact HB.out | apply below_alloc | apply pw_below_drewN | apply below_drew1) | exact HB.out)⟩⟩
                  · rw [if_neg c14] at H
                    have c14b0 : ((Go.bits .and .i64 ((rd_T45 l0 x6_1).f0) 3) == (Go.bits .and .i64 ((rd_T45 l0 x6_1).f1) 3)) = false := beq_eq_false_iff_ne.mpr c14
                    have c14b1 : ((Go.bits .and .i64 ((rd_T45 l0 x6_1).f0) 3) != (Go.bits .and .i64 ((rd_T45 l0 x6_1).f1) 3)) = true := bne_iff_ne.mpr c14
                    by_cases c15 : x5_1.length < 2932031007402
                    · rw [if_pos c15] at H
                      have LMc15 := Aside0.mk c15
                      clear c15
                      obtain ⟨y213, hy213⟩ : ∃ y_ : List (S45), y_ = (x5_1 ++ [(⟨Go.bits .and .i64 ((rd_T45 l0 x6_1).f0) 3, Go.bits .and .i64 ((rd_T45 l0 x6_1).f1) 3, (⟨true, Go.bits .and .i64 ((rd_T45 l0 x6_1).f2.f1) 536870911, Go.bits .and .i64 ((rd_T45 l0 x6_1).f2.f2) (Go.bits .and .i64 ((rd_T45 l0 x6_1).f2.f1) 536870911)⟩ : S43), ji13⟩ : S45)]) := ⟨_, rfl⟩
                      replace H : (phaetonlaw12_Cut.l0 kj4 l0 a1 y213 (wrap64 (x6_1 + 1))) = some r := by first | (rw [hy213]; with_reducible exact H) | (have H2_ := (Option.bind_some _ _).symm.trans H; rw [hy213]; with_reducible exact H2_) | (have H2_ := (Option.bind_some _ _).symm.trans H; with_reducible exact H2_) | with_reducible exact H | (rw [hy213]; exact H) | exact H
                      have Ny213 := Aside0.mk hy213
                      clear hy213
                      have H' := Aside0.mk H
                      clear H
                      have p212 : 0 ≤ (x6_1 : Int) := of_decide_eq_true (by first | (with_reducible assumption) | assumption)
                      have q212 : x6_1 < (l0.length : Int) := of_decide_eq_true (by first | (with_reducible assumption) | assumption)
                      obtain ⟨ad212, e212, hx212_0, hx212_1, hx212_2, hx212_3, hx212_4, hx212_5⟩ := at_T45 HR0.out x6_1 p212 q212
                      (try rw [← Nbq10.out] at hx212_2)
                      cases e212
                      replace hx212_0 := (HB.out.cell (World.block_lt_of_cell? w _ hx212_0)).trans hx212_0
                      replace hx212_1 := (HB.out.cell (World.block_lt_of_cell? w _ hx212_1)).trans hx212_1
                      replace hx212_2 := (HB.out.cell (World.block_lt_of_cell? w _ hx212_2)).trans hx212_2
                      replace hx212_3 := (HB.out.cell (World.block_lt_of_cell? w _ hx212_3)).trans hx212_3
                      replace hx212_4 := (HB.out.cell (World.block_lt_of_cell? w _ hx212_4)).trans hx212_4
                      replace hx212_5 := (HB.out.cell (World.block_lt_of_cell? w _ hx212_5)).trans hx212_5
                      replace p212 := eq_true p212
                      replace q212 := eq_true q212
                      go_wp2_with (first | ((with_reducible refine gate_builtin (b := .append) (xs := #[.tmp 63, .tmp 65]) rfl ?_); at_builtin; refine Kd.R_append k45 (w0 := w) w.heap.size rfl (.tmp 63) (.tmp 65) 22 45 (.agg #[(.int .i64 0), (.int .i64 0), (.bool false), (.int .i64 0), (.int .i64 0), (.int .i64 0)]) 48 rfl Try.underlying22 info45 rfl (by decide) (by omega) u5 x5_1 (⟨Go.bits .and .i64 ((rd_T45 l0 x6_1).f0) 3, Go.bits .and .i64 ((rd_T45 l0 x6_1).f1) 3, (⟨true, Go.bits .and .i64 ((rd_T45 l0 x6_1).f2.f1) 536870911, Go.bits .and .i64 ((rd_T45 l0 x6_1).f2.f2) (Go.bits .and .i64 ((rd_T45 l0 x6_1).f2.f1) 536870911)⟩ : S43), ji13⟩ : S45) [.int .i64 (Go.bits .and .i64 ((rd_T45 l0 x6_1).f0) 3), .int .i64 (Go.bits .and .i64 ((rd_T45 l0 x6_1).f1) 3), .bool true, .int .i64 (Go.bits .and .i64 ((rd_T45 l0 x6_1).f2.f1) 536870911), .int .i64 (Go.bits .and .i64 ((rd_T45 l0 x6_1).f2.f2) (Go.bits .and .i64 ((rd_T45 l0 x6_1).f2.f1) 536870911)), .int .i64 ji13] (fun _ => True) (fun _ => False) rfl (by first | rfl | (go_simp; done) | (go_simp; rfl)) ?aP (fun _ hk => hk.elim) ?aF ?aO ?aB ?aS ?aL ?_; (case aP => exact k45_mkM _ _ _ (⟨Go.bits .and .i64 ((rd_T45 l0 x6_1).f0) 3, Go.bits .and .i64 ((rd_T45 l0 x6_1).f1) 3, (⟨true, Go.bits .and .i64 ((rd_T45 l0 x6_1).f2.f1) 536870911, Go.bits .and .i64 ((rd_T45 l0 x6_1).f2.f2) (Go.bits .and .i64 ((rd_T45 l0 x6_1).f2.f1) 536870911)⟩ : S43), ji13⟩ : S45)); (case aB => exact (by repeat (first | (with_reducible first | exact HB.out | apply below_alloc | apply pw_below_drewN | apply below_drew1) | exact HB.out))); (case aF => exact (fun _ _ => trivial)); (case aO => exact (by (with_reducible repeat (first | apply Kd.R_alloc | apply Kd.R_drewN | apply Kd.R_drew)); exact HO_5.out)); (case aS => exact (below_size (by repeat (first | (with_reducible first | exact HB.out | apply below_alloc | apply pw_below_drewN | apply below_drew1) | exact HB.out)))); (case aL => have := LMc15.out; omega); intro v214 w16 ho hb hg hat; rw [← Ny213.out] at ho; have n0_ := Aside0.mk (hb); have n1_ := Aside0.mk (ho); clear HB; clear HO_5; have HB := n0_; have HO215 := n1_; clear n0_ n1_; clear ho hb hg hat))
                      go_roundg kj4
                      case measure => have := HK1.out; have := HJ4.out; omega
                      case rel => exact ⟨(y213), (wrap64 (x6_1 + 1)), (by first | rfl | (simp; done) | (simp [*]; done)), H', ⟨by have := HK1.out; have := HJ4.out; omega⟩, ⟨by (with_reducible repeat (first | apply Kd.R_alloc | apply Kd.R_drewN | apply Kd.R_drew)); exact HO215.out⟩, ⟨by repeat (first | (with_reducible first | exact HB.out | apply below_alloc | apply pw_below_drewN | apply below_drew1) | exact HB.out)⟩⟩
                    · rw [if_neg c15] at H
                      exact absurd H (by simp)
                · replace c11 := Bool.eq_false_iff.mpr c11
                  subst c11
                  have H1 : (if (Go.bits .and .i64 ((rd_T45 l0 x6_1).f0) 3) = (Go.bits .and .i64 ((rd_T45 l0 x6_1).f1) 3) then (phaetonlaw12_Cut.l0 kj4 l0 a1 x5_1 (wrap64 (x6_1 + 1))) else (if x5_1.length < 2932031007402 then (phaetonlaw12_Cut.l0 kj4 l0 a1 (x5_1 ++ [(⟨Go.bits .and .i64 ((rd_T45 l0 x6_1).f0) 3, Go.bits .and .i64 ((rd_T45 l0 x6_1).f1) 3, (⟨false, Go.bits .and .i64 ((rd_T45 l0 x6_1).f2.f1) 2047, Go.bits .and .i64 ((rd_T45 l0 x6_1).f2.f2) (Go.bits .and .i64 ((rd_T45 l0 x6_1).f2.f1) 2047)⟩ : S43), mx (-1) (mn ((rd_T45 l0 x6_1).f3) 2047)⟩ : S45)]) (wrap64 (x6_1 + 1))) else (none))) = some r := by rw [if_neg (show ¬ (false = true) by decide)] at H; exact H
                  clear H
                  have H := H1
                  clear H1
                  obtain ⟨ji17, hji17⟩ : ∃ j_ : Int, (mn ((rd_T45 l0 x6_1).f3) 2047) = j_ := ⟨_, rfl⟩
                  replace H : (if (Go.bits .and .i64 ((rd_T45 l0 x6_1).f0) 3) = (Go.bits .and .i64 ((rd_T45 l0 x6_1).f1) 3) then (phaetonlaw12_Cut.l0 kj4 l0 a1 x5_1 (wrap64 (x6_1 + 1))) else (if x5_1.length < 2932031007402 then (phaetonlaw12_Cut.l0 kj4 l0 a1 (x5_1 ++ [(⟨Go.bits .and .i64 ((rd_T45 l0 x6_1).f0) 3, Go.bits .and .i64 ((rd_T45 l0 x6_1).f1) 3, (⟨false, Go.bits .and .i64 ((rd_T45 l0 x6_1).f2.f1) 2047, Go.bits .and .i64 ((rd_T45 l0 x6_1).f2.f2) (Go.bits .and .i64 ((rd_T45 l0 x6_1).f2.f1) 2047)⟩ : S43), mx (-1) (ji17)⟩ : S45)]) (wrap64 (x6_1 + 1))) else (none))) = some r := by first | (rw [hji17] at H; exact H) | (simp only [hji17] at H ⊢; exact H)
                  have hji17_ : (if 2047 < ((rd_T45 l0 x6_1).f3) then 2047 else ((rd_T45 l0 x6_1).f3)) = ji17 := hji17
                  obtain ⟨ji18, hji18⟩ : ∃ j_ : Int, (mx (-1) (ji17)) = j_ := ⟨_, rfl⟩
                  replace H : (if (Go.bits .and .i64 ((rd_T45 l0 x6_1).f0) 3) = (Go.bits .and .i64 ((rd_T45 l0 x6_1).f1) 3) then (phaetonlaw12_Cut.l0 kj4 l0 a1 x5_1 (wrap64 (x6_1 + 1))) else (if x5_1.length < 2932031007402 then (phaetonlaw12_Cut.l0 kj4 l0 a1 (x5_1 ++ [(⟨Go.bits .and .i64 ((rd_T45 l0 x6_1).f0) 3, Go.bits .and .i64 ((rd_T45 l0 x6_1).f1) 3, (⟨false, Go.bits .and .i64 ((rd_T45 l0 x6_1).f2.f1) 2047, Go.bits .and .i64 ((rd_T45 l0 x6_1).f2.f2) (Go.bits .and .i64 ((rd_T45 l0 x6_1).f2.f1) 2047)⟩ : S43), ji18⟩ : S45)]) (wrap64 (x6_1 + 1))) else (none))) = some r := by first | (rw [hji18] at H; exact H) | (simp only [hji18] at H ⊢; exact H)
                  have hji18_ : (if (-1) < (ji17) then (ji17) else (-1)) = ji18 := hji18
                  by_cases c19 : (Go.bits .and .i64 ((rd_T45 l0 x6_1).f0) 3) = (Go.bits .and .i64 ((rd_T45 l0 x6_1).f1) 3)
                  · rw [if_pos c19] at H
                    have c19b0 : ((Go.bits .and .i64 ((rd_T45 l0 x6_1).f0) 3) == (Go.bits .and .i64 ((rd_T45 l0 x6_1).f1) 3)) = true := beq_iff_eq.mpr c19
                    have c19b1 : ((Go.bits .and .i64 ((rd_T45 l0 x6_1).f0) 3) != (Go.bits .and .i64 ((rd_T45 l0 x6_1).f1) 3)) = false := bne_eq_false_iff_eq.mpr c19
                    clear c19
                    have H' := Aside0.mk H
                    clear H
                    have p212 : 0 ≤ (x6_1 : Int) := of_decide_eq_true (by first | (with_reducible assumption) | assumption)
                    have q212 : x6_1 < (l0.length : Int) := of_decide_eq_true (by first | (with_reducible assumption) | assumption)
                    obtain ⟨ad212, e212, hx212_0, hx212_1, hx212_2, hx212_3, hx212_4, hx212_5⟩ := at_T45 HR0.out x6_1 p212 q212
                    (try rw [← Nbq10.out] at hx212_2)
                    cases e212
                    replace hx212_0 := (HB.out.cell (World.block_lt_of_cell? w _ hx212_0)).trans hx212_0
                    replace hx212_1 := (HB.out.cell (World.block_lt_of_cell? w _ hx212_1)).trans hx212_1
                    replace hx212_2 := (HB.out.cell (World.block_lt_of_cell? w _ hx212_2)).trans hx212_2
                    replace hx212_3 := (HB.out.cell (World.block_lt_of_cell? w _ hx212_3)).trans hx212_3
                    replace hx212_4 := (HB.out.cell (World.block_lt_of_cell? w _ hx212_4)).trans hx212_4
                    replace hx212_5 := (HB.out.cell (World.block_lt_of_cell? w _ hx212_5)).trans hx212_5
                    replace p212 := eq_true p212
                    replace q212 := eq_true q212
                    go_wp2
                    go_roundg kj4
                    case measure => have := HK1.out; have := HJ4.out; omega
                    case rel => exact ⟨(x5_1), (wrap64 (x6_1 + 1)), (by first | rfl | (simp; done) | (simp [*]; done)), H', ⟨by have := HK1.out; have := HJ4.out; omega⟩, ⟨by (with_reducible repeat (first | apply Kd.R_alloc | apply Kd.R_drewN | apply Kd.R_drew)); exact HO_5.out⟩, ⟨by repeat (first | (with_reducible first | exact HB.out | apply below_alloc | apply pw_below_drewN | apply below_drew1) | exact HB.out)⟩⟩
                  · rw [if_neg c19] at H
                    have c19b0 : ((Go.bits .and .i64 ((rd_T45 l0 x6_1).f0) 3) == (Go.bits .and .i64 ((rd_T45 l0 x6_1).f1) 3)) = false := beq_eq_false_iff_ne.mpr c19
                    have c19b1 : ((Go.bits .and .i64 ((rd_T45 l0 x6_1).f0) 3) != (Go.bits .and .i64 ((rd_T45 l0 x6_1).f1) 3)) = true := bne_iff_ne.mpr c19
                    by_cases c20 : x5_1.length < 2932031007402
                    · rw [if_pos c20] at H
                      have LMc20 := Aside0.mk c20
                      clear c20
                      obtain ⟨y216, hy216⟩ : ∃ y_ : List (S45), y_ = (x5_1 ++ [(⟨Go.bits .and .i64 ((rd_T45 l0 x6_1).f0) 3, Go.bits .and .i64 ((rd_T45 l0 x6_1).f1) 3, (⟨false, Go.bits .and .i64 ((rd_T45 l0 x6_1).f2.f1) 2047, Go.bits .and .i64 ((rd_T45 l0 x6_1).f2.f2) (Go.bits .and .i64 ((rd_T45 l0 x6_1).f2.f1) 2047)⟩ : S43), ji18⟩ : S45)]) := ⟨_, rfl⟩
                      replace H : (phaetonlaw12_Cut.l0 kj4 l0 a1 y216 (wrap64 (x6_1 + 1))) = some r := by first | (rw [hy216]; with_reducible exact H) | (have H2_ := (Option.bind_some _ _).symm.trans H; rw [hy216]; with_reducible exact H2_) | (have H2_ := (Option.bind_some _ _).symm.trans H; with_reducible exact H2_) | with_reducible exact H | (rw [hy216]; exact H) | exact H
                      have Ny216 := Aside0.mk hy216
                      clear hy216
                      have H' := Aside0.mk H
                      clear H
                      have p212 : 0 ≤ (x6_1 : Int) := of_decide_eq_true (by first | (with_reducible assumption) | assumption)
                      have q212 : x6_1 < (l0.length : Int) := of_decide_eq_true (by first | (with_reducible assumption) | assumption)
                      obtain ⟨ad212, e212, hx212_0, hx212_1, hx212_2, hx212_3, hx212_4, hx212_5⟩ := at_T45 HR0.out x6_1 p212 q212
                      (try rw [← Nbq10.out] at hx212_2)
                      cases e212
                      replace hx212_0 := (HB.out.cell (World.block_lt_of_cell? w _ hx212_0)).trans hx212_0
                      replace hx212_1 := (HB.out.cell (World.block_lt_of_cell? w _ hx212_1)).trans hx212_1
                      replace hx212_2 := (HB.out.cell (World.block_lt_of_cell? w _ hx212_2)).trans hx212_2
                      replace hx212_3 := (HB.out.cell (World.block_lt_of_cell? w _ hx212_3)).trans hx212_3
                      replace hx212_4 := (HB.out.cell (World.block_lt_of_cell? w _ hx212_4)).trans hx212_4
                      replace hx212_5 := (HB.out.cell (World.block_lt_of_cell? w _ hx212_5)).trans hx212_5
                      replace p212 := eq_true p212
                      replace q212 := eq_true q212
                      go_wp2_with (first | ((with_reducible refine gate_builtin (b := .append) (xs := #[.tmp 63, .tmp 65]) rfl ?_); at_builtin; refine Kd.R_append k45 (w0 := w) w.heap.size rfl (.tmp 63) (.tmp 65) 22 45 (.agg #[(.int .i64 0), (.int .i64 0), (.bool false), (.int .i64 0), (.int .i64 0), (.int .i64 0)]) 48 rfl Try.underlying22 info45 rfl (by decide) (by omega) u5 x5_1 (⟨Go.bits .and .i64 ((rd_T45 l0 x6_1).f0) 3, Go.bits .and .i64 ((rd_T45 l0 x6_1).f1) 3, (⟨false, Go.bits .and .i64 ((rd_T45 l0 x6_1).f2.f1) 2047, Go.bits .and .i64 ((rd_T45 l0 x6_1).f2.f2) (Go.bits .and .i64 ((rd_T45 l0 x6_1).f2.f1) 2047)⟩ : S43), ji18⟩ : S45) [.int .i64 (Go.bits .and .i64 ((rd_T45 l0 x6_1).f0) 3), .int .i64 (Go.bits .and .i64 ((rd_T45 l0 x6_1).f1) 3), .bool false, .int .i64 (Go.bits .and .i64 ((rd_T45 l0 x6_1).f2.f1) 2047), .int .i64 (Go.bits .and .i64 ((rd_T45 l0 x6_1).f2.f2) (Go.bits .and .i64 ((rd_T45 l0 x6_1).f2.f1) 2047)), .int .i64 ji18] (fun _ => True) (fun _ => False) rfl (by first | rfl | (go_simp; done) | (go_simp; rfl)) ?aP (fun _ hk => hk.elim) ?aF ?aO ?aB ?aS ?aL ?_; (case aP => exact k45_mkM _ _ _ (⟨Go.bits .and .i64 ((rd_T45 l0 x6_1).f0) 3, Go.bits .and .i64 ((rd_T45 l0 x6_1).f1) 3, (⟨false, Go.bits .and .i64 ((rd_T45 l0 x6_1).f2.f1) 2047, Go.bits .and .i64 ((rd_T45 l0 x6_1).f2.f2) (Go.bits .and .i64 ((rd_T45 l0 x6_1).f2.f1) 2047)⟩ : S43), ji18⟩ : S45)); (case aB => exact (by repeat (first | (with_reducible first | exact HB.out | apply below_alloc | apply pw_below_drewN | apply below_drew1) | exact HB.out))); (case aF => exact (fun _ _ => trivial)); (case aO => exact (by (with_reducible repeat (first | apply Kd.R_alloc | apply Kd.R_drewN | apply Kd.R_drew)); exact HO_5.out)); (case aS => exact (below_size (by repeat (first | (with_reducible first | exact HB.out | apply below_alloc | apply pw_below_drewN | apply below_drew1) | exact HB.out)))); (case aL => have := LMc20.out; omega); intro v217 w21 ho hb hg hat; rw [← Ny216.out] at ho; have n0_ := Aside0.mk (hb); have n1_ := Aside0.mk (ho); clear HB; clear HO_5; have HB := n0_; have HO218 := n1_; clear n0_ n1_; clear ho hb hg hat))
                      go_roundg kj4
                      case measure => have := HK1.out; have := HJ4.out; omega
                      case rel => exact ⟨(y216), (wrap64 (x6_1 + 1)), (by first | rfl | (simp; done) | (simp [*]; done)), H', ⟨by have := HK1.out; have := HJ4.out; omega⟩, ⟨by (with_reducible repeat (first | apply Kd.R_alloc | apply Kd.R_drewN | apply Kd.R_drew)); exact HO218.out⟩, ⟨by repeat (first | (with_reducible first | exact HB.out | apply below_alloc | apply pw_below_drewN | apply below_drew1) | exact HB.out)⟩⟩
                    · rw [if_neg c20] at H
                      exact absurd H (by simp)
              · rw [if_neg c9] at H
                exact absurd H (by simp)
            · rw [if_neg c8] at H
              exact absurd H (by simp)
          · replace c7 := Bool.eq_false_iff.mpr c7
            subst c7
            have H1 : (some x5_1) = some r := by rw [if_neg (show ¬ (false = true) by decide)] at H; exact H
            clear H
            have H := H1
            clear H1
            obtain rfl := Option.some.inj H
            go_wp2
            go_ret
            exact ⟨_, by first | rfl | (simp [errW_none, errW_some] <;> rfl) | (simp [*, errW_none, errW_some] <;> rfl), by (with_reducible repeat (first | apply Kd.R_alloc | apply Kd.R_drewN | apply Kd.R_drew)); exact HO_5.out, by repeat (first | (with_reducible first | exact HB.out | apply below_alloc | apply pw_below_drewN | apply below_drew1) | exact HB.out)⟩

/-! ### phaetonref07_Takes: function 30 -/
def phaetonref07_Takes.f (a0_0 : Bool) (a0_1 : Int) (a0_2 : Int) (a1_0 : Bool) (a1_1 : Int) (a1_2 : Bool) (a1_3 : Int) (l1_4 : List Int) : Option (Bool) := if (a0_0 == a1_0) = true then (some ((Go.bits .and .i64 a1_1 a0_1) == a0_2)) else (some false)
set_option maxHeartbeats 8000000 in
set_option maxRecDepth 100000 in
theorem phaetonref07_Takes.calls (a0_0 : Bool) (a0_1 : Int) (a0_2 : Int) (a1_0 : Bool) (a1_1 : Int) (a1_2 : Bool) (a1_3 : Int) (A1_4 : Option Addr) (c1_4 : Nat) (l1_4 : List Int) (r : Bool) (w : World) (hr1_4 : Kd.C (Kd.int .u8) w A1_4 l1_4.length l1_4) (hc1_4 : l1_4.length ≤ c1_4) (h : phaetonref07_Takes.f a0_0 a0_1 a0_2 a1_0 a1_1 a1_2 a1_3 l1_4 = some r) :
    Calls Try.prog 30 #[.agg #[.bool a0_0, .int .i64 a0_1, .int .i64 a0_2], .agg #[.bool a1_0, .int .i64 a1_1, .bool a1_2, .int .i64 a1_3, .slice A1_4 l1_4.length c1_4]] w fun e w' => e = .returned (.bool r) ∧ Below w.heap.size w w' := by
  have hu43 := Try.underlying43
  have hu25 := Try.underlying25
  have HR1_4 := Aside0.mk hr1_4
  have HC1_4 := Aside0.mk hc1_4
  clear hr1_4 hc1_4
  have HB := Aside0.mk (Below.refl w.heap.size w)
  have H : (if (a0_0 == a1_0) = true then (some ((Go.bits .and .i64 a1_1 a0_1) == a0_2)) else (some false)) = some r := h
  clear h
  by_cases c3 : (a0_0 == a1_0) = true
  · rw [if_pos c3] at H
    have c3b0 : (a0_0 == a1_0) = true := c3
    (try (have c3b1 : decide (a0_0 = a1_0) = true := by simpa using c3))
    (try (have c3b2 : (a0_0 == a1_0) = true := by simpa using c3))
    clear c3
    obtain rfl := Option.some.inj H
    go_enter Try.func30, Try.ntmps30
    go_wp2_with (first | ((with_reducible refine gate_dst (N := 2) rfl ?_); refine box_event ?hg (N := 2) ?hd (cs := #[.bool a0_0, .int .i64 a0_1, .int .i64 a0_2]) (t := 43) ?hr ?_; (case hd => rfl); (case hg => rfl); (case hr => first | (go_simp; done) | (go_simp; rfl)); intro gb219 hg w4 hbox hb; have n0_ := Aside0.mk (below_step (by repeat (first | (with_reducible first | exact HB.out | apply below_alloc | apply pw_below_drewN | apply below_drew1) | exact HB.out)) hb); have n1_ := Aside0.mk (hbox); have n2_ := Aside0.mk ((by rw [hg]; exact (below_size (by repeat (first | (with_reducible first | exact HB.out | apply below_alloc | apply pw_below_drewN | apply below_drew1) | exact HB.out))) : w.heap.size ≤ gb219)); have n3_ := Aside0.mk ((by rw [hg]; exact (below_size (by repeat (first | (with_reducible first | exact HB.out | apply below_alloc | apply pw_below_drewN | apply below_drew1) | exact HB.out))) : w.heap.size ≤ gb219)); clear HB; have HB := n0_; have BK219 := n1_; have GW219 := n2_; have GE219 := n3_; clear n0_ n1_ n2_ n3_; clear hb hbox hg) | ((with_reducible refine gate_dst (N := 3) rfl ?_); refine box_event ?hg (N := 3) ?hd (cs := #[.bool a1_0, .int .i64 a1_1, .bool a1_2, .int .i64 a1_3, .slice A1_4 l1_4.length c1_4]) (t := 25) ?hr ?_; (case hd => rfl); (case hg => rfl); (case hr => first | (go_simp; done) | (go_simp; rfl)); intro gb220 hg w5 hbox hb; have n0_ := Aside0.mk (blk_below (g := gb219) (o := .cells #[.bool a0_0, .int .i64 a0_1, .int .i64 a0_2] 43 (0, 0)) (by (with_reducible repeat (first | refine blk_drewN ?_ _ | refine blk_drew ?_ | refine blk_alloc ?_ _)); exact BK219.out) hb); have n1_ := Aside0.mk (below_step (by repeat (first | (with_reducible first | exact HB.out | apply below_alloc | apply pw_below_drewN | apply below_drew1 | refine below_set ?_ GE219.out) | exact HB.out)) hb); have n2_ := Aside0.mk (hbox); have n3_ := Aside0.mk ((by rw [hg]; exact (below_size (by repeat (first | (with_reducible first | exact HB.out | apply below_alloc | apply pw_below_drewN | apply below_drew1 | refine below_set ?_ GE219.out) | exact HB.out))) : w.heap.size ≤ gb220)); have n4_ := Aside0.mk ((by rw [hg]; exact (below_size (by repeat (first | (with_reducible first | exact HB.out | apply below_alloc | apply pw_below_drewN | apply below_drew1 | refine below_set ?_ GE219.out) | exact HB.out))) : w.heap.size ≤ gb220)); have n5_ := Aside0.mk ((by rw [hg]; exact Nat.ne_of_lt (blk_lt (g := gb219) (o := .cells #[.bool a0_0, .int .i64 a0_1, .int .i64 a0_2] 43 (0, 0)) (by (with_reducible repeat (first | refine blk_drewN ?_ _ | refine blk_drew ?_ | refine blk_alloc ?_ _)); exact BK219.out)) : gb219 ≠ gb220)); have n6_ := Aside0.mk ((by rw [hg]; exact Nat.ne_of_gt (blk_lt (g := gb219) (o := .cells #[.bool a0_0, .int .i64 a0_1, .int .i64 a0_2] 43 (0, 0)) (by (with_reducible repeat (first | refine blk_drewN ?_ _ | refine blk_drew ?_ | refine blk_alloc ?_ _)); exact BK219.out)) : gb220 ≠ gb219)); clear BK219; clear HB; have BK219 := n0_; have HB := n1_; have BK220 := n2_; have GW220 := n3_; have GE220 := n4_; have NB219_220 := n5_; have NB220_219 := n6_; clear n0_ n1_ n2_ n3_ n4_ n5_ n6_; clear hb hbox hg; have hnb6 := NB219_220.out; have hnc6 := NB220_219.out; have hcz7_0 : w5.cell? ⟨gb219, 0, none⟩ = some (.bool a0_0) := (blk_cell BK219.out 0).trans rfl; have hcz7_1 : w5.cell? ⟨gb219, 1, none⟩ = some (.int .i64 a0_1) := (blk_cell BK219.out 1).trans rfl; have hcz7_2 : w5.cell? ⟨gb219, 2, none⟩ = some (.int .i64 a0_2) := (blk_cell BK219.out 2).trans rfl; have hfz7_0 := blk_frozen BK219.out 0; have hfz7_1 := blk_frozen BK219.out 1; have hfz7_2 := blk_frozen BK219.out 2; have hcz8_0 : w5.cell? ⟨gb220, 0, none⟩ = some (.bool a1_0) := (blk_cell BK220.out 0).trans rfl; have hcz8_1 : w5.cell? ⟨gb220, 1, none⟩ = some (.int .i64 a1_1) := (blk_cell BK220.out 1).trans rfl; have hcz8_2 : w5.cell? ⟨gb220, 2, none⟩ = some (.bool a1_2) := (blk_cell BK220.out 2).trans rfl; have hcz8_3 : w5.cell? ⟨gb220, 3, none⟩ = some (.int .i64 a1_3) := (blk_cell BK220.out 3).trans rfl; have hcz8_4 : w5.cell? ⟨gb220, 4, none⟩ = some (.slice A1_4 l1_4.length c1_4) := (blk_cell BK220.out 4).trans rfl; have hfz8_0 := blk_frozen BK220.out 0; have hfz8_1 := blk_frozen BK220.out 1; have hfz8_2 := blk_frozen BK220.out 2; have hfz8_3 := blk_frozen BK220.out 3; have hfz8_4 := blk_frozen BK220.out 4))
    go_ret
    exact ⟨by first | rfl | (simp [errW_none, errW_some] <;> rfl) | (simp [*, errW_none, errW_some] <;> rfl), by repeat (first | (with_reducible first | exact HB.out | apply below_alloc | apply pw_below_drewN | apply below_drew1 | refine below_set ?_ GE219.out | refine below_set ?_ GE220.out) | exact HB.out)⟩
  · rw [if_neg c3] at H
    have c3b0 : (a0_0 == a1_0) = false := by simpa using c3
    (try (have c3b1 : decide (a0_0 = a1_0) = false := by simpa using c3))
    (try (have c3b2 : (a0_0 == a1_0) = false := by simpa using c3))
    (try (have c3b3 : ¬ (a0_0 = a1_0) := by simpa using c3))
    clear c3
    obtain rfl := Option.some.inj H
    go_enter Try.func30, Try.ntmps30
    go_wp2_with (first | ((with_reducible refine gate_dst (N := 2) rfl ?_); refine box_event ?hg (N := 2) ?hd (cs := #[.bool a0_0, .int .i64 a0_1, .int .i64 a0_2]) (t := 43) ?hr ?_; (case hd => rfl); (case hg => rfl); (case hr => first | (go_simp; done) | (go_simp; rfl)); intro gb219 hg w9 hbox hb; have n0_ := Aside0.mk (below_step (by repeat (first | (with_reducible first | exact HB.out | apply below_alloc | apply pw_below_drewN | apply below_drew1) | exact HB.out)) hb); have n1_ := Aside0.mk (hbox); have n2_ := Aside0.mk ((by rw [hg]; exact (below_size (by repeat (first | (with_reducible first | exact HB.out | apply below_alloc | apply pw_below_drewN | apply below_drew1) | exact HB.out))) : w.heap.size ≤ gb219)); have n3_ := Aside0.mk ((by rw [hg]; exact (below_size (by repeat (first | (with_reducible first | exact HB.out | apply below_alloc | apply pw_below_drewN | apply below_drew1) | exact HB.out))) : w.heap.size ≤ gb219)); clear HB; have HB := n0_; have BK219 := n1_; have GW219 := n2_; have GE219 := n3_; clear n0_ n1_ n2_ n3_; clear hb hbox hg) | ((with_reducible refine gate_dst (N := 3) rfl ?_); refine box_event ?hg (N := 3) ?hd (cs := #[.bool a1_0, .int .i64 a1_1, .bool a1_2, .int .i64 a1_3, .slice A1_4 l1_4.length c1_4]) (t := 25) ?hr ?_; (case hd => rfl); (case hg => rfl); (case hr => first | (go_simp; done) | (go_simp; rfl)); intro gb220 hg w10 hbox hb; have n0_ := Aside0.mk (blk_below (g := gb219) (o := .cells #[.bool a0_0, .int .i64 a0_1, .int .i64 a0_2] 43 (0, 0)) (by (with_reducible repeat (first | refine blk_drewN ?_ _ | refine blk_drew ?_ | refine blk_alloc ?_ _)); exact BK219.out) hb); have n1_ := Aside0.mk (below_step (by repeat (first | (with_reducible first | exact HB.out | apply below_alloc | apply pw_below_drewN | apply below_drew1 | refine below_set ?_ GE219.out) | exact HB.out)) hb); have n2_ := Aside0.mk (hbox); have n3_ := Aside0.mk ((by rw [hg]; exact (below_size (by repeat (first | (with_reducible first | exact HB.out | apply below_alloc | apply pw_below_drewN | apply below_drew1 | refine below_set ?_ GE219.out) | exact HB.out))) : w.heap.size ≤ gb220)); have n4_ := Aside0.mk ((by rw [hg]; exact (below_size (by repeat (first | (with_reducible first | exact HB.out | apply below_alloc | apply pw_below_drewN | apply below_drew1 | refine below_set ?_ GE219.out) | exact HB.out))) : w.heap.size ≤ gb220)); have n5_ := Aside0.mk ((by rw [hg]; exact Nat.ne_of_lt (blk_lt (g := gb219) (o := .cells #[.bool a0_0, .int .i64 a0_1, .int .i64 a0_2] 43 (0, 0)) (by (with_reducible repeat (first | refine blk_drewN ?_ _ | refine blk_drew ?_ | refine blk_alloc ?_ _)); exact BK219.out)) : gb219 ≠ gb220)); have n6_ := Aside0.mk ((by rw [hg]; exact Nat.ne_of_gt (blk_lt (g := gb219) (o := .cells #[.bool a0_0, .int .i64 a0_1, .int .i64 a0_2] 43 (0, 0)) (by (with_reducible repeat (first | refine blk_drewN ?_ _ | refine blk_drew ?_ | refine blk_alloc ?_ _)); exact BK219.out)) : gb220 ≠ gb219)); clear BK219; clear HB; have BK219 := n0_; have HB := n1_; have BK220 := n2_; have GW220 := n3_; have GE220 := n4_; have NB219_220 := n5_; have NB220_219 := n6_; clear n0_ n1_ n2_ n3_ n4_ n5_ n6_; clear hb hbox hg; have hnb11 := NB219_220.out; have hnc11 := NB220_219.out; have hcz12_0 : w10.cell? ⟨gb219, 0, none⟩ = some (.bool a0_0) := (blk_cell BK219.out 0).trans rfl; have hcz12_1 : w10.cell? ⟨gb219, 1, none⟩ = some (.int .i64 a0_1) := (blk_cell BK219.out 1).trans rfl; have hcz12_2 : w10.cell? ⟨gb219, 2, none⟩ = some (.int .i64 a0_2) := (blk_cell BK219.out 2).trans rfl; have hfz12_0 := blk_frozen BK219.out 0; have hfz12_1 := blk_frozen BK219.out 1; have hfz12_2 := blk_frozen BK219.out 2; have hcz13_0 : w10.cell? ⟨gb220, 0, none⟩ = some (.bool a1_0) := (blk_cell BK220.out 0).trans rfl; have hcz13_1 : w10.cell? ⟨gb220, 1, none⟩ = some (.int .i64 a1_1) := (blk_cell BK220.out 1).trans rfl; have hcz13_2 : w10.cell? ⟨gb220, 2, none⟩ = some (.bool a1_2) := (blk_cell BK220.out 2).trans rfl; have hcz13_3 : w10.cell? ⟨gb220, 3, none⟩ = some (.int .i64 a1_3) := (blk_cell BK220.out 3).trans rfl; have hcz13_4 : w10.cell? ⟨gb220, 4, none⟩ = some (.slice A1_4 l1_4.length c1_4) := (blk_cell BK220.out 4).trans rfl; have hfz13_0 := blk_frozen BK220.out 0; have hfz13_1 := blk_frozen BK220.out 1; have hfz13_2 := blk_frozen BK220.out 2; have hfz13_3 := blk_frozen BK220.out 3; have hfz13_4 := blk_frozen BK220.out 4))
    go_ret
    exact ⟨by first | rfl | (simp [errW_none, errW_some] <;> rfl) | (simp [*, errW_none, errW_some] <;> rfl), by repeat (first | (with_reducible first | exact HB.out | apply below_alloc | apply pw_below_drewN | apply below_drew1 | refine below_set ?_ GE219.out | refine below_set ?_ GE220.out) | exact HB.out)⟩

end Go.Proofs.Ytpcabeefahldlaa.P

/- Go functions that the laws of this seat reach, each as a Lean function, and a proof that a call of the Go code comes to its answers; written by a program (the kit's print, turned in a few places). Conditions: each theorem's own premises. -/
import Derived.Test.YtcgkkjimonfhbaaPx0
import Derived.Test.YtcgkkjimonfhbaaPx11
import Derived.Test.YtcgkkjimonfhbaaPx12
import Derived.Test.YtcgkkjimonfhbaaPx20
namespace Go.Proofs.Ytcgkkjimonfhbaa.P
open Go.RowKit Go.Proofs.YtcgkkjimonfhbaaW.PrintWords Go.Proofs.YtcgkkjimonfhbaaW.PrintLast Go.Proofs.YtcgkkjimonfhbaaW.PrintMore
attribute [local go_sem] max2_int min2_int max_two min_two max_three min_three max_four min_four   -- for this text's walks alone
set_option linter.unusedVariables false
set_option linter.unusedSimpArgs false

/-! ### phaetonref15_Apart: function 28 -/
mutual
def phaetonref15_Apart.l0 : Nat → List (S23) → Int → Int → Option (Bool)
 | 0, _, _, _ => none
 | k + 1, x0, x1, x5 => if x5 < (x0.length : Int) then (if 0 ≤ x5 then ((phaetonref15_Right.f k ((rd_T23 x0 x5).f0) ((rd_T23 x0 x5).f1) ((rd_T23 x0 x5).f2) ((rd_T23 x0 x5).f3) ((rd_T23 x0 x5).f4) ((rd_T23 x0 x5).f5) x1).bind fun t401 => (if t401 = true then (phaetonref15_Apart.l0 k x0 x1 (wrap64 (x5 + 1))) else (some false))) else (none)) else (phaetonref15_Apart.l1 k x0 0)
def phaetonref15_Apart.l1 : Nat → List (S23) → Int → Option (Bool)
 | 0, _, _ => none
 | k + 1, x0, x6 => if x6 < (x0.length : Int) then (if 0 ≤ x6 then ((phaetonref15_Places.f k ((rd_T23 x0 x6).f0) ((rd_T23 x0 x6).f1) ((rd_T23 x0 x6).f2) ((rd_T23 x0 x6).f3) ((rd_T23 x0 x6).f4) ((rd_T23 x0 x6).f5)).bind fun t403 => (phaetonref15_Apart.l2 k x0 x6 t403 (wrap64 (x6 + 1)))) else (none)) else (some true)
def phaetonref15_Apart.l2 : Nat → List (S23) → Int → List Int → Int → Option (Bool)
 | 0, _, _, _, _ => none
 | k + 1, x0, x6, x7, x8 => if x8 < (x0.length : Int) then (if 0 ≤ x8 then ((phaetonref15_Places.f k ((rd_T23 x0 x8).f0) ((rd_T23 x0 x8).f1) ((rd_T23 x0 x8).f2) ((rd_T23 x0 x8).f3) ((rd_T23 x0 x8).f4) ((rd_T23 x0 x8).f5)).bind fun t407 => (phaetonref15_Apart.l3 k x0 x6 x7 x8 t407 0)) else (none)) else (phaetonref15_Apart.l1 k x0 (wrap64 (x6 + 1)))
def phaetonref15_Apart.l3 : Nat → List (S23) → Int → List Int → Int → List Int → Int → Option (Bool)
 | 0, _, _, _, _, _, _ => none
 | k + 1, x0, x6, x7, x8, x9, x10 => if x10 < (x7.length : Int) then (if 0 ≤ x10 then ((phaetonref15_In.f k x9 (rd x7 x10)).bind fun t411 => (if t411 = true then (some false) else (phaetonref15_Apart.l3 k x0 x6 x7 x8 x9 (wrap64 (x10 + 1))))) else (none)) else (phaetonref15_Apart.l2 k x0 x6 x7 (wrap64 (x8 + 1)))
end
def phaetonref15_Apart.f (k : Nat) (l0 : List (S23)) (a1 : Int) : Option (Bool) := phaetonref15_Apart.l0 k l0 a1 0
theorem phaetonref15_Apart.mono_l : ∀ k, (∀ y0 y1 y2, LeO (phaetonref15_Apart.l0 k y0 y1 y2) (phaetonref15_Apart.l0 (k + 1) y0 y1 y2)) ∧ (∀ y0 y1, LeO (phaetonref15_Apart.l1 k y0 y1) (phaetonref15_Apart.l1 (k + 1) y0 y1)) ∧ (∀ y0 y1 y2 y3, LeO (phaetonref15_Apart.l2 k y0 y1 y2 y3) (phaetonref15_Apart.l2 (k + 1) y0 y1 y2 y3)) ∧ (∀ y0 y1 y2 y3 y4 y5, LeO (phaetonref15_Apart.l3 k y0 y1 y2 y3 y4 y5) (phaetonref15_Apart.l3 (k + 1) y0 y1 y2 y3 y4 y5))
 | 0 => ⟨fun _ _ _ r h => by simp [phaetonref15_Apart.l0] at h, fun _ _ r h => by simp [phaetonref15_Apart.l1] at h, fun _ _ _ _ r h => by simp [phaetonref15_Apart.l2] at h, fun _ _ _ _ _ _ r h => by simp [phaetonref15_Apart.l3] at h⟩
 | k + 1 => by
  obtain ⟨ih0, ih1, ih2, ih3⟩ := phaetonref15_Apart.mono_l k
  refine ⟨?_, ?_, ?_, ?_⟩
  ·intro y0 y1 y2
   unfold phaetonref15_Apart.l0
   repeat' first
   | (with_reducible exact ih0 _ _ _)
   | (with_reducible exact ih1 _ _)
   | (with_reducible exact ih2 _ _ _ _)
   | (with_reducible exact ih3 _ _ _ _ _ _)
   | (with_reducible exact phaetonref15_In.mono _ _ _)
   | (with_reducible exact phaetonref15_Places.mono _ _ _ _ _ _ _)
   | (with_reducible exact phaetonref15_Right.mono _ _ _ _ _ _ _ _)
   | (with_reducible exact LeO.refl _)
   | (with_reducible exact LeO.none _)
   | (with_reducible refine LeO.ite ?_ ?_)
   | (with_reducible refine LeO.bind ?_ (fun _ => ?_))
   | exact ih0 _ _ _
   | exact ih1 _ _
   | exact ih2 _ _ _ _
   | exact ih3 _ _ _ _ _ _
   | exact phaetonref15_In.mono _ _ _
   | exact phaetonref15_Places.mono _ _ _ _ _ _ _
   | exact phaetonref15_Right.mono _ _ _ _ _ _ _ _
   | exact LeO.none _
   | refine LeO.ite ?_ ?_
   | refine LeO.bind ?_ (fun _ => ?_)
  ·intro y0 y1
   unfold phaetonref15_Apart.l1
   repeat' first
   | (with_reducible exact ih0 _ _ _)
   | (with_reducible exact ih1 _ _)
   | (with_reducible exact ih2 _ _ _ _)
   | (with_reducible exact ih3 _ _ _ _ _ _)
   | (with_reducible exact phaetonref15_In.mono _ _ _)
   | (with_reducible exact phaetonref15_Places.mono _ _ _ _ _ _ _)
   | (with_reducible exact phaetonref15_Right.mono _ _ _ _ _ _ _ _)
   | (with_reducible exact LeO.refl _)
   | (with_reducible exact LeO.none _)
   | (with_reducible refine LeO.ite ?_ ?_)
   | (with_reducible refine LeO.bind ?_ (fun _ => ?_))
   | exact ih0 _ _ _
   | exact ih1 _ _
   | exact ih2 _ _ _ _
   | exact ih3 _ _ _ _ _ _
   | exact phaetonref15_In.mono _ _ _
   | exact phaetonref15_Places.mono _ _ _ _ _ _ _
   | exact phaetonref15_Right.mono _ _ _ _ _ _ _ _
   | exact LeO.none _
   | refine LeO.ite ?_ ?_
   | refine LeO.bind ?_ (fun _ => ?_)
  ·intro y0 y1 y2 y3
   unfold phaetonref15_Apart.l2
   repeat' first
   | (with_reducible exact ih0 _ _ _)
   | (with_reducible exact ih1 _ _)
   | (with_reducible exact ih2 _ _ _ _)
   | (with_reducible exact ih3 _ _ _ _ _ _)
   | (with_reducible exact phaetonref15_In.mono _ _ _)
   | (with_reducible exact phaetonref15_Places.mono _ _ _ _ _ _ _)
   | (with_reducible exact phaetonref15_Right.mono _ _ _ _ _ _ _ _)
   | (with_reducible exact LeO.refl _)
   | (with_reducible exact LeO.none _)
   | (with_reducible refine LeO.ite ?_ ?_)
   | (with_reducible refine LeO.bind ?_ (fun _ => ?_))
   | exact ih0 _ _ _
   | exact ih1 _ _
   | exact ih2 _ _ _ _
   | exact ih3 _ _ _ _ _ _
   | exact phaetonref15_In.mono _ _ _
   | exact phaetonref15_Places.mono _ _ _ _ _ _ _
   | exact phaetonref15_Right.mono _ _ _ _ _ _ _ _
   | exact LeO.none _
   | refine LeO.ite ?_ ?_
   | refine LeO.bind ?_ (fun _ => ?_)
  ·intro y0 y1 y2 y3 y4 y5
   unfold phaetonref15_Apart.l3
   repeat' first
   | (with_reducible exact ih0 _ _ _)
   | (with_reducible exact ih1 _ _)
   | (with_reducible exact ih2 _ _ _ _)
   | (with_reducible exact ih3 _ _ _ _ _ _)
   | (with_reducible exact phaetonref15_In.mono _ _ _)
   | (with_reducible exact phaetonref15_Places.mono _ _ _ _ _ _ _)
   | (with_reducible exact phaetonref15_Right.mono _ _ _ _ _ _ _ _)
   | (with_reducible exact LeO.refl _)
   | (with_reducible exact LeO.none _)
   | (with_reducible refine LeO.ite ?_ ?_)
   | (with_reducible refine LeO.bind ?_ (fun _ => ?_))
   | exact ih0 _ _ _
   | exact ih1 _ _
   | exact ih2 _ _ _ _
   | exact ih3 _ _ _ _ _ _
   | exact phaetonref15_In.mono _ _ _
   | exact phaetonref15_Places.mono _ _ _ _ _ _ _
   | exact phaetonref15_Right.mono _ _ _ _ _ _ _ _
   | exact LeO.none _
   | refine LeO.ite ?_ ?_
   | refine LeO.bind ?_ (fun _ => ?_)
theorem phaetonref15_Apart.mono : ∀ a0 a1 k, LeO (phaetonref15_Apart.f k a0 a1) (phaetonref15_Apart.f (k + 1) a0 a1) := by
 intro a0 a1 k
 obtain ⟨ih0, ih1, ih2, ih3⟩ := phaetonref15_Apart.mono_l k
 unfold phaetonref15_Apart.f
 repeat' first
   | (with_reducible exact ih0 _ _ _)
   | (with_reducible exact ih1 _ _)
   | (with_reducible exact ih2 _ _ _ _)
   | (with_reducible exact ih3 _ _ _ _ _ _)
   | (with_reducible exact phaetonref15_In.mono _ _ _)
   | (with_reducible exact phaetonref15_Places.mono _ _ _ _ _ _ _)
   | (with_reducible exact phaetonref15_Right.mono _ _ _ _ _ _ _ _)
   | (with_reducible exact LeO.refl _)
   | (with_reducible exact LeO.none _)
   | (with_reducible refine LeO.ite ?_ ?_)
   | (with_reducible refine LeO.bind ?_ (fun _ => ?_))
   | exact ih0 _ _ _
   | exact ih1 _ _
   | exact ih2 _ _ _ _
   | exact ih3 _ _ _ _ _ _
   | exact phaetonref15_In.mono _ _ _
   | exact phaetonref15_Places.mono _ _ _ _ _ _ _
   | exact phaetonref15_Right.mono _ _ _ _ _ _ _ _
   | exact LeO.none _
   | refine LeO.ite ?_ ?_
   | refine LeO.bind ?_ (fun _ => ?_)
set_option maxHeartbeats 8000000 in
set_option maxRecDepth 100000 in
theorem phaetonref15_Apart.calls (k : Nat) (A0 : Option Addr) (c0 : Nat) (l0 : List (S23)) (a1 : Int) (r : Bool) (w : World) (hr0 : Kd.C k23 w A0 l0.length l0) (hc0 : l0.length ≤ c0) (h : phaetonref15_Apart.f k l0 a1 = some r) :
  Calls Try.prog 28 #[.slice A0 l0.length c0, .int .i64 a1] w fun e w' => e = .returned (.bool r) ∧ Below w.heap.size w w' := by
 have hu23 := Try.underlying23
 have HR0 := aM hr0
 have HC0 := aM hc0
 clear hr0 hc0
 have HB := aM (Below.refl w.heap.size w)
 have H : (phaetonref15_Apart.l0 k l0 a1 0) = some r := h
 clear h
 have H' := aM H
 clear H
 go_enter Try.func28, Try.ntmps28
 go_wp2
 go_loopg [5] k (fun kq v5 w' => ∃ (x5_1 : Int), v5 = .int .i64 x5_1 ∧ Aside0 (phaetonref15_Apart.l0 kq l0 a1 x5_1 = some r) ∧ Aside0 (kq ≤ k) ∧ Aside0 (Below w.heap.size w w'))
 case atStart => exact ⟨(0), (by first | rfl | (simp; done) | (simp [*]; done)), H', ⟨Nat.le_refl _⟩, ⟨by repeat (first | (with_reducible first | exact HB.out | apply lA | apply lN | apply lW) | exact HB.out)⟩⟩
 case round =>
  clear H'
  try clear c2
  try clear p2
  obtain ⟨x5_1, rfl, HA, HK1, HB⟩ := hrel
  cases gk with
  | zero => exact absurd HA.out (by simp [phaetonref15_Apart.l0])
  | succ k1 =>
   have H := HA.out
   clear HA
   simp only [phaetonref15_Apart.l0] at H
   by_cases c3 : x5_1 < (l0.length : Int)
   ·rw [if_pos c3] at H
    have c3b0 : decide (x5_1 < (l0.length : Int)) = true := decide_eq_true c3
    clear c3
    by_cases c4 : 0 ≤ x5_1
    ·rw [if_pos c4] at H
     have c4b0 : decide (0 ≤ x5_1) = true := decide_eq_true c4
     clear c4
     replace H := Option.bind_eq_some_iff.mp H
     obtain ⟨t401, A50, H⟩ := H
     replace H : (if t401 = true then (phaetonref15_Apart.l0 k1 l0 a1 (wrap64 (x5_1 + 1))) else (some false)) = some r := H
     have A5 := aM A50
     clear A50
     by_cases c6 : t401 = true
     ·subst c6
      have H1 : (phaetonref15_Apart.l0 k1 l0 a1 (wrap64 (x5_1 + 1))) = some r := by rw [if_pos rfl] at H; exact H
      clear H
      have H := H1
      clear H1
      have H' := aM H
      clear H
      have p400 : 0 ≤ (x5_1 : Int) := oD (by first | (with_reducible assumption) | assumption)
      have q400 : x5_1 < (l0.length : Int) := oD (by first | (with_reducible assumption) | assumption)
      obtain ⟨ad400, e400, hx400_0, hx400_1, hx400_2, hx400_3, hx400_4, hx400_5⟩ := at_T23 HR0.out x5_1 p400 q400
      cases e400
      replace hx400_0 := (HB.out.cell (wl w _ hx400_0)).trans hx400_0
      replace hx400_1 := (HB.out.cell (wl w _ hx400_1)).trans hx400_1
      replace hx400_2 := (HB.out.cell (wl w _ hx400_2)).trans hx400_2
      replace hx400_3 := (HB.out.cell (wl w _ hx400_3)).trans hx400_3
      replace hx400_4 := (HB.out.cell (wl w _ hx400_4)).trans hx400_4
      replace hx400_5 := (HB.out.cell (wl w _ hx400_5)).trans hx400_5
      replace p400 := eq_true p400
      replace q400 := eq_true q400
      go_wp2_with (first | ((with_reducible refine gate_callee (f := 17) rfl ?_); refine goesL_ (some 22) rfl rfl Try.func17 (by kernel_rfl) rfl #[.agg #[.int .i64 ((rd_T23 l0 x5_1).f0), .int .i64 ((rd_T23 l0 x5_1).f1), .bool ((rd_T23 l0 x5_1).f2), .bool ((rd_T23 l0 x5_1).f3), .int .i64 ((rd_T23 l0 x5_1).f4), .int .i64 ((rd_T23 l0 x5_1).f5)], .int .i64 a1] rfl (by (try simp only [List.map_toArray, List.map_cons, List.map_nil]); first | done | rfl | (simp only [List.length_drop, List.length_take]; rfl)) ?_; (with_reducible refine (phaetonref15_Right.calls k1 ((rd_T23 l0 x5_1).f0) ((rd_T23 l0 x5_1).f1) ((rd_T23 l0 x5_1).f2) ((rd_T23 l0 x5_1).f3) ((rd_T23 l0 x5_1).f4) ((rd_T23 l0 x5_1).f5) a1 true _ A5.out).mono ?_); rintro e w7 ⟨rfl, hb⟩; refine ⟨_, rfl, ?_⟩; have n0_ := aM (lT (by repeat (first | (with_reducible first | exact HB.out | apply lA | apply lN | apply lW) | exact HB.out)) hb); clear HB; have HB := n0_; clear n0_; (try clear hb); (try clear hb2); (try clear hk); (try clear hi)))
      go_roundg k1
      case measure => have := HK1.out; omega
      case rel => exact ⟨(wrap64 (x5_1 + 1)), (by first | rfl | (simp; done) | (simp [*]; done)), H', ⟨by have := HK1.out; omega⟩, ⟨by repeat (first | (with_reducible first | exact HB.out | apply lA | apply lN | apply lW) | exact HB.out)⟩⟩
     ·replace c6 := Bool.eq_false_iff.mpr c6
      subst c6
      have H1 : (some false) = some r := by rw [if_neg (show ¬ (false = true) by decide)] at H; exact H
      clear H
      have H := H1
      clear H1
      obtain rfl := Option.some.inj H
      have p400 : 0 ≤ (x5_1 : Int) := oD (by first | (with_reducible assumption) | assumption)
      have q400 : x5_1 < (l0.length : Int) := oD (by first | (with_reducible assumption) | assumption)
      obtain ⟨ad400, e400, hx400_0, hx400_1, hx400_2, hx400_3, hx400_4, hx400_5⟩ := at_T23 HR0.out x5_1 p400 q400
      cases e400
      replace hx400_0 := (HB.out.cell (wl w _ hx400_0)).trans hx400_0
      replace hx400_1 := (HB.out.cell (wl w _ hx400_1)).trans hx400_1
      replace hx400_2 := (HB.out.cell (wl w _ hx400_2)).trans hx400_2
      replace hx400_3 := (HB.out.cell (wl w _ hx400_3)).trans hx400_3
      replace hx400_4 := (HB.out.cell (wl w _ hx400_4)).trans hx400_4
      replace hx400_5 := (HB.out.cell (wl w _ hx400_5)).trans hx400_5
      replace p400 := eq_true p400
      replace q400 := eq_true q400
      go_wp2_with (first | ((with_reducible refine gate_callee (f := 17) rfl ?_); refine goesL_ (some 22) rfl rfl Try.func17 (by kernel_rfl) rfl #[.agg #[.int .i64 ((rd_T23 l0 x5_1).f0), .int .i64 ((rd_T23 l0 x5_1).f1), .bool ((rd_T23 l0 x5_1).f2), .bool ((rd_T23 l0 x5_1).f3), .int .i64 ((rd_T23 l0 x5_1).f4), .int .i64 ((rd_T23 l0 x5_1).f5)], .int .i64 a1] rfl (by (try simp only [List.map_toArray, List.map_cons, List.map_nil]); first | done | rfl | (simp only [List.length_drop, List.length_take]; rfl)) ?_; (with_reducible refine (phaetonref15_Right.calls k1 ((rd_T23 l0 x5_1).f0) ((rd_T23 l0 x5_1).f1) ((rd_T23 l0 x5_1).f2) ((rd_T23 l0 x5_1).f3) ((rd_T23 l0 x5_1).f4) ((rd_T23 l0 x5_1).f5) a1 false _ A5.out).mono ?_); rintro e w8 ⟨rfl, hb⟩; refine ⟨_, rfl, ?_⟩; have n0_ := aM (lT (by repeat (first | (with_reducible first | exact HB.out | apply lA | apply lN | apply lW) | exact HB.out)) hb); clear HB; have HB := n0_; clear n0_; (try clear hb); (try clear hb2); (try clear hk); (try clear hi)))
      go_ret
      exact ⟨by first | rfl | (simp [errW_none, errW_some] <;> rfl) | (simp [*, errW_none, errW_some] <;> rfl), by repeat (first | (with_reducible first | exact HB.out | apply lA | apply lN | apply lW) | exact HB.out)⟩
    ·rw [if_neg c4] at H
     exact absurd H (by simp)
   ·rw [if_neg c3] at H
    have c3b0 : decide (x5_1 < (l0.length : Int)) = false := decide_eq_false c3
    clear c3
    have H' := aM H
    clear H
    go_wp2
    go_loopg [6] k1 (fun kq v6 w' => ∃ (x6_2 : Int), v6 = .int .i64 x6_2 ∧ Aside0 (phaetonref15_Apart.l1 kq l0 x6_2 = some r) ∧ Aside0 (kq ≤ k1) ∧ Aside0 (Below w.heap.size w w'))
    case atStart => exact ⟨(0), (by first | rfl | (simp; done) | (simp [*]; done)), H', ⟨Nat.le_refl _⟩, ⟨by repeat (first | (with_reducible first | exact HB.out | apply lA | apply lN | apply lW) | exact HB.out)⟩⟩
    case round =>
     clear H'
     try clear c1
     try clear c2
     try clear p2
     try clear c3
     try clear c3b0
     try clear c4
     try clear c4b0
     try clear p4
     try clear q4
     try clear hx4
     try clear c6
     try clear p6
     try clear hx400_0
     try clear hx400_1
     try clear hx400_2
     try clear hx400_3
     try clear hx400_4
     try clear hx400_5
     try clear p2
     try clear p400
     try clear q400
     obtain ⟨x6_2, rfl, HA, HK2, HB⟩ := hrel
     cases gk with
     | zero => exact absurd HA.out (by simp [phaetonref15_Apart.l1])
     | succ k2 =>
      have H := HA.out
      clear HA
      simp only [phaetonref15_Apart.l1] at H
      by_cases c9 : x6_2 < (l0.length : Int)
      ·rw [if_pos c9] at H
       have c9b0 : decide (x6_2 < (l0.length : Int)) = true := decide_eq_true c9
       clear c9
       by_cases c10 : 0 ≤ x6_2
       ·rw [if_pos c10] at H
        have c10b0 : decide (0 ≤ x6_2) = true := decide_eq_true c10
        clear c10
        replace H := Option.bind_eq_some_iff.mp H
        obtain ⟨t403, A110, H⟩ := H
        replace H : (phaetonref15_Apart.l2 k2 l0 x6_2 t403 (wrap64 (x6_2 + 1))) = some r := H
        have A11 := aM A110
        clear A110
        have H' := aM H
        clear H
        have p402 : 0 ≤ (x6_2 : Int) := oD (by first | (with_reducible assumption) | assumption)
        have q402 : x6_2 < (l0.length : Int) := oD (by first | (with_reducible assumption) | assumption)
        obtain ⟨ad402, e402, hx402_0, hx402_1, hx402_2, hx402_3, hx402_4, hx402_5⟩ := at_T23 HR0.out x6_2 p402 q402
        cases e402
        replace hx402_0 := (HB.out.cell (wl w _ hx402_0)).trans hx402_0
        replace hx402_1 := (HB.out.cell (wl w _ hx402_1)).trans hx402_1
        replace hx402_2 := (HB.out.cell (wl w _ hx402_2)).trans hx402_2
        replace hx402_3 := (HB.out.cell (wl w _ hx402_3)).trans hx402_3
        replace hx402_4 := (HB.out.cell (wl w _ hx402_4)).trans hx402_4
        replace hx402_5 := (HB.out.cell (wl w _ hx402_5)).trans hx402_5
        replace p402 := eq_true p402
        replace q402 := eq_true q402
        go_wp2_with (first | ((with_reducible refine gate_callee (f := 20) rfl ?_); refine goesL_ (some 34) rfl rfl Try.func20 (by kernel_rfl) rfl #[.agg #[.int .i64 ((rd_T23 l0 x6_2).f0), .int .i64 ((rd_T23 l0 x6_2).f1), .bool ((rd_T23 l0 x6_2).f2), .bool ((rd_T23 l0 x6_2).f3), .int .i64 ((rd_T23 l0 x6_2).f4), .int .i64 ((rd_T23 l0 x6_2).f5)]] rfl (by (try simp only [List.map_toArray, List.map_cons, List.map_nil]); first | done | rfl | (simp only [List.length_drop, List.length_take]; rfl)) ?_; (with_reducible refine (phaetonref15_Places.calls k2 ((rd_T23 l0 x6_2).f0) ((rd_T23 l0 x6_2).f1) ((rd_T23 l0 x6_2).f2) ((rd_T23 l0 x6_2).f3) ((rd_T23 l0 x6_2).f4) ((rd_T23 l0 x6_2).f5) t403 _ A11.out).mono ?_); rintro e w12 ⟨v404, rfl, ho0, hb⟩; refine ⟨_, rfl, ?_⟩; have n0_ := aM (Kd.R_lower ho0 (lZ (by repeat (first | (with_reducible first | exact HB.out | apply lA | apply lN | apply lW) | exact HB.out)))); have n1_ := aM (lT (by repeat (first | (with_reducible first | exact HB.out | apply lA | apply lN | apply lW) | exact HB.out)) hb); clear HB; have HO405 := n0_; have HB := n1_; clear n0_ n1_; (try clear hb); (try clear hb2); (try clear hk); (try clear hi); (try clear ho0)))
        go_loopg [8] k2 (fun kq v8 w' => ∃ (x8_3 : Int), v8 = .int .i64 x8_3 ∧ Aside0 (phaetonref15_Apart.l2 kq l0 x6_2 t403 x8_3 = some r) ∧ Aside0 (kq ≤ k2) ∧ Aside0 (Kd.R (Kd.int .i64) 3 w' w.heap.size (fun _ => True) v404 t403) ∧ Aside0 (Below w.heap.size w w'))
        case atStart => exact ⟨(wrap64 (x6_2 + 1)), (by first | rfl | (simp; done) | (simp [*]; done)), H', ⟨Nat.le_refl _⟩, ⟨by (with_reducible repeat (first | apply rA | apply rN | apply rW)); exact HO405.out⟩, ⟨by repeat (first | (with_reducible first | exact HB.out | apply lA | apply lN | apply lW) | exact HB.out)⟩⟩
        case round =>
         clear H'
         try clear c1
         try clear c2
         try clear p2
         try clear c3
         try clear c3b0
         try clear c4
         try clear c4b0
         try clear p4
         try clear q4
         try clear hx4
         try clear c6
         try clear p6
         try clear c9
         try clear c9b0
         try clear c10
         try clear c10b0
         try clear hx400_0
         try clear hx400_1
         try clear hx400_2
         try clear hx400_3
         try clear hx400_4
         try clear hx400_5
         try clear hx402_0
         try clear hx402_1
         try clear hx402_2
         try clear hx402_3
         try clear hx402_4
         try clear hx402_5
         try clear p2
         try clear p4
         try clear p400
         try clear p402
         try clear p6
         try clear q4
         try clear q400
         try clear q402
         obtain ⟨x8_3, rfl, HA, HK3, HO_7, HB⟩ := hrel
         cases gk with
         | zero => exact absurd HA.out (by simp [phaetonref15_Apart.l2])
         | succ k3 =>
          have H := HA.out
          clear HA
          simp only [phaetonref15_Apart.l2] at H
          by_cases c13 : x8_3 < (l0.length : Int)
          ·rw [if_pos c13] at H
           have c13b0 : decide (x8_3 < (l0.length : Int)) = true := decide_eq_true c13
           clear c13
           by_cases c14 : 0 ≤ x8_3
           ·rw [if_pos c14] at H
            have c14b0 : decide (0 ≤ x8_3) = true := decide_eq_true c14
            clear c14
            replace H := Option.bind_eq_some_iff.mp H
            obtain ⟨t407, A150, H⟩ := H
            replace H : (phaetonref15_Apart.l3 k3 l0 x6_2 t403 x8_3 t407 0) = some r := H
            have A15 := aM A150
            clear A150
            have H' := aM H
            clear H
            have p406 : 0 ≤ (x8_3 : Int) := oD (by first | (with_reducible assumption) | assumption)
            have q406 : x8_3 < (l0.length : Int) := oD (by first | (with_reducible assumption) | assumption)
            obtain ⟨ad406, e406, hx406_0, hx406_1, hx406_2, hx406_3, hx406_4, hx406_5⟩ := at_T23 HR0.out x8_3 p406 q406
            obtain rfl : ad402 = ad406 := (by injection e406)
            replace hx406_0 := (HB.out.cell (wl w _ hx406_0)).trans hx406_0
            replace hx406_1 := (HB.out.cell (wl w _ hx406_1)).trans hx406_1
            replace hx406_2 := (HB.out.cell (wl w _ hx406_2)).trans hx406_2
            replace hx406_3 := (HB.out.cell (wl w _ hx406_3)).trans hx406_3
            replace hx406_4 := (HB.out.cell (wl w _ hx406_4)).trans hx406_4
            replace hx406_5 := (HB.out.cell (wl w _ hx406_5)).trans hx406_5
            replace p406 := eq_true p406
            replace q406 := eq_true q406
            go_wp2_with (first | ((with_reducible refine gate_callee (f := 20) rfl ?_); refine goesL_ (some 47) rfl rfl Try.func20 (by kernel_rfl) rfl #[.agg #[.int .i64 ((rd_T23 l0 x8_3).f0), .int .i64 ((rd_T23 l0 x8_3).f1), .bool ((rd_T23 l0 x8_3).f2), .bool ((rd_T23 l0 x8_3).f3), .int .i64 ((rd_T23 l0 x8_3).f4), .int .i64 ((rd_T23 l0 x8_3).f5)]] rfl (by (try simp only [List.map_toArray, List.map_cons, List.map_nil]); first | done | rfl | (simp only [List.length_drop, List.length_take]; rfl)) ?_; (with_reducible refine (phaetonref15_Places.calls k3 ((rd_T23 l0 x8_3).f0) ((rd_T23 l0 x8_3).f1) ((rd_T23 l0 x8_3).f2) ((rd_T23 l0 x8_3).f3) ((rd_T23 l0 x8_3).f4) ((rd_T23 l0 x8_3).f5) t407 _ A15.out).mono ?_); rintro e w16 ⟨v408, rfl, ho0, hb⟩; refine ⟨_, rfl, ?_⟩; have n0_ := aM (Kd.R_elder' (by (with_reducible repeat (first | apply rA | apply rN | apply rW)); exact HO_7.out) (Kd.R_base ho0) hb); have n1_ := aM (Kd.R_lower (Kd.R_new' ho0 (Kd.R_lt (by (with_reducible repeat (first | apply rA | apply rN | apply rW)); exact HO_7.out))) (lZ (by repeat (first | (with_reducible first | exact HB.out | apply lA | apply lN | apply lW) | exact HB.out)))); have n2_ := aM (lT (by repeat (first | (with_reducible first | exact HB.out | apply lA | apply lN | apply lW) | exact HB.out)) hb); clear HO_7; clear HB; have HO_7 := n0_; have HO409 := n1_; have HB := n2_; clear n0_ n1_ n2_; (try clear hb); (try clear hb2); (try clear hk); (try clear hi); (try clear ho0)))
            go_loopg [10] k3 (fun kq v10 w' => ∃ (x10_4 : Int), v10 = .int .i64 x10_4 ∧ Aside0 (phaetonref15_Apart.l3 kq l0 x6_2 t403 x8_3 t407 x10_4 = some r) ∧ Aside0 (kq ≤ k3) ∧ Aside0 (Kd.R (Kd.int .i64) 3 w' w.heap.size (fun k_ => some k_ ≠ (v408 : Value).ownBlock) v404 t403) ∧ Aside0 (Kd.R (Kd.int .i64) 3 w' w.heap.size (fun k_ => some k_ ≠ (v404 : Value).ownBlock) v408 t407) ∧ Aside0 (Below w.heap.size w w'))
            case atStart => exact ⟨(0), (by first | rfl | (simp; done) | (simp [*]; done)), H', ⟨Nat.le_refl _⟩, ⟨by (with_reducible repeat (first | apply rA | apply rN | apply rW)); exact Kd.R_mono HO_7.out (fun _ hk => hk.2)⟩, ⟨by (with_reducible repeat (first | apply rA | apply rN | apply rW)); exact Kd.R_mono HO409.out (fun _ hk => hk.2)⟩, ⟨by repeat (first | (with_reducible first | exact HB.out | apply lA | apply lN | apply lW) | exact HB.out)⟩⟩
            case round =>
             clear H'
             try clear c1
             try clear c2
             try clear p2
             try clear c3
             try clear c3b0
             try clear c4
             try clear c4b0
             try clear p4
             try clear q4
             try clear hx4
             try clear c6
             try clear p6
             try clear c9
             try clear c9b0
             try clear c10
             try clear c10b0
             try clear c13
             try clear c13b0
             try clear c14
             try clear c14b0
             try clear hx400_0
             try clear hx400_1
             try clear hx400_2
             try clear hx400_3
             try clear hx400_4
             try clear hx400_5
             try clear hx402_0
             try clear hx402_1
             try clear hx402_2
             try clear hx402_3
             try clear hx402_4
             try clear hx402_5
             try clear hx406_0
             try clear hx406_1
             try clear hx406_2
             try clear hx406_3
             try clear hx406_4
             try clear hx406_5
             try clear p2
             try clear p4
             try clear p400
             try clear p402
             try clear p406
             try clear p6
             try clear q4
             try clear q400
             try clear q402
             try clear q406
             obtain ⟨x10_4, rfl, HA, HK4, HO_7, HO_9, HB⟩ := hrel
             cases gk with
             | zero => exact absurd HA.out (by simp [phaetonref15_Apart.l3])
             | succ k4 =>
              have H := HA.out
              clear HA
              simp only [phaetonref15_Apart.l3] at H
              by_cases c17 : x10_4 < (t403.length : Int)
              ·rw [if_pos c17] at H
               have c17b0 : decide (x10_4 < (t403.length : Int)) = true := decide_eq_true c17
               clear c17
               by_cases c18 : 0 ≤ x10_4
               ·rw [if_pos c18] at H
                have c18b0 : decide (0 ≤ x10_4) = true := decide_eq_true c18
                clear c18
                replace H := Option.bind_eq_some_iff.mp H
                obtain ⟨t411, A190, H⟩ := H
                replace H : (if t411 = true then (some false) else (phaetonref15_Apart.l3 k4 l0 x6_2 t403 x8_3 t407 (wrap64 (x10_4 + 1)))) = some r := H
                have A19 := aM A190
                clear A190
                by_cases c20 : t411 = true
                ·subst c20
                 have H1 : (some false) = some r := by rw [if_pos rfl] at H; exact H
                 clear H
                 have H := H1
                 clear H1
                 obtain rfl := Option.some.inj H
                 obtain ⟨Ao21, co21, eo21⟩ := Kd.R_slice HO_7.out
                 subst eo21
                 have p410 : 0 ≤ (x10_4 : Int) := oD (by first | (with_reducible assumption) | assumption)
                 have q410 : x10_4 < (t403.length : Int) := oD (by first | (with_reducible assumption) | assumption)
                 obtain ⟨ad410, e410, hx410_0⟩ := Kd.at_int (Kd.R_reads' HO_7.out).2.2 x10_4 p410 q410
                 cases e410
                 replace p410 := eq_true p410
                 replace q410 := eq_true q410
                 obtain ⟨Ao22, co22, eo22⟩ := Kd.R_slice HO_9.out
                 subst eo22
                 go_wp2_with (first | ((with_reducible refine gate_callee (f := 26) rfl ?_); refine goesL_ (some 59) rfl rfl Try.func26 (by kernel_rfl) rfl #[.slice Ao22 t407.length co22, .int .i64 (rd t403 x10_4)] rfl (by (try simp only [List.map_toArray, List.map_cons, List.map_nil]); first | done | rfl | (simp only [List.length_drop, List.length_take]; rfl)) ?_; (with_reducible refine (phaetonref15_In.calls k4 _ _ t407 (rd t403 x10_4) true _ ?side1 ?side2 A19.out).mono ?_); (case side1 => repeat (first | exact (Kd.R_reads' HO_9.out).2.2 | (with_reducible refine Kd.C_alloc ?_ _) | (with_reducible refine Kd.C_drewN ?_ _) | (with_reducible refine Kd.C_drew ?_))); (case side2 => exact (Kd.R_reads' HO_9.out).2.1); rintro e w' ⟨rfl, ⟨nd, rfl⟩⟩; refine ⟨_, rfl, ?_⟩))
                 go_ret
                 exact ⟨by first | rfl | (simp [errW_none, errW_some] <;> rfl) | (simp [*, errW_none, errW_some] <;> rfl), by repeat (first | (with_reducible first | exact HB.out | apply lA | apply lN | apply lW) | exact HB.out)⟩
                ·replace c20 := Bool.eq_false_iff.mpr c20
                 subst c20
                 have H1 : (phaetonref15_Apart.l3 k4 l0 x6_2 t403 x8_3 t407 (wrap64 (x10_4 + 1))) = some r := by rw [if_neg (show ¬ (false = true) by decide)] at H; exact H
                 clear H
                 have H := H1
                 clear H1
                 have H' := aM H
                 clear H
                 obtain ⟨Ao23, co23, eo23⟩ := Kd.R_slice HO_7.out
                 subst eo23
                 have p410 : 0 ≤ (x10_4 : Int) := oD (by first | (with_reducible assumption) | assumption)
                 have q410 : x10_4 < (t403.length : Int) := oD (by first | (with_reducible assumption) | assumption)
                 obtain ⟨ad410, e410, hx410_0⟩ := Kd.at_int (Kd.R_reads' HO_7.out).2.2 x10_4 p410 q410
                 cases e410
                 replace p410 := eq_true p410
                 replace q410 := eq_true q410
                 obtain ⟨Ao24, co24, eo24⟩ := Kd.R_slice HO_9.out
                 subst eo24
                 go_wp2_with (first | ((with_reducible refine gate_callee (f := 26) rfl ?_); refine goesL_ (some 59) rfl rfl Try.func26 (by kernel_rfl) rfl #[.slice Ao24 t407.length co24, .int .i64 (rd t403 x10_4)] rfl (by (try simp only [List.map_toArray, List.map_cons, List.map_nil]); first | done | rfl | (simp only [List.length_drop, List.length_take]; rfl)) ?_; (with_reducible refine (phaetonref15_In.calls k4 _ _ t407 (rd t403 x10_4) false _ ?side1 ?side2 A19.out).mono ?_); (case side1 => repeat (first | exact (Kd.R_reads' HO_9.out).2.2 | (with_reducible refine Kd.C_alloc ?_ _) | (with_reducible refine Kd.C_drewN ?_ _) | (with_reducible refine Kd.C_drew ?_))); (case side2 => exact (Kd.R_reads' HO_9.out).2.1); rintro e w' ⟨rfl, ⟨nd, rfl⟩⟩; refine ⟨_, rfl, ?_⟩))
                 go_roundg k4
                 case measure => have := HK1.out; have := HK2.out; have := HK3.out; have := HK4.out; omega
                 case rel => exact ⟨(wrap64 (x10_4 + 1)), (by first | rfl | (simp; done) | (simp [*]; done)), H', ⟨by have := HK1.out; have := HK2.out; have := HK3.out; have := HK4.out; omega⟩, ⟨by (with_reducible repeat (first | apply rA | apply rN | apply rW)); exact HO_7.out⟩, ⟨by (with_reducible repeat (first | apply rA | apply rN | apply rW)); exact HO_9.out⟩, ⟨by repeat (first | (with_reducible first | exact HB.out | apply lA | apply lN | apply lW) | exact HB.out)⟩⟩
               ·rw [if_neg c18] at H
                exact absurd H (by simp)
              ·rw [if_neg c17] at H
               have c17b0 : decide (x10_4 < (t403.length : Int)) = false := decide_eq_false c17
               clear c17
               have H' := aM H
               clear H
               obtain ⟨Ao25, co25, eo25⟩ := Kd.R_slice HO_7.out
               subst eo25
               go_wp2
               go_roundg k4
               case measure => have := HK1.out; have := HK2.out; have := HK3.out; have := HK4.out; omega
               case rel => exact ⟨(wrap64 (x8_3 + 1)), (by first | rfl | (simp; done) | (simp [*]; done)), H', ⟨by have := HK1.out; have := HK2.out; have := HK3.out; have := HK4.out; omega⟩, ⟨by (with_reducible repeat (first | apply rA | apply rN | apply rW)); exact Kd.R_mono HO_7.out (fun _ hk => trivial)⟩, ⟨by repeat (first | (with_reducible first | exact HB.out | apply lA | apply lN | apply lW) | exact HB.out)⟩⟩
           ·rw [if_neg c14] at H
            exact absurd H (by simp)
          ·rw [if_neg c13] at H
           have c13b0 : decide (x8_3 < (l0.length : Int)) = false := decide_eq_false c13
           clear c13
           have H' := aM H
           clear H
           go_wp2
           go_roundg k3
           case measure => have := HK1.out; have := HK2.out; have := HK3.out; omega
           case rel => exact ⟨(wrap64 (x6_2 + 1)), (by first | rfl | (simp; done) | (simp [*]; done)), H', ⟨by have := HK1.out; have := HK2.out; have := HK3.out; omega⟩, ⟨by repeat (first | (with_reducible first | exact HB.out | apply lA | apply lN | apply lW) | exact HB.out)⟩⟩
       ·rw [if_neg c10] at H
        exact absurd H (by simp)
      ·rw [if_neg c9] at H
       have c9b0 : decide (x6_2 < (l0.length : Int)) = false := decide_eq_false c9
       clear c9
       obtain rfl := Option.some.inj H
       go_wp2
       go_ret
       exact ⟨by first | rfl | (simp [errW_none, errW_some] <;> rfl) | (simp [*, errW_none, errW_some] <;> rfl), by repeat (first | (with_reducible first | exact HB.out | apply lA | apply lN | apply lW) | exact HB.out)⟩

end Go.Proofs.Ytcgkkjimonfhbaa.P

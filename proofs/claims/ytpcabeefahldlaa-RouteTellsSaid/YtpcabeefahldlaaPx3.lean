/- Go functions that the laws of this seat reach, each as a Lean function, and a proof that a call of the Go code comes to its answers; written by a program (the kit's print, turned in a few places). Conditions: each theorem's own premises. -/
import Derived.Test.YtpcabeefahldlaaPx0
import Derived.Test.YtpcabeefahldlaaPx2
namespace Go.Proofs.Ytpcabeefahldlaa.P
open Go.RowKit Go.Proofs.YtpcabeefahldlaaW.PrintWords Go.Proofs.YtpcabeefahldlaaW.PrintLast Go.Proofs.YtpcabeefahldlaaW.PrintMore
attribute [local go_sem] max2_int min2_int max_two min_two max_three min_three max_four min_four   -- for this text's walks alone
set_option linter.unusedVariables false
set_option linter.unusedSimpArgs false

/-! ### route_Right: function 12 -/
mutual
def route_Right.j0 : Nat → List (S45) → Int → Bool → Option (Bool)
 | 0, _, _, _ => none
 | k + 1, x0, x1, x17 => if x17 = true then (some false) else (route_Right.l0 k x1 x0 (x0.length : Int) 0)
def route_Right.l0 : Nat → Int → List (S45) → Int → Int → Option (Bool)
 | 0, _, _, _, _ => none
 | k + 1, x1, x18, x19, x20 => if x20 < x19 then (if 0 ≤ x20 then (if x20 < (x18.length : Int) then (if ((rd_T45 x18 x20).f0) < 0 then (some false) else (if ((rd_T45 x18 x20).f0) ≥ x1 then (some false) else (if ((rd_T45 x18 x20).f1) < 0 then (some false) else (if ((rd_T45 x18 x20).f1) ≥ x1 then (some false) else (if ((rd_T45 x18 x20).f0) = ((rd_T45 x18 x20).f1) then (some false) else ((filter_Right.f ((rd_T45 x18 x20).f2.f0) ((rd_T45 x18 x20).f2.f1) ((rd_T45 x18 x20).f2.f2)).bind fun t104 => (if t104 = true then ((route_identifier.f ((rd_T45 x18 x20).f0) ((rd_T45 x18 x20).f1) ((rd_T45 x18 x20).f2.f0) ((rd_T45 x18 x20).f2.f1) ((rd_T45 x18 x20).f2.f2) ((rd_T45 x18 x20).f3)).bind fun t105 => (if t105 = true then (route_Right.l0 k x1 x18 x19 (wrap64 (x20 + 1))) else (some false))) else (some false)))))))) else (none)) else (none)) else (some true)
end
def route_Right.f (k : Nat) (l0 : List (S45)) (a1 : Int) : Option (Bool) := if a1 < 1 then (route_Right.j0 k l0 a1 true) else (if a1 > 4 then (route_Right.j0 k l0 a1 true) else (route_Right.j0 k l0 a1 (decide ((l0.length : Int) > 16))))
set_option maxHeartbeats 8000000 in
set_option maxRecDepth 100000 in
theorem route_Right.calls (k : Nat) (A0 : Option Addr) (c0 : Nat) (l0 : List (S45)) (a1 : Int) (r : Bool) (w : World) (hr0 : Kd.C k45 w A0 l0.length l0) (hc0 : l0.length ≤ c0) (h : route_Right.f k l0 a1 = some r) :
  Calls Try.prog 12 #[.slice A0 l0.length c0, .int .i64 a1] w fun e w' => e = .returned (.bool r) ∧ Below w.heap.size w w' := by
 have hu43 := Try.underlying43
 have hu45 := Try.underlying45
 have HR0 := aM hr0
 have HC0 := aM hc0
 clear hr0 hc0
 have HB := aM (Below.refl w.heap.size w)
 have H : (if a1 < 1 then (route_Right.j0 k l0 a1 true) else (if a1 > 4 then (route_Right.j0 k l0 a1 true) else (route_Right.j0 k l0 a1 (decide ((l0.length : Int) > 16))))) = some r := h
 clear h
 have HC3 := aM H
 clear H
 go_enter Try.func12, Try.ntmps12
 go_upto_region 1 with (fail)
 go_cut [17] (fun v17 wc => ∃ (kq : Nat) (x17_2 : Bool), v17 = .bool x17_2 ∧ Aside0 (route_Right.j0 kq l0 a1 x17_2 = some r) ∧ Aside0 (kq ≤ k) ∧ Aside0 (Below w.heap.size w wc))
 case first =>
  have H := HC3.out
  clear HC3
  by_cases c4 : a1 < 1
  ·rw [if_pos c4] at H
   have c4b0 : decide (a1 < 1) = true := decide_eq_true c4
   clear c4
   (first | rw [c4b0] | (simp only [i64_w, i32_w]; rw [c4b0]) | skip)
   have H' := aM H
   clear H
   go_wp2
   go_meet
   case rel => exact ⟨_, (true), (by first | rfl | (simp; done) | (simp [*]; done)), H', ⟨by first | omega | exact Nat.le_refl _⟩, ⟨by repeat (first | (with_reducible first | exact HB.out | apply lA | apply lN | apply lW) | exact HB.out)⟩⟩
  ·rw [if_neg c4] at H
   have c4b0 : decide (a1 < 1) = false := decide_eq_false c4
   clear c4
   (first | rw [c4b0] | (simp only [i64_w, i32_w]; rw [c4b0]) | skip)
   by_cases c5 : a1 > 4
   ·rw [if_pos c5] at H
    have c5b0 : decide (4 < a1) = true := decide_eq_true c5
    clear c5
    have H' := aM H
    clear H
    go_wp2
    go_meet
    case rel => exact ⟨_, (true), (by first | rfl | (simp; done) | (simp [*]; done)), H', ⟨by first | omega | exact Nat.le_refl _⟩, ⟨by repeat (first | (with_reducible first | exact HB.out | apply lA | apply lN | apply lW) | exact HB.out)⟩⟩
   ·rw [if_neg c5] at H
    have c5b0 : decide (4 < a1) = false := decide_eq_false c5
    clear c5
    have H' := aM H
    clear H
    go_wp2
    go_meet
    case rel => exact ⟨_, (decide ((l0.length : Int) > 16)), (by first | rfl | (simp; done) | (simp [*]; done)), H', ⟨by first | omega | exact Nat.le_refl _⟩, ⟨by repeat (first | (with_reducible first | exact HB.out | apply lA | apply lN | apply lW) | exact HB.out)⟩⟩
 case rest =>
  clear HC3
  try clear c1
  try clear p2
  try clear c4
  try clear c4b0
  try clear c5
  try clear c5b0
  obtain ⟨kq, x17_2, rfl, HA, HJ2, HB⟩ := hcut
  cases kq with
  | zero => exact absurd HA.out (by simp [route_Right.j0])
  | succ kj2 =>
   have H := HA.out
   clear HA
   simp only [route_Right.j0] at H
   by_cases c6 : x17_2 = true
   ·subst c6
    have H1 : (some false) = some r := by rw [if_pos rfl] at H; exact H
    clear H
    have H := H1
    clear H1
    obtain rfl := Option.some.inj H
    go_wp2
    go_ret
    exact ⟨by first | rfl | (simp [errW_none, errW_some] <;> rfl) | (simp [*, errW_none, errW_some] <;> rfl), by repeat (first | (with_reducible first | exact HB.out | apply lA | apply lN | apply lW) | exact HB.out)⟩
   ·replace c6 := Bool.eq_false_iff.mpr c6
    subst c6
    have H1 : (route_Right.l0 kj2 a1 l0 (l0.length : Int) 0) = some r := by rw [if_neg (show ¬ (false = true) by decide)] at H; exact H
    clear H
    have H := H1
    clear H1
    have H' := aM H
    clear H
    go_wp2
    go_loopg [20] kj2 (fun kq v20 w' => ∃ (x20_2 : Int), v20 = .int .i64 x20_2 ∧ Aside0 (route_Right.l0 kq a1 l0 (l0.length : Int) x20_2 = some r) ∧ Aside0 (kq ≤ kj2) ∧ Aside0 (Below w.heap.size w w'))
    case atStart => exact ⟨(0), (by first | rfl | (simp; done) | (simp [*]; done)), H', ⟨Nat.le_refl _⟩, ⟨by repeat (first | (with_reducible first | exact HB.out | apply lA | apply lN | apply lW) | exact HB.out)⟩⟩
    case round =>
     clear H'
     try clear c1
     try clear p2
     try clear c4
     try clear c4b0
     try clear c5
     try clear c5b0
     try clear c6
     try clear p2
     obtain ⟨x20_2, rfl, HA, HK2, HB⟩ := hrel
     cases gk with
     | zero => exact absurd HA.out (by simp [route_Right.l0])
     | succ k2 =>
      have H := HA.out
      clear HA
      simp only [route_Right.l0] at H
      by_cases c7 : x20_2 < (l0.length : Int)
      ·rw [if_pos c7] at H
       have c7b0 : decide (x20_2 < (l0.length : Int)) = true := decide_eq_true c7
       clear c7
       by_cases c8 : 0 ≤ x20_2
       ·rw [if_pos c8] at H
        have c8b0 : decide (0 ≤ x20_2) = true := decide_eq_true c8
        clear c8
        by_cases c9 : x20_2 < (l0.length : Int)
        ·rw [if_pos c9] at H
         have c9b0 : decide (x20_2 < (l0.length : Int)) = true := decide_eq_true c9
         clear c9
         by_cases c10 : ((rd_T45 l0 x20_2).f0) < 0
         ·rw [if_pos c10] at H
          have c10b0 : decide (((rd_T45 l0 x20_2).f0) < 0) = true := decide_eq_true c10
          clear c10
          obtain rfl := Option.some.inj H
          have p103 : 0 ≤ (x20_2 : Int) := oD (by first | (with_reducible assumption) | assumption)
          have q103 : x20_2 < (l0.length : Int) := oD (by first | (with_reducible assumption) | assumption)
          obtain ⟨ad103, e103, hx103_0, hx103_1, hx103_2, hx103_3, hx103_4, hx103_5⟩ := at_T45 HR0.out x20_2 p103 q103
          cases e103
          replace hx103_0 := (HB.out.cell (wl w _ hx103_0)).trans hx103_0
          replace hx103_1 := (HB.out.cell (wl w _ hx103_1)).trans hx103_1
          replace hx103_2 := (HB.out.cell (wl w _ hx103_2)).trans hx103_2
          replace hx103_3 := (HB.out.cell (wl w _ hx103_3)).trans hx103_3
          replace hx103_4 := (HB.out.cell (wl w _ hx103_4)).trans hx103_4
          replace hx103_5 := (HB.out.cell (wl w _ hx103_5)).trans hx103_5
          replace p103 := eq_true p103
          replace q103 := eq_true q103
          go_wp2
          go_ret
          exact ⟨by first | rfl | (simp [errW_none, errW_some] <;> rfl) | (simp [*, errW_none, errW_some] <;> rfl), by repeat (first | (with_reducible first | exact HB.out | apply lA | apply lN | apply lW) | exact HB.out)⟩
         ·rw [if_neg c10] at H
          have c10b0 : decide (((rd_T45 l0 x20_2).f0) < 0) = false := decide_eq_false c10
          clear c10
          by_cases c11 : ((rd_T45 l0 x20_2).f0) ≥ a1
          ·rw [if_pos c11] at H
           have c11b0 : decide (a1 ≤ ((rd_T45 l0 x20_2).f0)) = true := decide_eq_true c11
           clear c11
           obtain rfl := Option.some.inj H
           have p103 : 0 ≤ (x20_2 : Int) := oD (by first | (with_reducible assumption) | assumption)
           have q103 : x20_2 < (l0.length : Int) := oD (by first | (with_reducible assumption) | assumption)
           obtain ⟨ad103, e103, hx103_0, hx103_1, hx103_2, hx103_3, hx103_4, hx103_5⟩ := at_T45 HR0.out x20_2 p103 q103
           cases e103
           replace hx103_0 := (HB.out.cell (wl w _ hx103_0)).trans hx103_0
           replace hx103_1 := (HB.out.cell (wl w _ hx103_1)).trans hx103_1
           replace hx103_2 := (HB.out.cell (wl w _ hx103_2)).trans hx103_2
           replace hx103_3 := (HB.out.cell (wl w _ hx103_3)).trans hx103_3
           replace hx103_4 := (HB.out.cell (wl w _ hx103_4)).trans hx103_4
           replace hx103_5 := (HB.out.cell (wl w _ hx103_5)).trans hx103_5
           replace p103 := eq_true p103
           replace q103 := eq_true q103
           go_wp2
           go_ret
           exact ⟨by first | rfl | (simp [errW_none, errW_some] <;> rfl) | (simp [*, errW_none, errW_some] <;> rfl), by repeat (first | (with_reducible first | exact HB.out | apply lA | apply lN | apply lW) | exact HB.out)⟩
          ·rw [if_neg c11] at H
           have c11b0 : decide (a1 ≤ ((rd_T45 l0 x20_2).f0)) = false := decide_eq_false c11
           clear c11
           by_cases c12 : ((rd_T45 l0 x20_2).f1) < 0
           ·rw [if_pos c12] at H
            have c12b0 : decide (((rd_T45 l0 x20_2).f1) < 0) = true := decide_eq_true c12
            clear c12
            obtain rfl := Option.some.inj H
            have p103 : 0 ≤ (x20_2 : Int) := oD (by first | (with_reducible assumption) | assumption)
            have q103 : x20_2 < (l0.length : Int) := oD (by first | (with_reducible assumption) | assumption)
            obtain ⟨ad103, e103, hx103_0, hx103_1, hx103_2, hx103_3, hx103_4, hx103_5⟩ := at_T45 HR0.out x20_2 p103 q103
            cases e103
            replace hx103_0 := (HB.out.cell (wl w _ hx103_0)).trans hx103_0
            replace hx103_1 := (HB.out.cell (wl w _ hx103_1)).trans hx103_1
            replace hx103_2 := (HB.out.cell (wl w _ hx103_2)).trans hx103_2
            replace hx103_3 := (HB.out.cell (wl w _ hx103_3)).trans hx103_3
            replace hx103_4 := (HB.out.cell (wl w _ hx103_4)).trans hx103_4
            replace hx103_5 := (HB.out.cell (wl w _ hx103_5)).trans hx103_5
            replace p103 := eq_true p103
            replace q103 := eq_true q103
            go_wp2
            go_ret
            exact ⟨by first | rfl | (simp [errW_none, errW_some] <;> rfl) | (simp [*, errW_none, errW_some] <;> rfl), by repeat (first | (with_reducible first | exact HB.out | apply lA | apply lN | apply lW) | exact HB.out)⟩
           ·rw [if_neg c12] at H
            have c12b0 : decide (((rd_T45 l0 x20_2).f1) < 0) = false := decide_eq_false c12
            clear c12
            by_cases c13 : ((rd_T45 l0 x20_2).f1) ≥ a1
            ·rw [if_pos c13] at H
             have c13b0 : decide (a1 ≤ ((rd_T45 l0 x20_2).f1)) = true := decide_eq_true c13
             clear c13
             obtain rfl := Option.some.inj H
             have p103 : 0 ≤ (x20_2 : Int) := oD (by first | (with_reducible assumption) | assumption)
             have q103 : x20_2 < (l0.length : Int) := oD (by first | (with_reducible assumption) | assumption)
             obtain ⟨ad103, e103, hx103_0, hx103_1, hx103_2, hx103_3, hx103_4, hx103_5⟩ := at_T45 HR0.out x20_2 p103 q103
             cases e103
             replace hx103_0 := (HB.out.cell (wl w _ hx103_0)).trans hx103_0
             replace hx103_1 := (HB.out.cell (wl w _ hx103_1)).trans hx103_1
             replace hx103_2 := (HB.out.cell (wl w _ hx103_2)).trans hx103_2
             replace hx103_3 := (HB.out.cell (wl w _ hx103_3)).trans hx103_3
             replace hx103_4 := (HB.out.cell (wl w _ hx103_4)).trans hx103_4
             replace hx103_5 := (HB.out.cell (wl w _ hx103_5)).trans hx103_5
             replace p103 := eq_true p103
             replace q103 := eq_true q103
             go_wp2
             go_ret
             exact ⟨by first | rfl | (simp [errW_none, errW_some] <;> rfl) | (simp [*, errW_none, errW_some] <;> rfl), by repeat (first | (with_reducible first | exact HB.out | apply lA | apply lN | apply lW) | exact HB.out)⟩
            ·rw [if_neg c13] at H
             have c13b0 : decide (a1 ≤ ((rd_T45 l0 x20_2).f1)) = false := decide_eq_false c13
             clear c13
             by_cases c14 : ((rd_T45 l0 x20_2).f0) = ((rd_T45 l0 x20_2).f1)
             ·rw [if_pos c14] at H
              have c14b0 : (((rd_T45 l0 x20_2).f0) == ((rd_T45 l0 x20_2).f1)) = true := beq_iff_eq.mpr c14
              have c14b1 : (((rd_T45 l0 x20_2).f0) != ((rd_T45 l0 x20_2).f1)) = false := bne_eq_false_iff_eq.mpr c14
              clear c14
              obtain rfl := Option.some.inj H
              have p103 : 0 ≤ (x20_2 : Int) := oD (by first | (with_reducible assumption) | assumption)
              have q103 : x20_2 < (l0.length : Int) := oD (by first | (with_reducible assumption) | assumption)
              obtain ⟨ad103, e103, hx103_0, hx103_1, hx103_2, hx103_3, hx103_4, hx103_5⟩ := at_T45 HR0.out x20_2 p103 q103
              cases e103
              replace hx103_0 := (HB.out.cell (wl w _ hx103_0)).trans hx103_0
              replace hx103_1 := (HB.out.cell (wl w _ hx103_1)).trans hx103_1
              replace hx103_2 := (HB.out.cell (wl w _ hx103_2)).trans hx103_2
              replace hx103_3 := (HB.out.cell (wl w _ hx103_3)).trans hx103_3
              replace hx103_4 := (HB.out.cell (wl w _ hx103_4)).trans hx103_4
              replace hx103_5 := (HB.out.cell (wl w _ hx103_5)).trans hx103_5
              replace p103 := eq_true p103
              replace q103 := eq_true q103
              go_wp2
              go_ret
              exact ⟨by first | rfl | (simp [errW_none, errW_some] <;> rfl) | (simp [*, errW_none, errW_some] <;> rfl), by repeat (first | (with_reducible first | exact HB.out | apply lA | apply lN | apply lW) | exact HB.out)⟩
             ·rw [if_neg c14] at H
              have c14b0 : (((rd_T45 l0 x20_2).f0) == ((rd_T45 l0 x20_2).f1)) = false := nF c14
              have c14b1 : (((rd_T45 l0 x20_2).f0) != ((rd_T45 l0 x20_2).f1)) = true := nT c14
              replace H := Option.bind_eq_some_iff.mp H
              obtain ⟨t104, A150, H⟩ := H
              replace H : (if t104 = true then ((route_identifier.f ((rd_T45 l0 x20_2).f0) ((rd_T45 l0 x20_2).f1) ((rd_T45 l0 x20_2).f2.f0) ((rd_T45 l0 x20_2).f2.f1) ((rd_T45 l0 x20_2).f2.f2) ((rd_T45 l0 x20_2).f3)).bind fun t105 => (if t105 = true then (route_Right.l0 k2 a1 l0 (l0.length : Int) (wrap64 (x20_2 + 1))) else (some false))) else (some false)) = some r := H
              have A15 := aM A150
              clear A150
              by_cases c16 : t104 = true
              ·subst c16
               have H1 : ((route_identifier.f ((rd_T45 l0 x20_2).f0) ((rd_T45 l0 x20_2).f1) ((rd_T45 l0 x20_2).f2.f0) ((rd_T45 l0 x20_2).f2.f1) ((rd_T45 l0 x20_2).f2.f2) ((rd_T45 l0 x20_2).f3)).bind fun t105 => (if t105 = true then (route_Right.l0 k2 a1 l0 (l0.length : Int) (wrap64 (x20_2 + 1))) else (some false))) = some r := by rw [if_pos rfl] at H; exact H
               clear H
               have H := H1
               clear H1
               replace H := Option.bind_eq_some_iff.mp H
               obtain ⟨t105, A170, H⟩ := H
               replace H : (if t105 = true then (route_Right.l0 k2 a1 l0 (l0.length : Int) (wrap64 (x20_2 + 1))) else (some false)) = some r := H
               have A17 := aM A170
               clear A170
               by_cases c18 : t105 = true
               ·subst c18
                have H1 : (route_Right.l0 k2 a1 l0 (l0.length : Int) (wrap64 (x20_2 + 1))) = some r := by rw [if_pos rfl] at H; exact H
                clear H
                have H := H1
                clear H1
                have H' := aM H
                clear H
                have p103 : 0 ≤ (x20_2 : Int) := oD (by first | (with_reducible assumption) | assumption)
                have q103 : x20_2 < (l0.length : Int) := oD (by first | (with_reducible assumption) | assumption)
                obtain ⟨ad103, e103, hx103_0, hx103_1, hx103_2, hx103_3, hx103_4, hx103_5⟩ := at_T45 HR0.out x20_2 p103 q103
                cases e103
                replace hx103_0 := (HB.out.cell (wl w _ hx103_0)).trans hx103_0
                replace hx103_1 := (HB.out.cell (wl w _ hx103_1)).trans hx103_1
                replace hx103_2 := (HB.out.cell (wl w _ hx103_2)).trans hx103_2
                replace hx103_3 := (HB.out.cell (wl w _ hx103_3)).trans hx103_3
                replace hx103_4 := (HB.out.cell (wl w _ hx103_4)).trans hx103_4
                replace hx103_5 := (HB.out.cell (wl w _ hx103_5)).trans hx103_5
                replace p103 := eq_true p103
                replace q103 := eq_true q103
                go_wp2_with (first | (go_at_call 24; (with_reducible refine (filter_Right.calls ((rd_T45 l0 x20_2).f2.f0) ((rd_T45 l0 x20_2).f2.f1) ((rd_T45 l0 x20_2).f2.f2) true _ A15.out).mono ?_); rintro e w19 ⟨rfl, hb⟩; have bcq_ := bcell hb; have n0_ := aM (lT (by repeat (first | (with_reducible first | exact HB.out | apply lA | apply lN | apply lW) | exact HB.out)) hb); clear HB; have HB := n0_; clear n0_; (try clear hb); (try clear hb2); (try clear hk); (try clear hi)) | (go_at_call 25; (with_reducible refine (route_identifier.calls ((rd_T45 l0 x20_2).f0) ((rd_T45 l0 x20_2).f1) ((rd_T45 l0 x20_2).f2.f0) ((rd_T45 l0 x20_2).f2.f1) ((rd_T45 l0 x20_2).f2.f2) ((rd_T45 l0 x20_2).f3) true _ A17.out).mono ?_); rintro e w20 ⟨rfl, hb⟩; have bcq_ := bcell hb; have n0_ := aM (lT (by repeat (first | (with_reducible first | exact HB.out | apply lA | apply lN | apply lW) | exact HB.out)) hb); clear HB; have HB := n0_; clear n0_; (try clear hb); (try clear hb2); (try clear hk); (try clear hi)))
                go_roundg k2
                case measure => have := HJ2.out; have := HK2.out; omega
                case rel => exact ⟨(wrap64 (x20_2 + 1)), (by first | rfl | (simp; done) | (simp [*]; done)), H', ⟨by have := HJ2.out; have := HK2.out; omega⟩, ⟨by repeat (first | (with_reducible first | exact HB.out | apply lA | apply lN | apply lW) | exact HB.out)⟩⟩
               ·replace c18 := Bool.eq_false_iff.mpr c18
                subst c18
                have H1 : (some false) = some r := by rw [if_neg (show ¬ (false = true) by decide)] at H; exact H
                clear H
                have H := H1
                clear H1
                obtain rfl := Option.some.inj H
                have p103 : 0 ≤ (x20_2 : Int) := oD (by first | (with_reducible assumption) | assumption)
                have q103 : x20_2 < (l0.length : Int) := oD (by first | (with_reducible assumption) | assumption)
                obtain ⟨ad103, e103, hx103_0, hx103_1, hx103_2, hx103_3, hx103_4, hx103_5⟩ := at_T45 HR0.out x20_2 p103 q103
                cases e103
                replace hx103_0 := (HB.out.cell (wl w _ hx103_0)).trans hx103_0
                replace hx103_1 := (HB.out.cell (wl w _ hx103_1)).trans hx103_1
                replace hx103_2 := (HB.out.cell (wl w _ hx103_2)).trans hx103_2
                replace hx103_3 := (HB.out.cell (wl w _ hx103_3)).trans hx103_3
                replace hx103_4 := (HB.out.cell (wl w _ hx103_4)).trans hx103_4
                replace hx103_5 := (HB.out.cell (wl w _ hx103_5)).trans hx103_5
                replace p103 := eq_true p103
                replace q103 := eq_true q103
                go_wp2_with (first | (go_at_call 24; (with_reducible refine (filter_Right.calls ((rd_T45 l0 x20_2).f2.f0) ((rd_T45 l0 x20_2).f2.f1) ((rd_T45 l0 x20_2).f2.f2) true _ A15.out).mono ?_); rintro e w21 ⟨rfl, hb⟩; have bcq_ := bcell hb; have n0_ := aM (lT (by repeat (first | (with_reducible first | exact HB.out | apply lA | apply lN | apply lW) | exact HB.out)) hb); clear HB; have HB := n0_; clear n0_; (try clear hb); (try clear hb2); (try clear hk); (try clear hi)) | (go_at_call 25; (with_reducible refine (route_identifier.calls ((rd_T45 l0 x20_2).f0) ((rd_T45 l0 x20_2).f1) ((rd_T45 l0 x20_2).f2.f0) ((rd_T45 l0 x20_2).f2.f1) ((rd_T45 l0 x20_2).f2.f2) ((rd_T45 l0 x20_2).f3) false _ A17.out).mono ?_); rintro e w22 ⟨rfl, hb⟩; have bcq_ := bcell hb; have n0_ := aM (lT (by repeat (first | (with_reducible first | exact HB.out | apply lA | apply lN | apply lW) | exact HB.out)) hb); clear HB; have HB := n0_; clear n0_; (try clear hb); (try clear hb2); (try clear hk); (try clear hi)))
                go_ret
                exact ⟨by first | rfl | (simp [errW_none, errW_some] <;> rfl) | (simp [*, errW_none, errW_some] <;> rfl), by repeat (first | (with_reducible first | exact HB.out | apply lA | apply lN | apply lW) | exact HB.out)⟩
              ·replace c16 := Bool.eq_false_iff.mpr c16
               subst c16
               have H1 : (some false) = some r := by rw [if_neg (show ¬ (false = true) by decide)] at H; exact H
               clear H
               have H := H1
               clear H1
               obtain rfl := Option.some.inj H
               have p103 : 0 ≤ (x20_2 : Int) := oD (by first | (with_reducible assumption) | assumption)
               have q103 : x20_2 < (l0.length : Int) := oD (by first | (with_reducible assumption) | assumption)
               obtain ⟨ad103, e103, hx103_0, hx103_1, hx103_2, hx103_3, hx103_4, hx103_5⟩ := at_T45 HR0.out x20_2 p103 q103
               cases e103
               replace hx103_0 := (HB.out.cell (wl w _ hx103_0)).trans hx103_0
               replace hx103_1 := (HB.out.cell (wl w _ hx103_1)).trans hx103_1
               replace hx103_2 := (HB.out.cell (wl w _ hx103_2)).trans hx103_2
               replace hx103_3 := (HB.out.cell (wl w _ hx103_3)).trans hx103_3
               replace hx103_4 := (HB.out.cell (wl w _ hx103_4)).trans hx103_4
               replace hx103_5 := (HB.out.cell (wl w _ hx103_5)).trans hx103_5
               replace p103 := eq_true p103
               replace q103 := eq_true q103
               go_wp2_with (first | (go_at_call 24; (with_reducible refine (filter_Right.calls ((rd_T45 l0 x20_2).f2.f0) ((rd_T45 l0 x20_2).f2.f1) ((rd_T45 l0 x20_2).f2.f2) false _ A15.out).mono ?_); rintro e w23 ⟨rfl, hb⟩; have bcq_ := bcell hb; have n0_ := aM (lT (by repeat (first | (with_reducible first | exact HB.out | apply lA | apply lN | apply lW) | exact HB.out)) hb); clear HB; have HB := n0_; clear n0_; (try clear hb); (try clear hb2); (try clear hk); (try clear hi)))
               go_ret
               exact ⟨by first | rfl | (simp [errW_none, errW_some] <;> rfl) | (simp [*, errW_none, errW_some] <;> rfl), by repeat (first | (with_reducible first | exact HB.out | apply lA | apply lN | apply lW) | exact HB.out)⟩
        ·rw [if_neg c9] at H
         exact absurd H (by simp)
       ·rw [if_neg c8] at H
        exact absurd H (by simp)
      ·rw [if_neg c7] at H
       have c7b0 : decide (x20_2 < (l0.length : Int)) = false := decide_eq_false c7
       clear c7
       obtain rfl := Option.some.inj H
       go_wp2
       go_ret
       exact ⟨by first | rfl | (simp [errW_none, errW_some] <;> rfl) | (simp [*, errW_none, errW_some] <;> rfl), by repeat (first | (with_reducible first | exact HB.out | apply lA | apply lN | apply lW) | exact HB.out)⟩

end Go.Proofs.Ytpcabeefahldlaa.P

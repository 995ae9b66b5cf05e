/- Go functions that the laws of this seat reach, each as a Lean function, and a proof that a call of the Go code comes to its answers; written by a program (the kit's print, turned in a few places). Conditions: each theorem's own premises. -/
import Derived.Test.YtpcabeefahldlaaPx0
import Derived.Test.YtpcabeefahldlaaPx10
namespace Go.Proofs.Ytpcabeefahldlaa.P
open Go.RowKit Go.Proofs.YtpcabeefahldlaaW.PrintWords Go.Proofs.YtpcabeefahldlaaW.PrintLast Go.Proofs.YtpcabeefahldlaaW.PrintMore
attribute [local go_sem] max2_int min2_int max_two min_two max_three min_three max_four min_four   -- for this text's walks alone
set_option linter.unusedVariables false
set_option linter.unusedSimpArgs false

/-! ### phaetonref12_Right: function 13 -/
mutual
def phaetonref12_Right.j0 : Nat → List (S45) → Int → Bool → Option (Bool)
 | 0, _, _, _ => none
 | k + 1, x0, x1, x18 => if x18 = true then (some false) else (phaetonref12_Right.l0 k x0 x1 0)
def phaetonref12_Right.l0 : Nat → List (S45) → Int → Int → Option (Bool)
 | 0, _, _, _ => none
 | k + 1, x0, x1, x5 => if x5 < (x0.length : Int) then (if 0 ≤ x5 then (if (rd_T45 x0 x5).f2.f0 = true then (if ((rd_T45 x0 x5).f0) < 0 then (some false) else (if ((rd_T45 x0 x5).f0) ≥ x1 then (some false) else (if ((rd_T45 x0 x5).f1) < 0 then (some false) else (if ((rd_T45 x0 x5).f1) ≥ x1 then (some false) else (if ((rd_T45 x0 x5).f0) = ((rd_T45 x0 x5).f1) then (some false) else ((phaetonref07_Right.f ((rd_T45 x0 x5).f2.f0) ((rd_T45 x0 x5).f2.f1) ((rd_T45 x0 x5).f2.f2)).bind fun t182 => (if t182 = true then (if ((rd_T45 x0 x5).f3) < (-1) then (some false) else (if ((rd_T45 x0 x5).f3) > 536870911 then (some false) else (phaetonref12_Right.l0 k x0 x1 (wrap64 (x5 + 1))))) else (some false)))))))) else (if ((rd_T45 x0 x5).f0) < 0 then (some false) else (if ((rd_T45 x0 x5).f0) ≥ x1 then (some false) else (if ((rd_T45 x0 x5).f1) < 0 then (some false) else (if ((rd_T45 x0 x5).f1) ≥ x1 then (some false) else (if ((rd_T45 x0 x5).f0) = ((rd_T45 x0 x5).f1) then (some false) else ((phaetonref07_Right.f ((rd_T45 x0 x5).f2.f0) ((rd_T45 x0 x5).f2.f1) ((rd_T45 x0 x5).f2.f2)).bind fun t183 => (if t183 = true then (if ((rd_T45 x0 x5).f3) < (-1) then (some false) else (if ((rd_T45 x0 x5).f3) > 2047 then (some false) else (phaetonref12_Right.l0 k x0 x1 (wrap64 (x5 + 1))))) else (some false))))))))) else (none)) else (some true)
end
def phaetonref12_Right.f (k : Nat) (l0 : List (S45)) (a1 : Int) : Option (Bool) := if a1 < 1 then (phaetonref12_Right.j0 k l0 a1 true) else (if a1 > 4 then (phaetonref12_Right.j0 k l0 a1 true) else (phaetonref12_Right.j0 k l0 a1 (decide ((l0.length : Int) > 16))))
set_option maxHeartbeats 8000000 in
set_option maxRecDepth 100000 in
theorem phaetonref12_Right.calls (k : Nat) (A0 : Option Addr) (c0 : Nat) (l0 : List (S45)) (a1 : Int) (r : Bool) (w : World) (hr0 : Kd.C k45 w A0 l0.length l0) (hc0 : l0.length ≤ c0) (h : phaetonref12_Right.f k l0 a1 = some r) :
  Calls Try.prog 13 #[.slice A0 l0.length c0, .int .i64 a1] w fun e w' => e = .returned (.bool r) ∧ Below w.heap.size w w' := by
 have hu43 := Try.underlying43
 have HR0 := aM hr0
 have HC0 := aM hc0
 clear hr0 hc0
 have HB := aM (Below.refl w.heap.size w)
 have H : (if a1 < 1 then (phaetonref12_Right.j0 k l0 a1 true) else (if a1 > 4 then (phaetonref12_Right.j0 k l0 a1 true) else (phaetonref12_Right.j0 k l0 a1 (decide ((l0.length : Int) > 16))))) = some r := h
 clear h
 have HC3 := aM H
 clear H
 go_enter Try.func13, Try.ntmps13
 go_upto_region 1 with (fail)
 go_cut [18] (fun v18 wc => ∃ (kq : Nat) (x18_2 : Bool), v18 = .bool x18_2 ∧ Aside0 (phaetonref12_Right.j0 kq l0 a1 x18_2 = some r) ∧ Aside0 (kq ≤ k) ∧ Aside0 (Below w.heap.size w wc))
 case first =>
  have H := HC3.out
  clear HC3
  by_cases c4 : a1 < 1
  ·rw [if_pos c4] at H
   have c4b0 : decide (a1 < 1) = true := decide_eq_true c4
   clear c4
   (first | rw [c4b0] | (simp only [i64_w, i32_w]; rw [c4b0]) | skip)
   have H' := aM H
   clear H
   go_wp2
   go_meet
   case rel => exact ⟨_, (true), (by first | rfl | (simp; done) | (simp [*]; done)), H', ⟨by first | omega | exact Nat.le_refl _⟩, ⟨by repeat (first | (with_reducible first | exact HB.out | apply lA | apply lN | apply lW) | exact HB.out)⟩⟩
  ·rw [if_neg c4] at H
   have c4b0 : decide (a1 < 1) = false := decide_eq_false c4
   clear c4
   (first | rw [c4b0] | (simp only [i64_w, i32_w]; rw [c4b0]) | skip)
   by_cases c5 : a1 > 4
   ·rw [if_pos c5] at H
    have c5b0 : decide (4 < a1) = true := decide_eq_true c5
    clear c5
    have H' := aM H
    clear H
    go_wp2
    go_meet
    case rel => exact ⟨_, (true), (by first | rfl | (simp; done) | (simp [*]; done)), H', ⟨by first | omega | exact Nat.le_refl _⟩, ⟨by repeat (first | (with_reducible first | exact HB.out | apply lA | apply lN | apply lW) | exact HB.out)⟩⟩
   ·rw [if_neg c5] at H
    have c5b0 : decide (4 < a1) = false := decide_eq_false c5
    clear c5
    have H' := aM H
    clear H
    go_wp2
    go_meet
    case rel => exact ⟨_, (decide ((l0.length : Int) > 16)), (by first | rfl | (simp; done) | (simp [*]; done)), H', ⟨by first | omega | exact Nat.le_refl _⟩, ⟨by repeat (first | (with_reducible first | exact HB.out | apply lA | apply lN | apply lW) | exact HB.out)⟩⟩
 case rest =>
  clear HC3
  try clear c1
  try clear p2
  try clear c4
  try clear c4b0
  try clear c5
  try clear c5b0
  obtain ⟨kq, x18_2, rfl, HA, HJ2, HB⟩ := hcut
  cases kq with
  | zero => exact absurd HA.out (by simp [phaetonref12_Right.j0])
  | succ kj2 =>
   have H := HA.out
   clear HA
   simp only [phaetonref12_Right.j0] at H
   by_cases c6 : x18_2 = true
   ·subst c6
    have H1 : (some false) = some r := by rw [if_pos rfl] at H; exact H
    clear H
    have H := H1
    clear H1
    obtain rfl := Option.some.inj H
    go_wp2
    go_ret
    exact ⟨by first | rfl | (simp [errW_none, errW_some] <;> rfl) | (simp [*, errW_none, errW_some] <;> rfl), by repeat (first | (with_reducible first | exact HB.out | apply lA | apply lN | apply lW) | exact HB.out)⟩
   ·replace c6 := Bool.eq_false_iff.mpr c6
    subst c6
    have H1 : (phaetonref12_Right.l0 kj2 l0 a1 0) = some r := by rw [if_neg (show ¬ (false = true) by decide)] at H; exact H
    clear H
    have H := H1
    clear H1
    have H' := aM H
    clear H
    go_wp2
    go_loopg [5] kj2 (fun kq v5 w' => ∃ (x5_2 : Int), v5 = .int .i64 x5_2 ∧ Aside0 (phaetonref12_Right.l0 kq l0 a1 x5_2 = some r) ∧ Aside0 (kq ≤ kj2) ∧ Aside0 (Below w.heap.size w w'))
    case atStart => exact ⟨(0), (by first | rfl | (simp; done) | (simp [*]; done)), H', ⟨Nat.le_refl _⟩, ⟨by repeat (first | (with_reducible first | exact HB.out | apply lA | apply lN | apply lW) | exact HB.out)⟩⟩
    case round =>
     clear H'
     try clear c1
     try clear p2
     try clear c4
     try clear c4b0
     try clear c5
     try clear c5b0
     try clear c6
     try clear p2
     obtain ⟨x5_2, rfl, HA, HK2, HB⟩ := hrel
     cases gk with
     | zero => exact absurd HA.out (by simp [phaetonref12_Right.l0])
     | succ k2 =>
      have H := HA.out
      clear HA
      simp only [phaetonref12_Right.l0] at H
      by_cases c7 : x5_2 < (l0.length : Int)
      ·rw [if_pos c7] at H
       have c7b0 : decide (x5_2 < (l0.length : Int)) = true := decide_eq_true c7
       clear c7
       by_cases c8 : 0 ≤ x5_2
       ·rw [if_pos c8] at H
        have c8b0 : decide (0 ≤ x5_2) = true := decide_eq_true c8
        clear c8
        obtain ⟨bq9, hbq9⟩ : ∃ b_ : Bool, b_ = ((rd_T45 l0 x5_2).f2.f0) := ⟨_, rfl⟩
        replace H : (if bq9 = true then (if ((rd_T45 l0 x5_2).f0) < 0 then (some false) else (if ((rd_T45 l0 x5_2).f0) ≥ a1 then (some false) else (if ((rd_T45 l0 x5_2).f1) < 0 then (some false) else (if ((rd_T45 l0 x5_2).f1) ≥ a1 then (some false) else (if ((rd_T45 l0 x5_2).f0) = ((rd_T45 l0 x5_2).f1) then (some false) else ((phaetonref07_Right.f (bq9) ((rd_T45 l0 x5_2).f2.f1) ((rd_T45 l0 x5_2).f2.f2)).bind fun t182 => (if t182 = true then (if ((rd_T45 l0 x5_2).f3) < (-1) then (some false) else (if ((rd_T45 l0 x5_2).f3) > 536870911 then (some false) else (phaetonref12_Right.l0 k2 l0 a1 (wrap64 (x5_2 + 1))))) else (some false)))))))) else (if ((rd_T45 l0 x5_2).f0) < 0 then (some false) else (if ((rd_T45 l0 x5_2).f0) ≥ a1 then (some false) else (if ((rd_T45 l0 x5_2).f1) < 0 then (some false) else (if ((rd_T45 l0 x5_2).f1) ≥ a1 then (some false) else (if ((rd_T45 l0 x5_2).f0) = ((rd_T45 l0 x5_2).f1) then (some false) else ((phaetonref07_Right.f (bq9) ((rd_T45 l0 x5_2).f2.f1) ((rd_T45 l0 x5_2).f2.f2)).bind fun t183 => (if t183 = true then (if ((rd_T45 l0 x5_2).f3) < (-1) then (some false) else (if ((rd_T45 l0 x5_2).f3) > 2047 then (some false) else (phaetonref12_Right.l0 k2 l0 a1 (wrap64 (x5_2 + 1))))) else (some false))))))))) = some r := by rw [← hbq9] at H; exact H
        have Nbq9 := aM hbq9
        clear hbq9
        by_cases c10 : bq9 = true
        ·subst c10
         have H1 : (if ((rd_T45 l0 x5_2).f0) < 0 then (some false) else (if ((rd_T45 l0 x5_2).f0) ≥ a1 then (some false) else (if ((rd_T45 l0 x5_2).f1) < 0 then (some false) else (if ((rd_T45 l0 x5_2).f1) ≥ a1 then (some false) else (if ((rd_T45 l0 x5_2).f0) = ((rd_T45 l0 x5_2).f1) then (some false) else ((phaetonref07_Right.f (true) ((rd_T45 l0 x5_2).f2.f1) ((rd_T45 l0 x5_2).f2.f2)).bind fun t182 => (if t182 = true then (if ((rd_T45 l0 x5_2).f3) < (-1) then (some false) else (if ((rd_T45 l0 x5_2).f3) > 536870911 then (some false) else (phaetonref12_Right.l0 k2 l0 a1 (wrap64 (x5_2 + 1))))) else (some false)))))))) = some r := by rw [if_pos rfl] at H; exact H
         clear H
         have H := H1
         clear H1
         by_cases c11 : ((rd_T45 l0 x5_2).f0) < 0
         ·rw [if_pos c11] at H
          have c11b0 : decide (((rd_T45 l0 x5_2).f0) < 0) = true := decide_eq_true c11
          clear c11
          obtain rfl := Option.some.inj H
          have p181 : 0 ≤ (x5_2 : Int) := oD (by first | (with_reducible assumption) | assumption)
          have q181 : x5_2 < (l0.length : Int) := oD (by first | (with_reducible assumption) | assumption)
          obtain ⟨ad181, e181, hx181_0, hx181_1, hx181_2, hx181_3, hx181_4, hx181_5⟩ := at_T45 HR0.out x5_2 p181 q181
          (try rw [← Nbq9.out] at hx181_2)
          cases e181
          replace hx181_0 := (HB.out.cell (wl w _ hx181_0)).trans hx181_0
          replace hx181_1 := (HB.out.cell (wl w _ hx181_1)).trans hx181_1
          replace hx181_2 := (HB.out.cell (wl w _ hx181_2)).trans hx181_2
          replace hx181_3 := (HB.out.cell (wl w _ hx181_3)).trans hx181_3
          replace hx181_4 := (HB.out.cell (wl w _ hx181_4)).trans hx181_4
          replace hx181_5 := (HB.out.cell (wl w _ hx181_5)).trans hx181_5
          replace p181 := eq_true p181
          replace q181 := eq_true q181
          go_wp2
          go_ret
          exact ⟨by first | rfl | (simp [errW_none, errW_some] <;> rfl) | (simp [*, errW_none, errW_some] <;> rfl), by repeat (first | (with_reducible first | exact HB.out | apply lA | apply lN | apply lW) | exact HB.out)⟩
         ·rw [if_neg c11] at H
          have c11b0 : decide (((rd_T45 l0 x5_2).f0) < 0) = false := decide_eq_false c11
          clear c11
          by_cases c12 : ((rd_T45 l0 x5_2).f0) ≥ a1
          ·rw [if_pos c12] at H
           have c12b0 : decide (a1 ≤ ((rd_T45 l0 x5_2).f0)) = true := decide_eq_true c12
           clear c12
           obtain rfl := Option.some.inj H
           have p181 : 0 ≤ (x5_2 : Int) := oD (by first | (with_reducible assumption) | assumption)
           have q181 : x5_2 < (l0.length : Int) := oD (by first | (with_reducible assumption) | assumption)
           obtain ⟨ad181, e181, hx181_0, hx181_1, hx181_2, hx181_3, hx181_4, hx181_5⟩ := at_T45 HR0.out x5_2 p181 q181
           (try rw [← Nbq9.out] at hx181_2)
           cases e181
           replace hx181_0 := (HB.out.cell (wl w _ hx181_0)).trans hx181_0
           replace hx181_1 := (HB.out.cell (wl w _ hx181_1)).trans hx181_1
           replace hx181_2 := (HB.out.cell (wl w _ hx181_2)).trans hx181_2
           replace hx181_3 := (HB.out.cell (wl w _ hx181_3)).trans hx181_3
           replace hx181_4 := (HB.out.cell (wl w _ hx181_4)).trans hx181_4
           replace hx181_5 := (HB.out.cell (wl w _ hx181_5)).trans hx181_5
           replace p181 := eq_true p181
           replace q181 := eq_true q181
           go_wp2
           go_ret
           exact ⟨by first | rfl | (simp [errW_none, errW_some] <;> rfl) | (simp [*, errW_none, errW_some] <;> rfl), by repeat (first | (with_reducible first | exact HB.out | apply lA | apply lN | apply lW) | exact HB.out)⟩
          ·rw [if_neg c12] at H
           have c12b0 : decide (a1 ≤ ((rd_T45 l0 x5_2).f0)) = false := decide_eq_false c12
           clear c12
           by_cases c13 : ((rd_T45 l0 x5_2).f1) < 0
           ·rw [if_pos c13] at H
            have c13b0 : decide (((rd_T45 l0 x5_2).f1) < 0) = true := decide_eq_true c13
            clear c13
            obtain rfl := Option.some.inj H
            have p181 : 0 ≤ (x5_2 : Int) := oD (by first | (with_reducible assumption) | assumption)
            have q181 : x5_2 < (l0.length : Int) := oD (by first | (with_reducible assumption) | assumption)
            obtain ⟨ad181, e181, hx181_0, hx181_1, hx181_2, hx181_3, hx181_4, hx181_5⟩ := at_T45 HR0.out x5_2 p181 q181
            (try rw [← Nbq9.out] at hx181_2)
            cases e181
            replace hx181_0 := (HB.out.cell (wl w _ hx181_0)).trans hx181_0
            replace hx181_1 := (HB.out.cell (wl w _ hx181_1)).trans hx181_1
            replace hx181_2 := (HB.out.cell (wl w _ hx181_2)).trans hx181_2
            replace hx181_3 := (HB.out.cell (wl w _ hx181_3)).trans hx181_3
            replace hx181_4 := (HB.out.cell (wl w _ hx181_4)).trans hx181_4
            replace hx181_5 := (HB.out.cell (wl w _ hx181_5)).trans hx181_5
            replace p181 := eq_true p181
            replace q181 := eq_true q181
            go_wp2
            go_ret
            exact ⟨by first | rfl | (simp [errW_none, errW_some] <;> rfl) | (simp [*, errW_none, errW_some] <;> rfl), by repeat (first | (with_reducible first | exact HB.out | apply lA | apply lN | apply lW) | exact HB.out)⟩
           ·rw [if_neg c13] at H
            have c13b0 : decide (((rd_T45 l0 x5_2).f1) < 0) = false := decide_eq_false c13
            clear c13
            by_cases c14 : ((rd_T45 l0 x5_2).f1) ≥ a1
            ·rw [if_pos c14] at H
             have c14b0 : decide (a1 ≤ ((rd_T45 l0 x5_2).f1)) = true := decide_eq_true c14
             clear c14
             obtain rfl := Option.some.inj H
             have p181 : 0 ≤ (x5_2 : Int) := oD (by first | (with_reducible assumption) | assumption)
             have q181 : x5_2 < (l0.length : Int) := oD (by first | (with_reducible assumption) | assumption)
             obtain ⟨ad181, e181, hx181_0, hx181_1, hx181_2, hx181_3, hx181_4, hx181_5⟩ := at_T45 HR0.out x5_2 p181 q181
             (try rw [← Nbq9.out] at hx181_2)
             cases e181
             replace hx181_0 := (HB.out.cell (wl w _ hx181_0)).trans hx181_0
             replace hx181_1 := (HB.out.cell (wl w _ hx181_1)).trans hx181_1
             replace hx181_2 := (HB.out.cell (wl w _ hx181_2)).trans hx181_2
             replace hx181_3 := (HB.out.cell (wl w _ hx181_3)).trans hx181_3
             replace hx181_4 := (HB.out.cell (wl w _ hx181_4)).trans hx181_4
             replace hx181_5 := (HB.out.cell (wl w _ hx181_5)).trans hx181_5
             replace p181 := eq_true p181
             replace q181 := eq_true q181
             go_wp2
             go_ret
             exact ⟨by first | rfl | (simp [errW_none, errW_some] <;> rfl) | (simp [*, errW_none, errW_some] <;> rfl), by repeat (first | (with_reducible first | exact HB.out | apply lA | apply lN | apply lW) | exact HB.out)⟩
            ·rw [if_neg c14] at H
             have c14b0 : decide (a1 ≤ ((rd_T45 l0 x5_2).f1)) = false := decide_eq_false c14
             clear c14
             by_cases c15 : ((rd_T45 l0 x5_2).f0) = ((rd_T45 l0 x5_2).f1)
             ·rw [if_pos c15] at H
              have c15b0 : (((rd_T45 l0 x5_2).f0) == ((rd_T45 l0 x5_2).f1)) = true := beq_iff_eq.mpr c15
              have c15b1 : (((rd_T45 l0 x5_2).f0) != ((rd_T45 l0 x5_2).f1)) = false := bne_eq_false_iff_eq.mpr c15
              clear c15
              obtain rfl := Option.some.inj H
              have p181 : 0 ≤ (x5_2 : Int) := oD (by first | (with_reducible assumption) | assumption)
              have q181 : x5_2 < (l0.length : Int) := oD (by first | (with_reducible assumption) | assumption)
              obtain ⟨ad181, e181, hx181_0, hx181_1, hx181_2, hx181_3, hx181_4, hx181_5⟩ := at_T45 HR0.out x5_2 p181 q181
              (try rw [← Nbq9.out] at hx181_2)
              cases e181
              replace hx181_0 := (HB.out.cell (wl w _ hx181_0)).trans hx181_0
              replace hx181_1 := (HB.out.cell (wl w _ hx181_1)).trans hx181_1
              replace hx181_2 := (HB.out.cell (wl w _ hx181_2)).trans hx181_2
              replace hx181_3 := (HB.out.cell (wl w _ hx181_3)).trans hx181_3
              replace hx181_4 := (HB.out.cell (wl w _ hx181_4)).trans hx181_4
              replace hx181_5 := (HB.out.cell (wl w _ hx181_5)).trans hx181_5
              replace p181 := eq_true p181
              replace q181 := eq_true q181
              go_wp2
              go_ret
              exact ⟨by first | rfl | (simp [errW_none, errW_some] <;> rfl) | (simp [*, errW_none, errW_some] <;> rfl), by repeat (first | (with_reducible first | exact HB.out | apply lA | apply lN | apply lW) | exact HB.out)⟩
             ·rw [if_neg c15] at H
              have c15b0 : (((rd_T45 l0 x5_2).f0) == ((rd_T45 l0 x5_2).f1)) = false := nF c15
              have c15b1 : (((rd_T45 l0 x5_2).f0) != ((rd_T45 l0 x5_2).f1)) = true := nT c15
              replace H := Option.bind_eq_some_iff.mp H
              obtain ⟨t182, A160, H⟩ := H
              replace H : (if t182 = true then (if ((rd_T45 l0 x5_2).f3) < (-1) then (some false) else (if ((rd_T45 l0 x5_2).f3) > 536870911 then (some false) else (phaetonref12_Right.l0 k2 l0 a1 (wrap64 (x5_2 + 1))))) else (some false)) = some r := H
              have A16 := aM A160
              clear A160
              by_cases c17 : t182 = true
              ·subst c17
               have H1 : (if ((rd_T45 l0 x5_2).f3) < (-1) then (some false) else (if ((rd_T45 l0 x5_2).f3) > 536870911 then (some false) else (phaetonref12_Right.l0 k2 l0 a1 (wrap64 (x5_2 + 1))))) = some r := by rw [if_pos rfl] at H; exact H
               clear H
               have H := H1
               clear H1
               by_cases c18 : ((rd_T45 l0 x5_2).f3) < (-1)
               ·rw [if_pos c18] at H
                have c18b0 : decide (((rd_T45 l0 x5_2).f3) < (-1)) = true := decide_eq_true c18
                clear c18
                obtain rfl := Option.some.inj H
                have p181 : 0 ≤ (x5_2 : Int) := oD (by first | (with_reducible assumption) | assumption)
                have q181 : x5_2 < (l0.length : Int) := oD (by first | (with_reducible assumption) | assumption)
                obtain ⟨ad181, e181, hx181_0, hx181_1, hx181_2, hx181_3, hx181_4, hx181_5⟩ := at_T45 HR0.out x5_2 p181 q181
                (try rw [← Nbq9.out] at hx181_2)
                cases e181
                replace hx181_0 := (HB.out.cell (wl w _ hx181_0)).trans hx181_0
                replace hx181_1 := (HB.out.cell (wl w _ hx181_1)).trans hx181_1
                replace hx181_2 := (HB.out.cell (wl w _ hx181_2)).trans hx181_2
                replace hx181_3 := (HB.out.cell (wl w _ hx181_3)).trans hx181_3
                replace hx181_4 := (HB.out.cell (wl w _ hx181_4)).trans hx181_4
                replace hx181_5 := (HB.out.cell (wl w _ hx181_5)).trans hx181_5
                replace p181 := eq_true p181
                replace q181 := eq_true q181
                go_wp2_with (first | (go_at_call 26; (with_reducible refine (phaetonref07_Right.calls true ((rd_T45 l0 x5_2).f2.f1) ((rd_T45 l0 x5_2).f2.f2) true _ A16.out).mono ?_); rintro e w19 ⟨rfl, hb⟩; have bcq_ := bcell hb; have n0_ := aM (lT (by repeat (first | (with_reducible first | exact HB.out | apply lA | apply lN | apply lW) | exact HB.out)) hb); clear HB; have HB := n0_; clear n0_; (try clear hb); (try clear hb2); (try clear hk); (try clear hi)))
                go_ret
                exact ⟨by first | rfl | (simp [errW_none, errW_some] <;> rfl) | (simp [*, errW_none, errW_some] <;> rfl), by repeat (first | (with_reducible first | exact HB.out | apply lA | apply lN | apply lW) | exact HB.out)⟩
               ·rw [if_neg c18] at H
                have c18b0 : decide (((rd_T45 l0 x5_2).f3) < (-1)) = false := decide_eq_false c18
                clear c18
                by_cases c20 : ((rd_T45 l0 x5_2).f3) > 536870911
                ·rw [if_pos c20] at H
                 have c20b0 : decide (536870911 < ((rd_T45 l0 x5_2).f3)) = true := decide_eq_true c20
                 clear c20
                 obtain rfl := Option.some.inj H
                 have p181 : 0 ≤ (x5_2 : Int) := oD (by first | (with_reducible assumption) | assumption)
                 have q181 : x5_2 < (l0.length : Int) := oD (by first | (with_reducible assumption) | assumption)
                 obtain ⟨ad181, e181, hx181_0, hx181_1, hx181_2, hx181_3, hx181_4, hx181_5⟩ := at_T45 HR0.out x5_2 p181 q181
                 (try rw [← Nbq9.out] at hx181_2)
                 cases e181
                 replace hx181_0 := (HB.out.cell (wl w _ hx181_0)).trans hx181_0
                 replace hx181_1 := (HB.out.cell (wl w _ hx181_1)).trans hx181_1
                 replace hx181_2 := (HB.out.cell (wl w _ hx181_2)).trans hx181_2
                 replace hx181_3 := (HB.out.cell (wl w _ hx181_3)).trans hx181_3
                 replace hx181_4 := (HB.out.cell (wl w _ hx181_4)).trans hx181_4
                 replace hx181_5 := (HB.out.cell (wl w _ hx181_5)).trans hx181_5
                 replace p181 := eq_true p181
                 replace q181 := eq_true q181
                 go_wp2_with (first | (go_at_call 26; (with_reducible refine (phaetonref07_Right.calls true ((rd_T45 l0 x5_2).f2.f1) ((rd_T45 l0 x5_2).f2.f2) true _ A16.out).mono ?_); rintro e w21 ⟨rfl, hb⟩; have bcq_ := bcell hb; have n0_ := aM (lT (by repeat (first | (with_reducible first | exact HB.out | apply lA | apply lN | apply lW) | exact HB.out)) hb); clear HB; have HB := n0_; clear n0_; (try clear hb); (try clear hb2); (try clear hk); (try clear hi)))
                 go_ret
                 exact ⟨by first | rfl | (simp [errW_none, errW_some] <;> rfl) | (simp [*, errW_none, errW_some] <;> rfl), by repeat (first | (with_reducible first | exact HB.out | apply lA | apply lN | apply lW) | exact HB.out)⟩
                ·rw [if_neg c20] at H
                 have c20b0 : decide (536870911 < ((rd_T45 l0 x5_2).f3)) = false := decide_eq_false c20
                 clear c20
                 have H' := aM H
                 clear H
                 have p181 : 0 ≤ (x5_2 : Int) := oD (by first | (with_reducible assumption) | assumption)
                 have q181 : x5_2 < (l0.length : Int) := oD (by first | (with_reducible assumption) | assumption)
                 obtain ⟨ad181, e181, hx181_0, hx181_1, hx181_2, hx181_3, hx181_4, hx181_5⟩ := at_T45 HR0.out x5_2 p181 q181
                 (try rw [← Nbq9.out] at hx181_2)
                 cases e181
                 replace hx181_0 := (HB.out.cell (wl w _ hx181_0)).trans hx181_0
                 replace hx181_1 := (HB.out.cell (wl w _ hx181_1)).trans hx181_1
                 replace hx181_2 := (HB.out.cell (wl w _ hx181_2)).trans hx181_2
                 replace hx181_3 := (HB.out.cell (wl w _ hx181_3)).trans hx181_3
                 replace hx181_4 := (HB.out.cell (wl w _ hx181_4)).trans hx181_4
                 replace hx181_5 := (HB.out.cell (wl w _ hx181_5)).trans hx181_5
                 replace p181 := eq_true p181
                 replace q181 := eq_true q181
                 go_wp2_with (first | (go_at_call 26; (with_reducible refine (phaetonref07_Right.calls true ((rd_T45 l0 x5_2).f2.f1) ((rd_T45 l0 x5_2).f2.f2) true _ A16.out).mono ?_); rintro e w22 ⟨rfl, hb⟩; have bcq_ := bcell hb; have n0_ := aM (lT (by repeat (first | (with_reducible first | exact HB.out | apply lA | apply lN | apply lW) | exact HB.out)) hb); clear HB; have HB := n0_; clear n0_; (try clear hb); (try clear hb2); (try clear hk); (try clear hi)))
                 go_roundg k2
                 case measure => have := HJ2.out; have := HK2.out; omega
                 case rel => exact ⟨(wrap64 (x5_2 + 1)), (by first | rfl | (simp; done) | (simp [*]; done)), H', ⟨by have := HJ2.out; have := HK2.out; omega⟩, ⟨by repeat (first | (with_reducible first | exact HB.out | apply lA | apply lN | apply lW) | exact HB.out)⟩⟩
              ·replace c17 := Bool.eq_false_iff.mpr c17
               subst c17
               have H1 : (some false) = some r := by rw [if_neg (show ¬ (false = true) by decide)] at H; exact H
               clear H
               have H := H1
               clear H1
               obtain rfl := Option.some.inj H
               have p181 : 0 ≤ (x5_2 : Int) := oD (by first | (with_reducible assumption) | assumption)
               have q181 : x5_2 < (l0.length : Int) := oD (by first | (with_reducible assumption) | assumption)
               obtain ⟨ad181, e181, hx181_0, hx181_1, hx181_2, hx181_3, hx181_4, hx181_5⟩ := at_T45 HR0.out x5_2 p181 q181
               (try rw [← Nbq9.out] at hx181_2)
               cases e181
               replace hx181_0 := (HB.out.cell (wl w _ hx181_0)).trans hx181_0
               replace hx181_1 := (HB.out.cell (wl w _ hx181_1)).trans hx181_1
               replace hx181_2 := (HB.out.cell (wl w _ hx181_2)).trans hx181_2
               replace hx181_3 := (HB.out.cell (wl w _ hx181_3)).trans hx181_3
               replace hx181_4 := (HB.out.cell (wl w _ hx181_4)).trans hx181_4
               replace hx181_5 := (HB.out.cell (wl w _ hx181_5)).trans hx181_5
               replace p181 := eq_true p181
               replace q181 := eq_true q181
               go_wp2_with (first | (go_at_call 26; (with_reducible refine (phaetonref07_Right.calls true ((rd_T45 l0 x5_2).f2.f1) ((rd_T45 l0 x5_2).f2.f2) false _ A16.out).mono ?_); rintro e w23 ⟨rfl, hb⟩; have bcq_ := bcell hb; have n0_ := aM (lT (by repeat (first | (with_reducible first | exact HB.out | apply lA | apply lN | apply lW) | exact HB.out)) hb); clear HB; have HB := n0_; clear n0_; (try clear hb); (try clear hb2); (try clear hk); (try clear hi)))
               go_ret
               exact ⟨by first | rfl | (simp [errW_none, errW_some] <;> rfl) | (simp [*, errW_none, errW_some] <;> rfl), by repeat (first | (with_reducible first | exact HB.out | apply lA | apply lN | apply lW) | exact HB.out)⟩
        ·replace c10 := Bool.eq_false_iff.mpr c10
         subst c10
         have H1 : (if ((rd_T45 l0 x5_2).f0) < 0 then (some false) else (if ((rd_T45 l0 x5_2).f0) ≥ a1 then (some false) else (if ((rd_T45 l0 x5_2).f1) < 0 then (some false) else (if ((rd_T45 l0 x5_2).f1) ≥ a1 then (some false) else (if ((rd_T45 l0 x5_2).f0) = ((rd_T45 l0 x5_2).f1) then (some false) else ((phaetonref07_Right.f (false) ((rd_T45 l0 x5_2).f2.f1) ((rd_T45 l0 x5_2).f2.f2)).bind fun t183 => (if t183 = true then (if ((rd_T45 l0 x5_2).f3) < (-1) then (some false) else (if ((rd_T45 l0 x5_2).f3) > 2047 then (some false) else (phaetonref12_Right.l0 k2 l0 a1 (wrap64 (x5_2 + 1))))) else (some false)))))))) = some r := by rw [if_neg (show ¬ (false = true) by decide)] at H; exact H
         clear H
         have H := H1
         clear H1
         by_cases c24 : ((rd_T45 l0 x5_2).f0) < 0
         ·rw [if_pos c24] at H
          have c24b0 : decide (((rd_T45 l0 x5_2).f0) < 0) = true := decide_eq_true c24
          clear c24
          obtain rfl := Option.some.inj H
          have p181 : 0 ≤ (x5_2 : Int) := oD (by first | (with_reducible assumption) | assumption)
          have q181 : x5_2 < (l0.length : Int) := oD (by first | (with_reducible assumption) | assumption)
          obtain ⟨ad181, e181, hx181_0, hx181_1, hx181_2, hx181_3, hx181_4, hx181_5⟩ := at_T45 HR0.out x5_2 p181 q181
          (try rw [← Nbq9.out] at hx181_2)
          cases e181
          replace hx181_0 := (HB.out.cell (wl w _ hx181_0)).trans hx181_0
          replace hx181_1 := (HB.out.cell (wl w _ hx181_1)).trans hx181_1
          replace hx181_2 := (HB.out.cell (wl w _ hx181_2)).trans hx181_2
          replace hx181_3 := (HB.out.cell (wl w _ hx181_3)).trans hx181_3
          replace hx181_4 := (HB.out.cell (wl w _ hx181_4)).trans hx181_4
          replace hx181_5 := (HB.out.cell (wl w _ hx181_5)).trans hx181_5
          replace p181 := eq_true p181
          replace q181 := eq_true q181
          go_wp2
          go_ret
          exact ⟨by first | rfl | (simp [errW_none, errW_some] <;> rfl) | (simp [*, errW_none, errW_some] <;> rfl), by repeat (first | (with_reducible first | exact HB.out | apply lA | apply lN | apply lW) | exact HB.out)⟩
         ·rw [if_neg c24] at H
          have c24b0 : decide (((rd_T45 l0 x5_2).f0) < 0) = false := decide_eq_false c24
          clear c24
          by_cases c25 : ((rd_T45 l0 x5_2).f0) ≥ a1
          ·rw [if_pos c25] at H
           have c25b0 : decide (a1 ≤ ((rd_T45 l0 x5_2).f0)) = true := decide_eq_true c25
           clear c25
           obtain rfl := Option.some.inj H
           have p181 : 0 ≤ (x5_2 : Int) := oD (by first | (with_reducible assumption) | assumption)
           have q181 : x5_2 < (l0.length : Int) := oD (by first | (with_reducible assumption) | assumption)
           obtain ⟨ad181, e181, hx181_0, hx181_1, hx181_2, hx181_3, hx181_4, hx181_5⟩ := at_T45 HR0.out x5_2 p181 q181
           (try rw [← Nbq9.out] at hx181_2)
           cases e181
           replace hx181_0 := (HB.out.cell (wl w _ hx181_0)).trans hx181_0
           replace hx181_1 := (HB.out.cell (wl w _ hx181_1)).trans hx181_1
           replace hx181_2 := (HB.out.cell (wl w _ hx181_2)).trans hx181_2
           replace hx181_3 := (HB.out.cell (wl w _ hx181_3)).trans hx181_3
           replace hx181_4 := (HB.out.cell (wl w _ hx181_4)).trans hx181_4
           replace hx181_5 := (HB.out.cell (wl w _ hx181_5)).trans hx181_5
           replace p181 := eq_true p181
           replace q181 := eq_true q181
           go_wp2
           go_ret
           exact ⟨by first | rfl | (simp [errW_none, errW_some] <;> rfl) | (simp [*, errW_none, errW_some] <;> rfl), by repeat (first | (with_reducible first | exact HB.out | apply lA | apply lN | apply lW) | exact HB.out)⟩
          ·rw [if_neg c25] at H
           have c25b0 : decide (a1 ≤ ((rd_T45 l0 x5_2).f0)) = false := decide_eq_false c25
           clear c25
           by_cases c26 : ((rd_T45 l0 x5_2).f1) < 0
           ·rw [if_pos c26] at H
            have c26b0 : decide (((rd_T45 l0 x5_2).f1) < 0) = true := decide_eq_true c26
            clear c26
            obtain rfl := Option.some.inj H
            have p181 : 0 ≤ (x5_2 : Int) := oD (by first | (with_reducible assumption) | assumption)
            have q181 : x5_2 < (l0.length : Int) := oD (by first | (with_reducible assumption) | assumption)
            obtain ⟨ad181, e181, hx181_0, hx181_1, hx181_2, hx181_3, hx181_4, hx181_5⟩ := at_T45 HR0.out x5_2 p181 q181
            (try rw [← Nbq9.out] at hx181_2)
            cases e181
            replace hx181_0 := (HB.out.cell (wl w _ hx181_0)).trans hx181_0
            replace hx181_1 := (HB.out.cell (wl w _ hx181_1)).trans hx181_1
            replace hx181_2 := (HB.out.cell (wl w _ hx181_2)).trans hx181_2
            replace hx181_3 := (HB.out.cell (wl w _ hx181_3)).trans hx181_3
            replace hx181_4 := (HB.out.cell (wl w _ hx181_4)).trans hx181_4
            replace hx181_5 := (HB.out.cell (wl w _ hx181_5)).trans hx181_5
            replace p181 := eq_true p181
            replace q181 := eq_true q181
            go_wp2
            go_ret
            exact ⟨by first | rfl | (simp [errW_none, errW_some] <;> rfl) | (simp [*, errW_none, errW_some] <;> rfl), by repeat (first | (with_reducible first | exact HB.out | apply lA | apply lN | apply lW) | exact HB.out)⟩
           ·rw [if_neg c26] at H
            have c26b0 : decide (((rd_T45 l0 x5_2).f1) < 0) = false := decide_eq_false c26
            clear c26
            by_cases c27 : ((rd_T45 l0 x5_2).f1) ≥ a1
            ·rw [if_pos c27] at H
             have c27b0 : decide (a1 ≤ ((rd_T45 l0 x5_2).f1)) = true := decide_eq_true c27
             clear c27
             obtain rfl := Option.some.inj H
             have p181 : 0 ≤ (x5_2 : Int) := oD (by first | (with_reducible assumption) | assumption)
             have q181 : x5_2 < (l0.length : Int) := oD (by first | (with_reducible assumption) | assumption)
             obtain ⟨ad181, e181, hx181_0, hx181_1, hx181_2, hx181_3, hx181_4, hx181_5⟩ := at_T45 HR0.out x5_2 p181 q181
             (try rw [← Nbq9.out] at hx181_2)
             cases e181
             replace hx181_0 := (HB.out.cell (wl w _ hx181_0)).trans hx181_0
             replace hx181_1 := (HB.out.cell (wl w _ hx181_1)).trans hx181_1
             replace hx181_2 := (HB.out.cell (wl w _ hx181_2)).trans hx181_2
             replace hx181_3 := (HB.out.cell (wl w _ hx181_3)).trans hx181_3
             replace hx181_4 := (HB.out.cell (wl w _ hx181_4)).trans hx181_4
             replace hx181_5 := (HB.out.cell (wl w _ hx181_5)).trans hx181_5
             replace p181 := eq_true p181
             replace q181 := eq_true q181
             go_wp2
             go_ret
             exact ⟨by first | rfl | (simp [errW_none, errW_some] <;> rfl) | (simp [*, errW_none, errW_some] <;> rfl), by repeat (first | (with_reducible first | exact HB.out | apply lA | apply lN | apply lW) | exact HB.out)⟩
            ·rw [if_neg c27] at H
             have c27b0 : decide (a1 ≤ ((rd_T45 l0 x5_2).f1)) = false := decide_eq_false c27
             clear c27
             by_cases c28 : ((rd_T45 l0 x5_2).f0) = ((rd_T45 l0 x5_2).f1)
             ·rw [if_pos c28] at H
              have c28b0 : (((rd_T45 l0 x5_2).f0) == ((rd_T45 l0 x5_2).f1)) = true := beq_iff_eq.mpr c28
              have c28b1 : (((rd_T45 l0 x5_2).f0) != ((rd_T45 l0 x5_2).f1)) = false := bne_eq_false_iff_eq.mpr c28
              clear c28
              obtain rfl := Option.some.inj H
              have p181 : 0 ≤ (x5_2 : Int) := oD (by first | (with_reducible assumption) | assumption)
              have q181 : x5_2 < (l0.length : Int) := oD (by first | (with_reducible assumption) | assumption)
              obtain ⟨ad181, e181, hx181_0, hx181_1, hx181_2, hx181_3, hx181_4, hx181_5⟩ := at_T45 HR0.out x5_2 p181 q181
              (try rw [← Nbq9.out] at hx181_2)
              cases e181
              replace hx181_0 := (HB.out.cell (wl w _ hx181_0)).trans hx181_0
              replace hx181_1 := (HB.out.cell (wl w _ hx181_1)).trans hx181_1
              replace hx181_2 := (HB.out.cell (wl w _ hx181_2)).trans hx181_2
              replace hx181_3 := (HB.out.cell (wl w _ hx181_3)).trans hx181_3
              replace hx181_4 := (HB.out.cell (wl w _ hx181_4)).trans hx181_4
              replace hx181_5 := (HB.out.cell (wl w _ hx181_5)).trans hx181_5
              replace p181 := eq_true p181
              replace q181 := eq_true q181
              go_wp2
              go_ret
              exact ⟨by first | rfl | (simp [errW_none, errW_some] <;> rfl) | (simp [*, errW_none, errW_some] <;> rfl), by repeat (first | (with_reducible first | exact HB.out | apply lA | apply lN | apply lW) | exact HB.out)⟩
             ·rw [if_neg c28] at H
              have c28b0 : (((rd_T45 l0 x5_2).f0) == ((rd_T45 l0 x5_2).f1)) = false := nF c28
              have c28b1 : (((rd_T45 l0 x5_2).f0) != ((rd_T45 l0 x5_2).f1)) = true := nT c28
              replace H := Option.bind_eq_some_iff.mp H
              obtain ⟨t183, A290, H⟩ := H
              replace H : (if t183 = true then (if ((rd_T45 l0 x5_2).f3) < (-1) then (some false) else (if ((rd_T45 l0 x5_2).f3) > 2047 then (some false) else (phaetonref12_Right.l0 k2 l0 a1 (wrap64 (x5_2 + 1))))) else (some false)) = some r := H
              have A29 := aM A290
              clear A290
              by_cases c30 : t183 = true
              ·subst c30
               have H1 : (if ((rd_T45 l0 x5_2).f3) < (-1) then (some false) else (if ((rd_T45 l0 x5_2).f3) > 2047 then (some false) else (phaetonref12_Right.l0 k2 l0 a1 (wrap64 (x5_2 + 1))))) = some r := by rw [if_pos rfl] at H; exact H
               clear H
               have H := H1
               clear H1
               by_cases c31 : ((rd_T45 l0 x5_2).f3) < (-1)
               ·rw [if_pos c31] at H
                have c31b0 : decide (((rd_T45 l0 x5_2).f3) < (-1)) = true := decide_eq_true c31
                clear c31
                obtain rfl := Option.some.inj H
                have p181 : 0 ≤ (x5_2 : Int) := oD (by first | (with_reducible assumption) | assumption)
                have q181 : x5_2 < (l0.length : Int) := oD (by first | (with_reducible assumption) | assumption)
                obtain ⟨ad181, e181, hx181_0, hx181_1, hx181_2, hx181_3, hx181_4, hx181_5⟩ := at_T45 HR0.out x5_2 p181 q181
                (try rw [← Nbq9.out] at hx181_2)
                cases e181
                replace hx181_0 := (HB.out.cell (wl w _ hx181_0)).trans hx181_0
                replace hx181_1 := (HB.out.cell (wl w _ hx181_1)).trans hx181_1
                replace hx181_2 := (HB.out.cell (wl w _ hx181_2)).trans hx181_2
                replace hx181_3 := (HB.out.cell (wl w _ hx181_3)).trans hx181_3
                replace hx181_4 := (HB.out.cell (wl w _ hx181_4)).trans hx181_4
                replace hx181_5 := (HB.out.cell (wl w _ hx181_5)).trans hx181_5
                replace p181 := eq_true p181
                replace q181 := eq_true q181
                go_wp2_with (first | (go_at_call 26; (with_reducible refine (phaetonref07_Right.calls false ((rd_T45 l0 x5_2).f2.f1) ((rd_T45 l0 x5_2).f2.f2) true _ A29.out).mono ?_); rintro e w32 ⟨rfl, hb⟩; have bcq_ := bcell hb; have n0_ := aM (lT (by repeat (first | (with_reducible first | exact HB.out | apply lA | apply lN | apply lW) | exact HB.out)) hb); clear HB; have HB := n0_; clear n0_; (try clear hb); (try clear hb2); (try clear hk); (try clear hi)))
                go_ret
                exact ⟨by first | rfl | (simp [errW_none, errW_some] <;> rfl) | (simp [*, errW_none, errW_some] <;> rfl), by repeat (first | (with_reducible first | exact HB.out | apply lA | apply lN | apply lW) | exact HB.out)⟩
               ·rw [if_neg c31] at H
                have c31b0 : decide (((rd_T45 l0 x5_2).f3) < (-1)) = false := decide_eq_false c31
                clear c31
                by_cases c33 : ((rd_T45 l0 x5_2).f3) > 2047
                ·rw [if_pos c33] at H
                 have c33b0 : decide (2047 < ((rd_T45 l0 x5_2).f3)) = true := decide_eq_true c33
                 clear c33
                 obtain rfl := Option.some.inj H
                 have p181 : 0 ≤ (x5_2 : Int) := oD (by first | (with_reducible assumption) | assumption)
                 have q181 : x5_2 < (l0.length : Int) := oD (by first | (with_reducible assumption) | assumption)
                 obtain ⟨ad181, e181, hx181_0, hx181_1, hx181_2, hx181_3, hx181_4, hx181_5⟩ := at_T45 HR0.out x5_2 p181 q181
                 (try rw [← Nbq9.out] at hx181_2)
                 cases e181
                 replace hx181_0 := (HB.out.cell (wl w _ hx181_0)).trans hx181_0
                 replace hx181_1 := (HB.out.cell (wl w _ hx181_1)).trans hx181_1
                 replace hx181_2 := (HB.out.cell (wl w _ hx181_2)).trans hx181_2
                 replace hx181_3 := (HB.out.cell (wl w _ hx181_3)).trans hx181_3
                 replace hx181_4 := (HB.out.cell (wl w _ hx181_4)).trans hx181_4
                 replace hx181_5 := (HB.out.cell (wl w _ hx181_5)).trans hx181_5
                 replace p181 := eq_true p181
                 replace q181 := eq_true q181
                 go_wp2_with (first | (go_at_call 26; (with_reducible refine (phaetonref07_Right.calls false ((rd_T45 l0 x5_2).f2.f1) ((rd_T45 l0 x5_2).f2.f2) true _ A29.out).mono ?_); rintro e w34 ⟨rfl, hb⟩; have bcq_ := bcell hb; have n0_ := aM (lT (by repeat (first | (with_reducible first | exact HB.out | apply lA | apply lN | apply lW) | exact HB.out)) hb); clear HB; have HB := n0_; clear n0_; (try clear hb); (try clear hb2); (try clear hk); (try clear hi)))
                 go_ret
                 exact ⟨by first | rfl | (simp [errW_none, errW_some] <;> rfl) | (simp [*, errW_none, errW_some] <;> rfl), by repeat (first | (with_reducible first | exact HB.out | apply lA | apply lN | apply lW) | exact HB.out)⟩
                ·rw [if_neg c33] at H
                 have c33b0 : decide (2047 < ((rd_T45 l0 x5_2).f3)) = false := decide_eq_false c33
                 clear c33
                 have H' := aM H
                 clear H
                 have p181 : 0 ≤ (x5_2 : Int) := oD (by first | (with_reducible assumption) | assumption)
                 have q181 : x5_2 < (l0.length : Int) := oD (by first | (with_reducible assumption) | assumption)
                 obtain ⟨ad181, e181, hx181_0, hx181_1, hx181_2, hx181_3, hx181_4, hx181_5⟩ := at_T45 HR0.out x5_2 p181 q181
                 (try rw [← Nbq9.out] at hx181_2)
                 cases e181
                 replace hx181_0 := (HB.out.cell (wl w _ hx181_0)).trans hx181_0
                 replace hx181_1 := (HB.out.cell (wl w _ hx181_1)).trans hx181_1
                 replace hx181_2 := (HB.out.cell (wl w _ hx181_2)).trans hx181_2
                 replace hx181_3 := (HB.out.cell (wl w _ hx181_3)).trans hx181_3
                 replace hx181_4 := (HB.out.cell (wl w _ hx181_4)).trans hx181_4
                 replace hx181_5 := (HB.out.cell (wl w _ hx181_5)).trans hx181_5
                 replace p181 := eq_true p181
                 replace q181 := eq_true q181
                 go_wp2_with (first | (go_at_call 26; (with_reducible refine (phaetonref07_Right.calls false ((rd_T45 l0 x5_2).f2.f1) ((rd_T45 l0 x5_2).f2.f2) true _ A29.out).mono ?_); rintro e w35 ⟨rfl, hb⟩; have bcq_ := bcell hb; have n0_ := aM (lT (by repeat (first | (with_reducible first | exact HB.out | apply lA | apply lN | apply lW) | exact HB.out)) hb); clear HB; have HB := n0_; clear n0_; (try clear hb); (try clear hb2); (try clear hk); (try clear hi)))
                 go_roundg k2
                 case measure => have := HJ2.out; have := HK2.out; omega
                 case rel => exact ⟨(wrap64 (x5_2 + 1)), (by first | rfl | (simp; done) | (simp [*]; done)), H', ⟨by have := HJ2.out; have := HK2.out; omega⟩, ⟨by repeat (first | (with_reducible first | exact HB.out | apply lA | apply lN | apply lW) | exact HB.out)⟩⟩
              ·replace c30 := Bool.eq_false_iff.mpr c30
               subst c30
               have H1 : (some false) = some r := by rw [if_neg (show ¬ (false = true) by decide)] at H; exact H
               clear H
               have H := H1
               clear H1
               obtain rfl := Option.some.inj H
               have p181 : 0 ≤ (x5_2 : Int) := oD (by first | (with_reducible assumption) | assumption)
               have q181 : x5_2 < (l0.length : Int) := oD (by first | (with_reducible assumption) | assumption)
               obtain ⟨ad181, e181, hx181_0, hx181_1, hx181_2, hx181_3, hx181_4, hx181_5⟩ := at_T45 HR0.out x5_2 p181 q181
               (try rw [← Nbq9.out] at hx181_2)
               cases e181
               replace hx181_0 := (HB.out.cell (wl w _ hx181_0)).trans hx181_0
               replace hx181_1 := (HB.out.cell (wl w _ hx181_1)).trans hx181_1
               replace hx181_2 := (HB.out.cell (wl w _ hx181_2)).trans hx181_2
               replace hx181_3 := (HB.out.cell (wl w _ hx181_3)).trans hx181_3
               replace hx181_4 := (HB.out.cell (wl w _ hx181_4)).trans hx181_4
               replace hx181_5 := (HB.out.cell (wl w _ hx181_5)).trans hx181_5
               replace p181 := eq_true p181
               replace q181 := eq_true q181
               go_wp2_with (first | (go_at_call 26; (with_reducible refine (phaetonref07_Right.calls false ((rd_T45 l0 x5_2).f2.f1) ((rd_T45 l0 x5_2).f2.f2) false _ A29.out).mono ?_); rintro e w36 ⟨rfl, hb⟩; have bcq_ := bcell hb; have n0_ := aM (lT (by repeat (first | (with_reducible first | exact HB.out | apply lA | apply lN | apply lW) | exact HB.out)) hb); clear HB; have HB := n0_; clear n0_; (try clear hb); (try clear hb2); (try clear hk); (try clear hi)))
               go_ret
               exact ⟨by first | rfl | (simp [errW_none, errW_some] <;> rfl) | (simp [*, errW_none, errW_some] <;> rfl), by repeat (first | (with_reducible first | exact HB.out | apply lA | apply lN | apply lW) | exact HB.out)⟩
       ·rw [if_neg c8] at H
        exact absurd H (by simp)
      ·rw [if_neg c7] at H
       have c7b0 : decide (x5_2 < (l0.length : Int)) = false := decide_eq_false c7
       clear c7
       obtain rfl := Option.some.inj H
       go_wp2
       go_ret
       exact ⟨by first | rfl | (simp [errW_none, errW_some] <;> rfl) | (simp [*, errW_none, errW_some] <;> rfl), by repeat (first | (with_reducible first | exact HB.out | apply lA | apply lN | apply lW) | exact HB.out)⟩

end Go.Proofs.Ytpcabeefahldlaa.P

/- Go functions that the laws of this seat reach, each as a Lean function, and a proof that a call of the Go code comes to its answers; written by a program (the kit's print, turned in a few places). Conditions: each theorem's own premises. -/
import Derived.Test.YtcgkkjimonfhbaaPx0
import Derived.Test.YtcgkkjimonfhbaaPx9
import Derived.Test.YtcgkkjimonfhbaaPx23
import Derived.Test.YtcgkkjimonfhbaaGApart
namespace Go.Proofs.Ytcgkkjimonfhbaa.P
open Go.RowKit Go.Proofs.YtcgkkjimonfhbaaW.PrintWords Go.Proofs.YtcgkkjimonfhbaaW.PrintLast Go.Proofs.YtcgkkjimonfhbaaW.PrintMore
attribute [local go_sem] max2_int min2_int max_two min_two max_three min_three max_four min_four   -- for this text's walks alone
set_option linter.unusedVariables false
set_option linter.unusedSimpArgs false

/-! ### phaetonlaw15_SigAll: function 8 -/
def phaetonlaw15_SigAll.l0 : Nat → List (S23) → Int → Bool → Bool → Int → Int → Int → Option (Bool)
 | 0, _, _, _, _, _, _, _ => none
 | k + 1, x0, x1, x7, x8, x9, x10, x11 => if x11 < (x0.length : Int) then (if x8 = true then (if 0 ≤ x11 then (phaetonlaw15_SigAll.l0 k x0 x1 x7 x8 x9 (wrap64 (x10 + ((rd_T23 x0 x11).f1))) (wrap64 (x11 + 1))) else (none)) else (phaetonlaw15_SigAll.l0 k x0 x1 x7 x8 x9 x10 (wrap64 (x11 + 1)))) else (if x8 = true then (if 0 ≤ x9 then (if x9 ≤ (x0.length : Int) then ((sig_Apart.f (x0.take (x9 : Int).toNat) x1).bind fun t424 => (if t424 = true then ((sig_Apart.f (x0.drop (x9 : Int).toNat) x1).bind fun t429 => (if t429 = true then (if (x0.length : Int) = 0 then (some x7) else (if x10 ≤ (wrap64 (8 * x1)) then (some x7) else (none))) else (none))) else (none))) else (none)) else (none)) else (some x7))
def phaetonlaw15_SigAll.f (k : Nat) (l0 : List (S23)) (a1 : Int) (a2 : Int) : Option (Bool) := (phaetonlaw15_head.f k).bind fun t412 => (if 0 ≤ (mn (l0.length : Int) 10) then (if (mn (l0.length : Int) 10) ≤ (l0.length : Int) then ((some (l0.take ((mn (l0.length : Int) 10) : Int).toNat : List (S23))).bind fun y413 => ((sig_Apart.f y413 a1).bind fun t417 => ((phaetonref15_Apart.f k y413 a1).bind fun t418 => (if (t417 != t418) = true then (none) else (if (wrap64 ((y413.length : Int) + 1)) = 0 then (none) else (phaetonlaw15_SigAll.l0 k y413 a1 t412 t417 (Int.tmod (wrap64 (a2)) (wrap64 ((y413.length : Int) + 1))) 0 0)))))) else (none)) else (none))
theorem phaetonlaw15_SigAll.mono_l : ∀ k, (∀ y0 y1 y2 y3 y4 y5 y6, LeO (phaetonlaw15_SigAll.l0 k y0 y1 y2 y3 y4 y5 y6) (phaetonlaw15_SigAll.l0 (k + 1) y0 y1 y2 y3 y4 y5 y6))
 | 0 => fun _ _ _ _ _ _ _ r h => by simp [phaetonlaw15_SigAll.l0] at h
 | k + 1 => by
  have ih0 := phaetonlaw15_SigAll.mono_l k
  ·intro y0 y1 y2 y3 y4 y5 y6
   unfold phaetonlaw15_SigAll.l0
   repeat' first
   | (with_reducible exact ih0 _ _ _ _ _ _ _)
   | (with_reducible exact phaetonlaw15_head.mono _)
   | (with_reducible exact phaetonref15_Apart.mono _ _ _)
   | (with_reducible exact LeO.refl _)
   | (with_reducible exact LeO.none _)
   | (with_reducible refine LeO.ite ?_ ?_)
   | (with_reducible refine LeO.bind ?_ (fun _ => ?_))
   | exact ih0 _ _ _ _ _ _ _
   | exact phaetonlaw15_head.mono _
   | exact phaetonref15_Apart.mono _ _ _
   | exact LeO.none _
   | refine LeO.ite ?_ ?_
   | refine LeO.bind ?_ (fun _ => ?_)
theorem phaetonlaw15_SigAll.mono : ∀ a0 a1 a2 k, LeO (phaetonlaw15_SigAll.f k a0 a1 a2) (phaetonlaw15_SigAll.f (k + 1) a0 a1 a2) := by
 intro a0 a1 a2 k
 have ih0 := phaetonlaw15_SigAll.mono_l k
 unfold phaetonlaw15_SigAll.f
 repeat' first
   | (with_reducible exact ih0 _ _ _ _ _ _ _)
   | (with_reducible exact phaetonlaw15_head.mono _)
   | (with_reducible exact phaetonref15_Apart.mono _ _ _)
   | (with_reducible exact LeO.refl _)
   | (with_reducible exact LeO.none _)
   | (with_reducible refine LeO.ite ?_ ?_)
   | (with_reducible refine LeO.bind ?_ (fun _ => ?_))
   | exact ih0 _ _ _ _ _ _ _
   | exact phaetonlaw15_head.mono _
   | exact phaetonref15_Apart.mono _ _ _
   | exact LeO.none _
   | refine LeO.ite ?_ ?_
   | refine LeO.bind ?_ (fun _ => ?_)
set_option maxHeartbeats 8000000 in
set_option maxRecDepth 100000 in
theorem phaetonlaw15_SigAll.calls (k : Nat) (A0 : Option Addr) (c0 : Nat) (l0 : List (S23)) (a1 : Int) (a2 : Int) (r : Bool) (w : World) (hr0 : Kd.C k23 w A0 l0.length l0) (hc0 : l0.length ≤ c0) (h : phaetonlaw15_SigAll.f k l0 a1 a2 = some r) :
  Calls Try.prog 8 #[.slice A0 l0.length c0, .int .i64 a1, .int .u8 a2] w fun e w' => e = .returned (.bool r) ∧ Below w.heap.size w w' := by
 have HR0 := aM hr0
 have HC0 := aM hc0
 clear hr0 hc0
 have HB := aM (Below.refl w.heap.size w)
 have H : ((phaetonlaw15_head.f k).bind fun t412 => (if 0 ≤ (mn (l0.length : Int) 10) then (if (mn (l0.length : Int) 10) ≤ (l0.length : Int) then ((some (l0.take ((mn (l0.length : Int) 10) : Int).toNat : List (S23))).bind fun y413 => ((sig_Apart.f y413 a1).bind fun t417 => ((phaetonref15_Apart.f k y413 a1).bind fun t418 => (if (t417 != t418) = true then (none) else (if (wrap64 ((y413.length : Int) + 1)) = 0 then (none) else (phaetonlaw15_SigAll.l0 k y413 a1 t412 t417 (Int.tmod (wrap64 (a2)) (wrap64 ((y413.length : Int) + 1))) 0 0)))))) else (none)) else (none))) = some r := h
 clear h
 replace H := Option.bind_eq_some_iff.mp H
 obtain ⟨t412, A40, H⟩ := H
 replace H : (if 0 ≤ (mn (l0.length : Int) 10) then (if (mn (l0.length : Int) 10) ≤ (l0.length : Int) then ((some (l0.take ((mn (l0.length : Int) 10) : Int).toNat : List (S23))).bind fun y413 => ((sig_Apart.f y413 a1).bind fun t417 => ((phaetonref15_Apart.f k y413 a1).bind fun t418 => (if (t417 != t418) = true then (none) else (if (wrap64 ((y413.length : Int) + 1)) = 0 then (none) else (phaetonlaw15_SigAll.l0 k y413 a1 t412 t417 (Int.tmod (wrap64 (a2)) (wrap64 ((y413.length : Int) + 1))) 0 0)))))) else (none)) else (none)) = some r := H
 have A4 := aM A40
 clear A40
 obtain ⟨ji5, hji5⟩ : ∃ j_ : Int, (mn (l0.length : Int) 10) = j_ := ⟨_, rfl⟩
 replace H : (if 0 ≤ (ji5) then (if (ji5) ≤ (l0.length : Int) then ((some (l0.take ((ji5) : Int).toNat : List (S23))).bind fun y413 => ((sig_Apart.f y413 a1).bind fun t417 => ((phaetonref15_Apart.f k y413 a1).bind fun t418 => (if (t417 != t418) = true then (none) else (if (wrap64 ((y413.length : Int) + 1)) = 0 then (none) else (phaetonlaw15_SigAll.l0 k y413 a1 t412 t417 (Int.tmod (wrap64 (a2)) (wrap64 ((y413.length : Int) + 1))) 0 0)))))) else (none)) else (none)) = some r := by first | (rw [hji5] at H; exact H) | (simp only [hji5] at H ⊢; exact H)
 (try rw [hji5] at A4)
 (try (have hji5h : ji5 ≤ 10 := by (rw [← hji5]; unfold mn; (repeat' split) <;> omega)))
 (try (have hji5g : ji5 ≤ 64 := by omega))
 (try (have hji5l : 0 ≤ ji5 := by (rw [← hji5]; unfold mn; (repeat' split) <;> omega)))
 (try (have hji5m : 0 ≤ ji5 := by omega))
 have hji5_ : (if 10 < (l0.length : Int) then 10 else (l0.length : Int)) = ji5 := hji5
 by_cases c6 : 0 ≤ (ji5)
 ·rw [if_pos c6] at H
  have c6b0 := eq_true c6
  have c6b1 : decide (0 ≤ (ji5)) = true := decide_eq_true c6
  clear c6
  by_cases c7 : (ji5) ≤ (l0.length : Int)
  ·rw [if_pos c7] at H
   have c7b0 := eq_true c7
   have c7b1 : decide ((ji5) ≤ (l0.length : Int)) = true := decide_eq_true c7
   clear c7
   obtain ⟨y413, hy413⟩ : ∃ y_ : List (S23), y_ = (l0.take ((ji5) : Int).toNat) := ⟨_, rfl⟩
   replace H : ((sig_Apart.f y413 a1).bind fun t417 => ((phaetonref15_Apart.f k y413 a1).bind fun t418 => (if (t417 != t418) = true then (none) else (if (wrap64 ((y413.length : Int) + 1)) = 0 then (none) else (phaetonlaw15_SigAll.l0 k y413 a1 t412 t417 (Int.tmod (wrap64 (a2)) (wrap64 ((y413.length : Int) + 1))) 0 0))))) = some r := by first | (rw [hy413]; with_reducible exact H) | (have H2_ := (Option.bind_some _ _).symm.trans H; rw [hy413]; with_reducible exact H2_) | (have H2_ := (Option.bind_some _ _).symm.trans H; with_reducible exact H2_) | with_reducible exact H | (rw [hy413]; exact H) | exact H
   have Ny413 := aM hy413
   clear hy413
   replace H := Option.bind_eq_some_iff.mp H
   obtain ⟨t417, A80, H⟩ := H
   replace H : ((phaetonref15_Apart.f k y413 a1).bind fun t418 => (if (t417 != t418) = true then (none) else (if (wrap64 ((y413.length : Int) + 1)) = 0 then (none) else (phaetonlaw15_SigAll.l0 k y413 a1 t412 t417 (Int.tmod (wrap64 (a2)) (wrap64 ((y413.length : Int) + 1))) 0 0)))) = some r := H
   have A8 := aM A80
   clear A80
   replace H := Option.bind_eq_some_iff.mp H
   obtain ⟨t418, A90, H⟩ := H
   replace H : (if (t417 != t418) = true then (none) else (if (wrap64 ((y413.length : Int) + 1)) = 0 then (none) else (phaetonlaw15_SigAll.l0 k y413 a1 t412 t417 (Int.tmod (wrap64 (a2)) (wrap64 ((y413.length : Int) + 1))) 0 0))) = some r := H
   have A9 := aM A90
   clear A90
   by_cases c10 : (t417 != t418) = true
   ·rw [if_pos c10] at H
    exact absurd H (by simp)
   ·rw [if_neg c10] at H
    have c10b0 : (t417 != t418) = false := by simpa using c10
    (try (have c10b1 : decide (t417 = t418) = true := by simpa using c10))
    (try (have c10b2 : (t417 == t418) = true := by simpa using c10))
    clear c10
    by_cases c11 : (wrap64 ((y413.length : Int) + 1)) = 0
    ·rw [if_pos c11] at H
     exact absurd H (by simp)
    ·rw [if_neg c11] at H
     have c11b0 : ((wrap64 ((y413.length : Int) + 1)) == 0) = false := nF c11
     have c11b1 : ((wrap64 ((y413.length : Int) + 1)) != 0) = true := nT c11
     have H' := aM H
     clear H
     go_enter Try.func8, Try.ntmps8
     go_wp2_with (first | ((with_reducible refine gate_callee (f := 11) rfl ?_); refine goesL_ (some 12) rfl rfl Try.func11 (by kernel_rfl) rfl #[] rfl (by (try simp only [List.map_toArray, List.map_cons, List.map_nil]); first | done | rfl | (simp only [List.length_drop, List.length_take]; rfl)) ?_; (with_reducible refine (phaetonlaw15_head.calls k  t412 _ A4.out).mono ?_); rintro e w12 ⟨rfl, hb⟩; refine ⟨_, rfl, ?_⟩; have n0_ := aM (lT (by repeat (first | (with_reducible first | exact HB.out | apply lA | apply lN | apply lW) | exact HB.out)) hb); clear HB; have HB := n0_; clear n0_; (try clear hb); (try clear hb2); (try clear hk); (try clear hi); have q13 : ((ji5) : Int) ≤ ((l0.length : Int) : Int) := oD (by first | (with_reducible assumption) | assumption); obtain ⟨i013, hi013, _, hsz13, _⟩ := info_parts info23; have hroom13 : l0.length ≤ c0 := HC0.out; have hC13 : Kd.C k23 _ A0 l0.length l0 := HR0.out; have hcut13 := cut_to (P := Try.prog) 42 23 .i64 Try.underlying42 hi013 A0 l0.length c0 (ji5) (oD (by first | (with_reducible assumption) | assumption)) q13 hroom13; have hr13 := Kd.C_take (m := ((ji5) : Int).toNat) hC13 (by omega); have hy13 : y413.length = ((ji5) : Int).toNat := (by rw [Ny413.out, List.length_take]; omega); rw [← Ny413.out] at hr13; rw [← hy13] at hcut13; have HR416 := aM hr13; have HC416 := aM (show y413.length ≤ c0 from by omega); clear hr13 hC13 hroom13 hi013 hsz13; have KY13 := aM hy13; clear hy13; replace q13 := eq_true q13) | ((with_reducible refine gate_callee (f := 27) rfl ?_); refine goesL_ (some 20) rfl rfl Try.func27 (by kernel_rfl) rfl #[.slice A0 y413.length c0, .int .i64 a1] rfl (by (try simp only [List.map_toArray, List.map_cons, List.map_nil]); first | done | rfl | (simp only [List.length_drop, List.length_take]; rfl)) ?_; (with_reducible refine (sig_Apart.calls _ _ y413 a1 t417 _ ?side1 ?side2 A8.out).mono ?_); (case side1 => repeat (first | exact (Kd.C_below HR416.out HB.out) | (with_reducible refine Kd.C_alloc ?_ _) | (with_reducible refine Kd.C_drewN ?_ _) | (with_reducible refine Kd.C_drew ?_))); (case side2 => exact HC416.out); rintro e w14 ⟨rfl, hb⟩; refine ⟨_, rfl, ?_⟩; have n0_ := aM (lT (by repeat (first | (with_reducible first | exact HB.out | apply lA | apply lN | apply lW) | exact HB.out)) hb); clear HB; have HB := n0_; clear n0_; (try clear hb); (try clear hb2); (try clear hk); (try clear hi)) | ((with_reducible refine gate_callee (f := 28) rfl ?_); refine goesL_ (some 24) rfl rfl Try.func28 (by kernel_rfl) rfl #[.slice A0 y413.length c0, .int .i64 a1] rfl (by (try simp only [List.map_toArray, List.map_cons, List.map_nil]); first | done | rfl | (simp only [List.length_drop, List.length_take]; rfl)) ?_; (with_reducible refine (phaetonref15_Apart.calls k _ _ y413 a1 t418 _ ?side1 ?side2 A9.out).mono ?_); (case side1 => repeat (first | exact (Kd.C_below HR416.out HB.out) | (with_reducible refine Kd.C_alloc ?_ _) | (with_reducible refine Kd.C_drewN ?_ _) | (with_reducible refine Kd.C_drew ?_))); (case side2 => exact HC416.out); rintro e w15 ⟨rfl, hb⟩; refine ⟨_, rfl, ?_⟩; have n0_ := aM (lT (by repeat (first | (with_reducible first | exact HB.out | apply lA | apply lN | apply lW) | exact HB.out)) hb); clear HB; have HB := n0_; clear n0_; (try clear hb); (try clear hb2); (try clear hk); (try clear hi)))
     go_loopg [10, 11] k (fun kq v10 v11 w' => ∃ (x10_1 : Int) (x11_1 : Int), v10 = .int .i64 x10_1 ∧ v11 = .int .i64 x11_1 ∧ Aside0 (phaetonlaw15_SigAll.l0 kq y413 a1 t412 t417 (Int.tmod (wrap64 (a2)) (wrap64 ((y413.length : Int) + 1))) x10_1 x11_1 = some r) ∧ Aside0 (kq ≤ k) ∧ Aside0 (Below w.heap.size w w'))
     case atStart => exact ⟨(0), (0), (by first | rfl | (simp; done) | (simp [*]; done)), (by first | rfl | (simp; done) | (simp [*]; done)), H', ⟨Nat.le_refl _⟩, ⟨by repeat (first | (with_reducible first | exact HB.out | apply lA | apply lN | apply lW) | exact HB.out)⟩⟩
     case round =>
      clear H'
      try clear c1
      try clear q1
      try clear c2
      try clear p2
      try clear c6
      try clear c6b0
      try clear c6b1
      try clear p6
      try clear c7
      try clear c7b0
      try clear c7b1
      try clear c8
      try clear c10
      try clear c10b0
      try clear c10b1
      try clear c10b2
      try clear c11
      try clear c11b0
      try clear c11b1
      try clear q13
      try clear q13
      obtain ⟨x10_1, x11_1, rfl, rfl, HA, HK1, HB⟩ := hrel
      cases gk with
      | zero => exact absurd HA.out (by simp [phaetonlaw15_SigAll.l0])
      | succ k1 =>
       have H := HA.out
       clear HA
       simp only [phaetonlaw15_SigAll.l0] at H
       by_cases c16 : x11_1 < (y413.length : Int)
       ·rw [if_pos c16] at H
        have c16b0 : decide (x11_1 < (y413.length : Int)) = true := decide_eq_true c16
        clear c16
        by_cases c17 : t417 = true
        ·subst c17
         have H1 : (if 0 ≤ x11_1 then (phaetonlaw15_SigAll.l0 k1 y413 a1 t412 true (Int.tmod (wrap64 (a2)) (wrap64 ((y413.length : Int) + 1))) (wrap64 (x10_1 + ((rd_T23 y413 x11_1).f1))) (wrap64 (x11_1 + 1))) else (none)) = some r := by rw [if_pos rfl] at H; exact H
         clear H
         have H := H1
         clear H1
         by_cases c18 : 0 ≤ x11_1
         ·rw [if_pos c18] at H
          have c18b0 : decide (0 ≤ x11_1) = true := decide_eq_true c18
          clear c18
          have H' := aM H
          clear H
          have p419 : 0 ≤ (x11_1 : Int) := oD (by first | (with_reducible assumption) | assumption)
          have q419 : x11_1 < (y413.length : Int) := oD (by first | (with_reducible assumption) | assumption)
          obtain ⟨ad419, e419, hx419_0, hx419_1, hx419_2, hx419_3, hx419_4, hx419_5⟩ := at_T23 HR416.out x11_1 p419 q419
          cases e419
          replace hx419_0 := (HB.out.cell (wl w _ hx419_0)).trans hx419_0
          replace hx419_1 := (HB.out.cell (wl w _ hx419_1)).trans hx419_1
          replace hx419_2 := (HB.out.cell (wl w _ hx419_2)).trans hx419_2
          replace hx419_3 := (HB.out.cell (wl w _ hx419_3)).trans hx419_3
          replace hx419_4 := (HB.out.cell (wl w _ hx419_4)).trans hx419_4
          replace hx419_5 := (HB.out.cell (wl w _ hx419_5)).trans hx419_5
          replace p419 := eq_true p419
          replace q419 := eq_true q419
          go_wp2
          go_roundg k1
          case measure => have := HK1.out; omega
          case rel => exact ⟨(wrap64 (x10_1 + ((rd_T23 y413 x11_1).f1))), (wrap64 (x11_1 + 1)), (by first | rfl | (simp; done) | (simp [*]; done)), (by first | rfl | (simp; done) | (simp [*]; done)), H', ⟨by have := HK1.out; omega⟩, ⟨by repeat (first | (with_reducible first | exact HB.out | apply lA | apply lN | apply lW) | exact HB.out)⟩⟩
         ·rw [if_neg c18] at H
          exact absurd H (by simp)
        ·replace c17 := Bool.eq_false_iff.mpr c17
         subst c17
         have H1 : (phaetonlaw15_SigAll.l0 k1 y413 a1 t412 false (Int.tmod (wrap64 (a2)) (wrap64 ((y413.length : Int) + 1))) x10_1 (wrap64 (x11_1 + 1))) = some r := by rw [if_neg (show ¬ (false = true) by decide)] at H; exact H
         clear H
         have H := H1
         clear H1
         have H' := aM H
         clear H
         go_wp2
         go_roundg k1
         case measure => have := HK1.out; omega
         case rel => exact ⟨(x10_1), (wrap64 (x11_1 + 1)), (by first | rfl | (simp; done) | (simp [*]; done)), (by first | rfl | (simp; done) | (simp [*]; done)), H', ⟨by have := HK1.out; omega⟩, ⟨by repeat (first | (with_reducible first | exact HB.out | apply lA | apply lN | apply lW) | exact HB.out)⟩⟩
       ·rw [if_neg c16] at H
        have c16b0 : decide (x11_1 < (y413.length : Int)) = false := decide_eq_false c16
        clear c16
        by_cases c19 : t417 = true
        ·subst c19
         have H1 : (if 0 ≤ (Int.tmod (wrap64 (a2)) (wrap64 ((y413.length : Int) + 1))) then (if (Int.tmod (wrap64 (a2)) (wrap64 ((y413.length : Int) + 1))) ≤ (y413.length : Int) then ((sig_Apart.f (y413.take ((Int.tmod (wrap64 (a2)) (wrap64 ((y413.length : Int) + 1))) : Int).toNat) a1).bind fun t424 => (if t424 = true then ((sig_Apart.f (y413.drop ((Int.tmod (wrap64 (a2)) (wrap64 ((y413.length : Int) + 1))) : Int).toNat) a1).bind fun t429 => (if t429 = true then (if (y413.length : Int) = 0 then (some t412) else (if x10_1 ≤ (wrap64 (8 * a1)) then (some t412) else (none))) else (none))) else (none))) else (none)) else (none)) = some r := by rw [if_pos rfl] at H; exact H
         clear H
         have H := H1
         clear H1
         obtain ⟨ji20, hji20⟩ : ∃ j_ : Int, (Int.tmod (wrap64 (a2)) (wrap64 ((y413.length : Int) + 1))) = j_ := ⟨_, rfl⟩
         replace H : (if 0 ≤ (ji20) then (if (ji20) ≤ (y413.length : Int) then ((sig_Apart.f (y413.take ((ji20) : Int).toNat) a1).bind fun t424 => (if t424 = true then ((sig_Apart.f (y413.drop ((ji20) : Int).toNat) a1).bind fun t429 => (if t429 = true then (if (y413.length : Int) = 0 then (some t412) else (if x10_1 ≤ (wrap64 (8 * a1)) then (some t412) else (none))) else (none))) else (none))) else (none)) else (none)) = some r := by first | (rw [hji20] at H; exact H) | (simp only [hji20] at H ⊢; exact H)
         by_cases c21 : 0 ≤ (ji20)
         ·rw [if_pos c21] at H
          have c21b0 := eq_true c21
          have c21b1 : decide (0 ≤ (ji20)) = true := decide_eq_true c21
          clear c21
          by_cases c22 : (ji20) ≤ (y413.length : Int)
          ·rw [if_pos c22] at H
           have c22b0 := eq_true c22
           have c22b1 : decide ((ji20) ≤ (y413.length : Int)) = true := decide_eq_true c22
           clear c22
           obtain ⟨y420, hy420⟩ : ∃ y_ : List (S23), y_ = (y413.take ((ji20) : Int).toNat) := ⟨_, rfl⟩
           replace H : ((sig_Apart.f y420 a1).bind fun t424 => (if t424 = true then ((sig_Apart.f (y413.drop ((ji20) : Int).toNat) a1).bind fun t429 => (if t429 = true then (if (y413.length : Int) = 0 then (some t412) else (if x10_1 ≤ (wrap64 (8 * a1)) then (some t412) else (none))) else (none))) else (none))) = some r := by first | (rw [hy420]; with_reducible exact H) | (have H2_ := (Option.bind_some _ _).symm.trans H; rw [hy420]; with_reducible exact H2_) | (have H2_ := (Option.bind_some _ _).symm.trans H; with_reducible exact H2_) | with_reducible exact H | (rw [hy420]; exact H) | exact H
           have Ny420 := aM hy420
           clear hy420
           replace H := Option.bind_eq_some_iff.mp H
           obtain ⟨t424, A230, H⟩ := H
           replace H : (if t424 = true then ((sig_Apart.f (y413.drop ((ji20) : Int).toNat) a1).bind fun t429 => (if t429 = true then (if (y413.length : Int) = 0 then (some t412) else (if x10_1 ≤ (wrap64 (8 * a1)) then (some t412) else (none))) else (none))) else (none)) = some r := H
           have A23 := aM A230
           clear A230
           by_cases c24 : t424 = true
           ·subst c24
            have H1 : ((sig_Apart.f (y413.drop ((ji20) : Int).toNat) a1).bind fun t429 => (if t429 = true then (if (y413.length : Int) = 0 then (some t412) else (if x10_1 ≤ (wrap64 (8 * a1)) then (some t412) else (none))) else (none))) = some r := by rw [if_pos rfl] at H; exact H
            clear H
            have H := H1
            clear H1
            have c25b0 := eq_true (oD (by first | (with_reducible assumption) | assumption) : 0 ≤ (ji20))
            have c26b0 := eq_true (oD (by first | (with_reducible assumption) | assumption) : (ji20) ≤ (y413.length : Int))
            obtain ⟨y425, hy425⟩ : ∃ y_ : List (S23), y_ = (y413.drop ((ji20) : Int).toNat) := ⟨_, rfl⟩
            replace H : ((sig_Apart.f y425 a1).bind fun t429 => (if t429 = true then (if (y413.length : Int) = 0 then (some t412) else (if x10_1 ≤ (wrap64 (8 * a1)) then (some t412) else (none))) else (none))) = some r := by first | (rw [hy425]; with_reducible exact H) | (have H2_ := (Option.bind_some _ _).symm.trans H; rw [hy425]; with_reducible exact H2_) | (have H2_ := (Option.bind_some _ _).symm.trans H; with_reducible exact H2_) | with_reducible exact H | (rw [hy425]; exact H) | exact H
            have Ny425 := aM hy425
            clear hy425
            replace H := Option.bind_eq_some_iff.mp H
            obtain ⟨t429, A270, H⟩ := H
            replace H : (if t429 = true then (if (y413.length : Int) = 0 then (some t412) else (if x10_1 ≤ (wrap64 (8 * a1)) then (some t412) else (none))) else (none)) = some r := H
            have A27 := aM A270
            clear A270
            by_cases c28 : t429 = true
            ·subst c28
             have H1 : (if (y413.length : Int) = 0 then (some t412) else (if x10_1 ≤ (wrap64 (8 * a1)) then (some t412) else (none))) = some r := by rw [if_pos rfl] at H; exact H
             clear H
             have H := H1
             clear H1
             by_cases c29 : (y413.length : Int) = 0
             ·rw [if_pos c29] at H
              have c29b0 : ((y413.length : Int) == 0) = true := beq_iff_eq.mpr c29
              have c29b1 : ((y413.length : Int) != 0) = false := bne_eq_false_iff_eq.mpr c29
              clear c29
              obtain rfl := Option.some.inj H
              have q30 : ((ji20) : Int) ≤ ((y413.length : Int) : Int) := oD (by first | (with_reducible assumption) | assumption)
              obtain ⟨i030, hi030, _, hsz30, _⟩ := info_parts info23
              have hroom30 : y413.length ≤ c0 := HC416.out
              have hC30 : Kd.C k23 _ A0 y413.length y413 := HR416.out
              have hcut30 := cut_to (P := Try.prog) 42 23 .i64 Try.underlying42 hi030 A0 y413.length c0 (ji20) (oD (by first | (with_reducible assumption) | assumption)) q30 hroom30
              have hr30 := Kd.C_take (m := ((ji20) : Int).toNat) hC30 (by omega)
              have hy30 : y420.length = ((ji20) : Int).toNat := (by rw [Ny420.out, List.length_take]; omega)
              rw [← Ny420.out] at hr30
              rw [← hy30] at hcut30
              have HR423 := aM hr30
              have HC423 := aM (show y420.length ≤ c0 from by omega)
              clear hr30 hC30 hroom30 hi030 hsz30
              have KY30 := aM hy30
              clear hy30
              replace q30 := eq_true q30
              go_wp2_with (first | (go_at_call 27; (with_reducible refine (sig_Apart.calls _ _ y420 a1 true _ ?side1 ?side2 A23.out).mono ?_); (case side1 => repeat (first | exact (Kd.C_below HR423.out HB.out) | (with_reducible refine Kd.C_alloc ?_ _) | (with_reducible refine Kd.C_drewN ?_ _) | (with_reducible refine Kd.C_drew ?_))); (case side2 => exact HC423.out); rintro e w31 ⟨rfl, hb⟩; have n0_ := aM (lT (by repeat (first | (with_reducible first | exact HB.out | apply lA | apply lN | apply lW) | exact HB.out)) hb); clear HB; have HB := n0_; clear n0_; (try clear hb); (try clear hb2); (try clear hk); (try clear hi); have q32 : ((ji20) : Int) ≤ ((y413.length : Int) : Int) := oD (by first | (with_reducible assumption) | assumption); obtain ⟨i032, hi032, _, hsz32, _⟩ := info_parts info23; have hroom32 : y413.length ≤ c0 := HC416.out; have hC32 : Kd.C k23 _ A0 y413.length y413 := HR416.out; have q032 : (0 : Int) ≤ ((ji20) : Int) := oD (by first | (with_reducible assumption) | assumption); have hcut32 := cut_from (P := Try.prog) 42 23 .i64 Try.underlying42 hi032 6 hsz32 A0 y413.length c0 (ji20) q032 q32; have hr32 := Kd.C_drop (m := ((ji20) : Int).toNat) (c := c0) hC32 (by omega) hroom32; obtain ⟨A32, hA32⟩ : ∃ A1, A1 = (if c0 = ((ji20) : Int).toNat then A0 else (A0 : Option Addr).map (·.add (((ji20) : Int).toNat * 6))) := ⟨_, rfl⟩; obtain ⟨c32, hc32⟩ : ∃ c1, c1 = c0 - ((ji20) : Int).toNat := ⟨_, rfl⟩; have hy32 : y425.length = y413.length - ((ji20) : Int).toNat := (by rw [Ny425.out, List.length_drop] <;> omega); rw [show (y413).drop ((ji20) : Int).toNat = y425 from Ny425.out.symm] at hr32; replace hr32 : Kd.C k23 _ A32 y425.length y425 := (by rw [hA32]; exact hr32); rw [← hy32, ← hA32, ← hc32] at hcut32; have HR428 := aM hr32; have HC428 := aM (show y425.length ≤ c32 from by rw [hy32, hc32]; exact Nat.sub_le_sub_right hroom32 _); clear hr32 hC32 hroom32 hi032 hsz32 hc32; have KY32 := aM hy32; have KA32 := aM hA32; clear hy32 hA32; replace q32 := eq_true q32) | (go_at_call 27; (with_reducible refine (sig_Apart.calls _ _ y425 a1 true _ ?side1 ?side2 A27.out).mono ?_); (case side1 => repeat (first | exact (Kd.C_below HR428.out HB.out) | (with_reducible refine Kd.C_alloc ?_ _) | (with_reducible refine Kd.C_drewN ?_ _) | (with_reducible refine Kd.C_drew ?_))); (case side2 => exact HC428.out); rintro e w33 ⟨rfl, hb⟩; have n0_ := aM (lT (by repeat (first | (with_reducible first | exact HB.out | apply lA | apply lN | apply lW) | exact HB.out)) hb); clear HB; have HB := n0_; clear n0_; (try clear hb); (try clear hb2); (try clear hk); (try clear hi)))
              go_ret
              exact ⟨by first | rfl | (simp [errW_none, errW_some] <;> rfl) | (simp only [← hji5, ← hji20]; first | rfl | (simp [errW_none, errW_some] <;> rfl)) | (simp [*, errW_none, errW_some] <;> rfl), by repeat (first | (with_reducible first | exact HB.out | apply lA | apply lN | apply lW) | exact HB.out)⟩
             ·rw [if_neg c29] at H
              have c29b0 : ((y413.length : Int) == 0) = false := nF c29
              have c29b1 : ((y413.length : Int) != 0) = true := nT c29
              have c29b2 : ¬ (y413 = []) := fun h_ => c29 (by rw [h_]; rfl)
              by_cases c34 : x10_1 ≤ (wrap64 (8 * a1))
              ·rw [if_pos c34] at H
               have c34b0 : decide (x10_1 ≤ (wrap64 (8 * a1))) = true := decide_eq_true c34
               clear c34
               obtain rfl := Option.some.inj H
               have q35 : ((ji20) : Int) ≤ ((y413.length : Int) : Int) := oD (by first | (with_reducible assumption) | assumption)
               obtain ⟨i035, hi035, _, hsz35, _⟩ := info_parts info23
               have hroom35 : y413.length ≤ c0 := HC416.out
               have hC35 : Kd.C k23 _ A0 y413.length y413 := HR416.out
               have hcut35 := cut_to (P := Try.prog) 42 23 .i64 Try.underlying42 hi035 A0 y413.length c0 (ji20) (oD (by first | (with_reducible assumption) | assumption)) q35 hroom35
               have hr35 := Kd.C_take (m := ((ji20) : Int).toNat) hC35 (by omega)
               have hy35 : y420.length = ((ji20) : Int).toNat := (by rw [Ny420.out, List.length_take]; omega)
               rw [← Ny420.out] at hr35
               rw [← hy35] at hcut35
               have HR423 := aM hr35
               have HC423 := aM (show y420.length ≤ c0 from by omega)
               clear hr35 hC35 hroom35 hi035 hsz35
               have KY35 := aM hy35
               clear hy35
               replace q35 := eq_true q35
               go_wp2_with (first | (go_at_call 27; (with_reducible refine (sig_Apart.calls _ _ y420 a1 true _ ?side1 ?side2 A23.out).mono ?_); (case side1 => repeat (first | exact (Kd.C_below HR423.out HB.out) | (with_reducible refine Kd.C_alloc ?_ _) | (with_reducible refine Kd.C_drewN ?_ _) | (with_reducible refine Kd.C_drew ?_))); (case side2 => exact HC423.out); rintro e w36 ⟨rfl, hb⟩; have n0_ := aM (lT (by repeat (first | (with_reducible first | exact HB.out | apply lA | apply lN | apply lW) | exact HB.out)) hb); clear HB; have HB := n0_; clear n0_; (try clear hb); (try clear hb2); (try clear hk); (try clear hi); have q37 : ((ji20) : Int) ≤ ((y413.length : Int) : Int) := oD (by first | (with_reducible assumption) | assumption); obtain ⟨i037, hi037, _, hsz37, _⟩ := info_parts info23; have hroom37 : y413.length ≤ c0 := HC416.out; have hC37 : Kd.C k23 _ A0 y413.length y413 := HR416.out; have q037 : (0 : Int) ≤ ((ji20) : Int) := oD (by first | (with_reducible assumption) | assumption); have hcut37 := cut_from (P := Try.prog) 42 23 .i64 Try.underlying42 hi037 6 hsz37 A0 y413.length c0 (ji20) q037 q37; have hr37 := Kd.C_drop (m := ((ji20) : Int).toNat) (c := c0) hC37 (by omega) hroom37; obtain ⟨A37, hA37⟩ : ∃ A1, A1 = (if c0 = ((ji20) : Int).toNat then A0 else (A0 : Option Addr).map (·.add (((ji20) : Int).toNat * 6))) := ⟨_, rfl⟩; obtain ⟨c37, hc37⟩ : ∃ c1, c1 = c0 - ((ji20) : Int).toNat := ⟨_, rfl⟩; have hy37 : y425.length = y413.length - ((ji20) : Int).toNat := (by rw [Ny425.out, List.length_drop] <;> omega); rw [show (y413).drop ((ji20) : Int).toNat = y425 from Ny425.out.symm] at hr37; replace hr37 : Kd.C k23 _ A37 y425.length y425 := (by rw [hA37]; exact hr37); rw [← hy37, ← hA37, ← hc37] at hcut37; have HR428 := aM hr37; have HC428 := aM (show y425.length ≤ c37 from by rw [hy37, hc37]; exact Nat.sub_le_sub_right hroom37 _); clear hr37 hC37 hroom37 hi037 hsz37 hc37; have KY37 := aM hy37; have KA37 := aM hA37; clear hy37 hA37; replace q37 := eq_true q37) | (go_at_call 27; (with_reducible refine (sig_Apart.calls _ _ y425 a1 true _ ?side1 ?side2 A27.out).mono ?_); (case side1 => repeat (first | exact (Kd.C_below HR428.out HB.out) | (with_reducible refine Kd.C_alloc ?_ _) | (with_reducible refine Kd.C_drewN ?_ _) | (with_reducible refine Kd.C_drew ?_))); (case side2 => exact HC428.out); rintro e w38 ⟨rfl, hb⟩; have n0_ := aM (lT (by repeat (first | (with_reducible first | exact HB.out | apply lA | apply lN | apply lW) | exact HB.out)) hb); clear HB; have HB := n0_; clear n0_; (try clear hb); (try clear hb2); (try clear hk); (try clear hi)))
               go_ret
               exact ⟨by first | rfl | (simp [errW_none, errW_some] <;> rfl) | (simp only [← hji5, ← hji20]; first | rfl | (simp [errW_none, errW_some] <;> rfl)) | (simp [*, errW_none, errW_some] <;> rfl), by repeat (first | (with_reducible first | exact HB.out | apply lA | apply lN | apply lW) | exact HB.out)⟩
              ·rw [if_neg c34] at H
               exact absurd H (by simp)
            ·replace c28 := Bool.eq_false_iff.mpr c28
             subst c28
             have H1 : (none) = some r := by rw [if_neg (show ¬ (false = true) by decide)] at H; exact H
             clear H
             have H := H1
             clear H1
             exact absurd H (by simp)
           ·replace c24 := Bool.eq_false_iff.mpr c24
            subst c24
            have H1 : (none) = some r := by rw [if_neg (show ¬ (false = true) by decide)] at H; exact H
            clear H
            have H := H1
            clear H1
            exact absurd H (by simp)
          ·rw [if_neg c22] at H
           exact absurd H (by simp)
         ·rw [if_neg c21] at H
          exact absurd H (by simp)
        ·replace c19 := Bool.eq_false_iff.mpr c19
         subst c19
         have H1 : (some t412) = some r := by rw [if_neg (show ¬ (false = true) by decide)] at H; exact H
         clear H
         have H := H1
         clear H1
         obtain rfl := Option.some.inj H
         go_wp2
         go_ret
         exact ⟨by first | rfl | (simp [errW_none, errW_some] <;> rfl) | (simp only [← hji5]; first | rfl | (simp [errW_none, errW_some] <;> rfl)) | (simp [*, errW_none, errW_some] <;> rfl), by repeat (first | (with_reducible first | exact HB.out | apply lA | apply lN | apply lW) | exact HB.out)⟩
  ·rw [if_neg c7] at H
   exact absurd H (by simp)
 ·rw [if_neg c6] at H
  exact absurd H (by simp)

end Go.Proofs.Ytcgkkjimonfhbaa.P

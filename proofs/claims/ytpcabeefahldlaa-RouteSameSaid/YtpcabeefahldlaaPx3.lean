/- Go functions that the laws of this seat reach, each as a Lean function, and a proof that a call of the Go code comes to its answers; written by a program (the kit's print, turned in a few places). Conditions: each theorem's own premises. -/
import Derived.Test.YtpcabeefahldlaaPx0
import Derived.Test.YtpcabeefahldlaaPx2
namespace Go.Proofs.Ytpcabeefahldlaa.P
open Go.RowKit Go.Proofs.YtpcabeefahldlaaW.PrintWords Go.Proofs.YtpcabeefahldlaaW.PrintLast Go.Proofs.YtpcabeefahldlaaW.PrintMore
attribute [local go_sem] max2_int min2_int max_two min_two max_three min_three max_four min_four   -- for this text's walks alone
set_option linter.unusedVariables false
set_option linter.unusedSimpArgs false

/-! ### route_Right: function 12 -/
mutual
def route_Right.j0 : Nat → List (S45) → Int → Bool → Option (Bool)
 | 0, _, _, _ => none
 | k + 1, x0, x1, x17 => if x17 = true then (some false) else (route_Right.l0 k x1 x0 (x0.length : Int) 0)
def route_Right.l0 : Nat → Int → List (S45) → Int → Int → Option (Bool)
 | 0, _, _, _, _ => none
 | k + 1, x1, x18, x19, x20 => if x20 < x19 then (if 0 ≤ x20 then (if x20 < (x18.length : Int) then (if ((rd_T45 x18 x20).f0) < 0 then (some false) else (if ((rd_T45 x18 x20).f0) ≥ x1 then (some false) else (if ((rd_T45 x18 x20).f1) < 0 then (some false) else (if ((rd_T45 x18 x20).f1) ≥ x1 then (some false) else (if ((rd_T45 x18 x20).f0) = ((rd_T45 x18 x20).f1) then (some false) else ((filter_Right.f ((rd_T45 x18 x20).f2.f0) ((rd_T45 x18 x20).f2.f1) ((rd_T45 x18 x20).f2.f2)).bind fun t105 => (if t105 = true then ((route_identifier.f ((rd_T45 x18 x20).f0) ((rd_T45 x18 x20).f1) ((rd_T45 x18 x20).f2.f0) ((rd_T45 x18 x20).f2.f1) ((rd_T45 x18 x20).f2.f2) ((rd_T45 x18 x20).f3)).bind fun t106 => (if t106 = true then (route_Right.l0 k x1 x18 x19 (wrap64 (x20 + 1))) else (some false))) else (some false)))))))) else (none)) else (none)) else (some true)
end
def route_Right.f (k : Nat) (l0 : List (S45)) (a1 : Int) : Option (Bool) := if a1 < 1 then (route_Right.j0 k l0 a1 true) else (if a1 > 4 then (route_Right.j0 k l0 a1 true) else (route_Right.j0 k l0 a1 (decide ((l0.length : Int) > 16))))
theorem route_Right.mono_l : ∀ k, (∀ y0 y1 y2, LeO (route_Right.j0 k y0 y1 y2) (route_Right.j0 (k + 1) y0 y1 y2)) ∧ (∀ y0 y1 y2 y3, LeO (route_Right.l0 k y0 y1 y2 y3) (route_Right.l0 (k + 1) y0 y1 y2 y3))
 | 0 => ⟨fun _ _ _ r h => by simp [route_Right.j0] at h, fun _ _ _ _ r h => by simp [route_Right.l0] at h⟩
 | k + 1 => by
  obtain ⟨ih0, ih1⟩ := route_Right.mono_l k
  refine ⟨?_, ?_⟩
  ·intro y0 y1 y2
   unfold route_Right.j0
   repeat' first
   | (with_reducible exact ih0 _ _ _)
   | (with_reducible exact ih1 _ _ _ _)
   | (with_reducible exact LeO.refl _)
   | (with_reducible exact LeO.none _)
   | (with_reducible refine LeO.ite ?_ ?_)
   | (with_reducible refine LeO.bind ?_ (fun _ => ?_))
   | exact ih0 _ _ _
   | exact ih1 _ _ _ _
   | exact LeO.none _
   | refine LeO.ite ?_ ?_
   | refine LeO.bind ?_ (fun _ => ?_)
  ·intro y0 y1 y2 y3
   unfold route_Right.l0
   repeat' first
   | (with_reducible exact ih0 _ _ _)
   | (with_reducible exact ih1 _ _ _ _)
   | (with_reducible exact LeO.refl _)
   | (with_reducible exact LeO.none _)
   | (with_reducible refine LeO.ite ?_ ?_)
   | (with_reducible refine LeO.bind ?_ (fun _ => ?_))
   | exact ih0 _ _ _
   | exact ih1 _ _ _ _
   | exact LeO.none _
   | refine LeO.ite ?_ ?_
   | refine LeO.bind ?_ (fun _ => ?_)
theorem route_Right.mono : ∀ a0 a1 k, LeO (route_Right.f k a0 a1) (route_Right.f (k + 1) a0 a1) := by
 intro a0 a1 k
 obtain ⟨ih0, ih1⟩ := route_Right.mono_l k
 unfold route_Right.f
 repeat' first
   | (with_reducible exact ih0 _ _ _)
   | (with_reducible exact ih1 _ _ _ _)
   | (with_reducible exact LeO.refl _)
   | (with_reducible exact LeO.none _)
   | (with_reducible refine LeO.ite ?_ ?_)
   | (with_reducible refine LeO.bind ?_ (fun _ => ?_))
   | exact ih0 _ _ _
   | exact ih1 _ _ _ _
   | exact LeO.none _
   | refine LeO.ite ?_ ?_
   | refine LeO.bind ?_ (fun _ => ?_)
set_option maxHeartbeats 8000000 in
set_option maxRecDepth 100000 in
theorem route_Right.calls (k : Nat) (A0 : Option Addr) (c0 : Nat) (l0 : List (S45)) (a1 : Int) (r : Bool) (w : World) (hr0 : Kd.C k45 w A0 l0.length l0) (hc0 : l0.length ≤ c0) (h : route_Right.f k l0 a1 = some r) :
  Calls Try.prog 12 #[.slice A0 l0.length c0, .int .i64 a1] w fun e w' => e = .returned (.bool r) ∧ Below w.heap.size w w' := by
 have hu45 := Try.underlying45
 have hu43 := Try.underlying43
 have HR0 := aM hr0
 have HC0 := aM hc0
 clear hr0 hc0
 have HB := aM (Below.refl w.heap.size w)
 have H : (if a1 < 1 then (route_Right.j0 k l0 a1 true) else (if a1 > 4 then (route_Right.j0 k l0 a1 true) else (route_Right.j0 k l0 a1 (decide ((l0.length : Int) > 16))))) = some r := h
 clear h
 have HC3 := aM H
 clear H
 go_enter Try.func12, Try.ntmps12
 go_upto_region 1 with (fail)
 go_cut [17] (fun v17 wc => ∃ (kq : Nat) (x17_2 : Bool), v17 = .bool x17_2 ∧ Aside0 (route_Right.j0 kq l0 a1 x17_2 = some r) ∧ Aside0 (kq ≤ k) ∧ Aside0 (Below w.heap.size w wc))
 case first =>
  have H := HC3.out
  clear HC3
  by_cases c4 : a1 < 1
  ·rw [if_pos c4] at H
   have c4b0 : decide (a1 < 1) = true := decide_eq_true c4
   clear c4
   (first | rw [c4b0] | (simp only [i64_w, i32_w]; rw [c4b0]) | skip)
   have H' := aM H
   clear H
   go_wp2
   go_meet
   case rel => exact ⟨_, (true), (by first | rfl | (simp; done) | (simp [*]; done)), H', ⟨by first | omega | exact Nat.le_refl _⟩, ⟨by repeat (first | (with_reducible first | exact HB.out | apply lA | apply lN | apply lW) | exact HB.out)⟩⟩
  ·rw [if_neg c4] at H
   have c4b0 : decide (a1 < 1) = false := decide_eq_false c4
   clear c4
   (first | rw [c4b0] | (simp only [i64_w, i32_w]; rw [c4b0]) | skip)
   by_cases c5 : a1 > 4
   ·rw [if_pos c5] at H
    have c5b0 : decide (4 < a1) = true := decide_eq_true c5
    clear c5
    have H' := aM H
    clear H
    go_wp2
    go_meet
    case rel => exact ⟨_, (true), (by first | rfl | (simp; done) | (simp [*]; done)), H', ⟨by first | omega | exact Nat.le_refl _⟩, ⟨by repeat (first | (with_reducible first | exact HB.out | apply lA | apply lN | apply lW) | exact HB.out)⟩⟩
   ·rw [if_neg c5] at H
    have c5b0 : decide (4 < a1) = false := decide_eq_false c5
    clear c5
    have H' := aM H
    clear H
    go_wp2
    go_meet
    case rel => exact ⟨_, (decide ((l0.length : Int) > 16)), (by first | rfl | (simp; done) | (simp [*]; done)), H', ⟨by first | omega | exact Nat.le_refl _⟩, ⟨by repeat (first | (with_reducible first | exact HB.out | apply lA | apply lN | apply lW) | exact HB.out)⟩⟩
 case rest =>
  clear HC3
  try clear c1
  try clear p2
  try clear c4
  try clear c4b0
  try clear c5
  try clear c5b0
  obtain ⟨kq, x17_2, rfl, HA, HJ2, HB⟩ := hcut
  cases kq with
  | zero => exact absurd HA.out (by simp [route_Right.j0])
  | succ kj2 =>
   have H := HA.out
   clear HA
   simp only [route_Right.j0] at H
   by_cases c6 : x17_2 = true
   ·subst c6
    have H1 : (some false) = some r := by rw [if_pos rfl] at H; exact H
    clear H
    have H := H1
    clear H1
    obtain rfl := Option.some.inj H
    go_wp2
    go_ret
    exact ⟨by first | rfl | (simp [errW_none, errW_some] <;> rfl) | (simp [*, errW_none, errW_some] <;> rfl), by repeat (first | (with_reducible first | exact HB.out | apply lA | apply lN | apply lW) | exact HB.out)⟩
   ·replace c6 := Bool.eq_false_iff.mpr c6
    subst c6
    have H1 : (route_Right.l0 kj2 a1 l0 (l0.length : Int) 0) = some r := by rw [if_neg (show ¬ (false = true) by decide)] at H; exact H
    clear H
    have H := H1
    clear H1
    have H' := aM H
    clear H
    go_wp2
    go_loopg [20] kj2 (fun kq v20 w' => ∃ (x20_2 : Int), v20 = .int .i64 x20_2 ∧ Aside0 (route_Right.l0 kq a1 l0 (l0.length : Int) x20_2 = some r) ∧ Aside0 (kq ≤ kj2) ∧ Aside0 (Below w.heap.size w w'))
    case atStart => exact ⟨(0), (by first | rfl | (simp; done) | (simp [*]; done)), H', ⟨Nat.le_refl _⟩, ⟨by repeat (first | (with_reducible first | exact HB.out | apply lA | apply lN | apply lW) | exact HB.out)⟩⟩
    case round =>
     clear H'
     try clear c1
     try clear p2
     try clear c4
     try clear c4b0
     try clear c5
     try clear c5b0
     try clear c6
     try clear p2
     obtain ⟨x20_2, rfl, HA, HK2, HB⟩ := hrel
     cases gk with
     | zero => exact absurd HA.out (by simp [route_Right.l0])
     | succ k2 =>
      have H := HA.out
      clear HA
      simp only [route_Right.l0] at H
      by_cases c7 : x20_2 < (l0.length : Int)
      ·rw [if_pos c7] at H
       have c7b0 : decide (x20_2 < (l0.length : Int)) = true := decide_eq_true c7
       clear c7
       by_cases c8 : 0 ≤ x20_2
       ·rw [if_pos c8] at H
        have c8b0 : decide (0 ≤ x20_2) = true := decide_eq_true c8
        clear c8
        by_cases c9 : x20_2 < (l0.length : Int)
        ·rw [if_pos c9] at H
         have c9b0 : decide (x20_2 < (l0.length : Int)) = true := decide_eq_true c9
         clear c9
         by_cases c10 : ((rd_T45 l0 x20_2).f0) < 0
         ·rw [if_pos c10] at H
          have c10b0 : decide (((rd_T45 l0 x20_2).f0) < 0) = true := decide_eq_true c10
          clear c10
          obtain rfl := Option.some.inj H
          have p103 : 0 ≤ (x20_2 : Int) := oD (by first | (with_reducible assumption) | assumption)
          have q103 : x20_2 < (l0.length : Int) := oD (by first | (with_reducible assumption) | assumption)
          obtain ⟨ad103, e103, hx103_0, hx103_1, hx103_2, hx103_3, hx103_4, hx103_5⟩ := at_T45 HR0.out x20_2 p103 q103
          cases e103
          replace hx103_0 := (HB.out.cell (wl w _ hx103_0)).trans hx103_0
          replace hx103_1 := (HB.out.cell (wl w _ hx103_1)).trans hx103_1
          replace hx103_2 := (HB.out.cell (wl w _ hx103_2)).trans hx103_2
          replace hx103_3 := (HB.out.cell (wl w _ hx103_3)).trans hx103_3
          replace hx103_4 := (HB.out.cell (wl w _ hx103_4)).trans hx103_4
          replace hx103_5 := (HB.out.cell (wl w _ hx103_5)).trans hx103_5
          replace p103 := eq_true p103
          replace q103 := eq_true q103
          go_wp2_with (first | ((with_reducible refine gate_dst (N := 6) rfl ?_); (try (refine gate_guard (by rfl) ?_; dsimp only)); refine box_event ?hg (N := 6) ?hd (cs := #[.int .i64 0, .int .i64 0, .bool false, .int .i64 0, .int .i64 0, .int .i64 0]) (t := 45) ?hr ?_; (case hd => rfl); (case hg => rfl); (case hr => first | (go_simp; done) | (go_simp; rfl)); intro gb104 hg w11 hbox hb; have n0_ := aM (lT (by repeat (first | (with_reducible first | exact HB.out | apply lA | apply lN | apply lW) | exact HB.out)) hb); have n1_ := aM (hbox); have n2_ := aM ((by rw [hg]; exact (lZ (by repeat (first | (with_reducible first | exact HB.out | apply lA | apply lN | apply lW) | exact HB.out))) : w.heap.size ≤ gb104)); have n3_ := aM ((by rw [hg]; exact (lZ (by repeat (first | (with_reducible first | exact HB.out | apply lA | apply lN | apply lW) | exact HB.out))) : w.heap.size ≤ gb104)); clear HB; have HB := n0_; have BK104 := n1_; have GW104 := n2_; have GE104 := n3_; clear n0_ n1_ n2_ n3_; clear hb hbox hg; have hcz12_0 : w11.cell? ⟨gb104, 0, none⟩ = some (.int .i64 0) := (bC BK104.out 0).trans rfl; have hcz12_1 : w11.cell? ⟨gb104, 1, none⟩ = some (.int .i64 0) := (bC BK104.out 1).trans rfl; have hcz12_2 : w11.cell? ⟨gb104, 2, none⟩ = some (.bool false) := (bC BK104.out 2).trans rfl; have hcz12_3 : w11.cell? ⟨gb104, 3, none⟩ = some (.int .i64 0) := (bC BK104.out 3).trans rfl; have hcz12_4 : w11.cell? ⟨gb104, 4, none⟩ = some (.int .i64 0) := (bC BK104.out 4).trans rfl; have hcz12_5 : w11.cell? ⟨gb104, 5, none⟩ = some (.int .i64 0) := (bC BK104.out 5).trans rfl; have hfz12_0 := bF BK104.out 0; have hfz12_1 := bF BK104.out 1; have hfz12_2 := bF BK104.out 2; have hfz12_3 := bF BK104.out 3; have hfz12_4 := bF BK104.out 4; have hfz12_5 := bF BK104.out 5))
          go_ret
          exact ⟨by first | rfl | (simp [errW_none, errW_some] <;> rfl) | (simp [*, errW_none, errW_some] <;> rfl), by repeat (first | (with_reducible first | exact HB.out | apply lA | apply lN | apply lW | refine lS ?_ GE104.out) | exact HB.out)⟩
         ·rw [if_neg c10] at H
          have c10b0 : decide (((rd_T45 l0 x20_2).f0) < 0) = false := decide_eq_false c10
          clear c10
          by_cases c13 : ((rd_T45 l0 x20_2).f0) ≥ a1
          ·rw [if_pos c13] at H
           have c13b0 : decide (a1 ≤ ((rd_T45 l0 x20_2).f0)) = true := decide_eq_true c13
           clear c13
           obtain rfl := Option.some.inj H
           have p103 : 0 ≤ (x20_2 : Int) := oD (by first | (with_reducible assumption) | assumption)
           have q103 : x20_2 < (l0.length : Int) := oD (by first | (with_reducible assumption) | assumption)
           obtain ⟨ad103, e103, hx103_0, hx103_1, hx103_2, hx103_3, hx103_4, hx103_5⟩ := at_T45 HR0.out x20_2 p103 q103
           cases e103
           replace hx103_0 := (HB.out.cell (wl w _ hx103_0)).trans hx103_0
           replace hx103_1 := (HB.out.cell (wl w _ hx103_1)).trans hx103_1
           replace hx103_2 := (HB.out.cell (wl w _ hx103_2)).trans hx103_2
           replace hx103_3 := (HB.out.cell (wl w _ hx103_3)).trans hx103_3
           replace hx103_4 := (HB.out.cell (wl w _ hx103_4)).trans hx103_4
           replace hx103_5 := (HB.out.cell (wl w _ hx103_5)).trans hx103_5
           replace p103 := eq_true p103
           replace q103 := eq_true q103
           go_wp2_with (first | ((with_reducible refine gate_dst (N := 6) rfl ?_); (try (refine gate_guard (by rfl) ?_; dsimp only)); refine box_event ?hg (N := 6) ?hd (cs := #[.int .i64 0, .int .i64 0, .bool false, .int .i64 0, .int .i64 0, .int .i64 0]) (t := 45) ?hr ?_; (case hd => rfl); (case hg => rfl); (case hr => first | (go_simp; done) | (go_simp; rfl)); intro gb104 hg w14 hbox hb; have n0_ := aM (lT (by repeat (first | (with_reducible first | exact HB.out | apply lA | apply lN | apply lW) | exact HB.out)) hb); have n1_ := aM (hbox); have n2_ := aM ((by rw [hg]; exact (lZ (by repeat (first | (with_reducible first | exact HB.out | apply lA | apply lN | apply lW) | exact HB.out))) : w.heap.size ≤ gb104)); have n3_ := aM ((by rw [hg]; exact (lZ (by repeat (first | (with_reducible first | exact HB.out | apply lA | apply lN | apply lW) | exact HB.out))) : w.heap.size ≤ gb104)); clear HB; have HB := n0_; have BK104 := n1_; have GW104 := n2_; have GE104 := n3_; clear n0_ n1_ n2_ n3_; clear hb hbox hg; have hcz15_0 : w14.cell? ⟨gb104, 0, none⟩ = some (.int .i64 0) := (bC BK104.out 0).trans rfl; have hcz15_1 : w14.cell? ⟨gb104, 1, none⟩ = some (.int .i64 0) := (bC BK104.out 1).trans rfl; have hcz15_2 : w14.cell? ⟨gb104, 2, none⟩ = some (.bool false) := (bC BK104.out 2).trans rfl; have hcz15_3 : w14.cell? ⟨gb104, 3, none⟩ = some (.int .i64 0) := (bC BK104.out 3).trans rfl; have hcz15_4 : w14.cell? ⟨gb104, 4, none⟩ = some (.int .i64 0) := (bC BK104.out 4).trans rfl; have hcz15_5 : w14.cell? ⟨gb104, 5, none⟩ = some (.int .i64 0) := (bC BK104.out 5).trans rfl; have hfz15_0 := bF BK104.out 0; have hfz15_1 := bF BK104.out 1; have hfz15_2 := bF BK104.out 2; have hfz15_3 := bF BK104.out 3; have hfz15_4 := bF BK104.out 4; have hfz15_5 := bF BK104.out 5))
           go_ret
           exact ⟨by first | rfl | (simp [errW_none, errW_some] <;> rfl) | (simp [*, errW_none, errW_some] <;> rfl), by repeat (first | (with_reducible first | exact HB.out | apply lA | apply lN | apply lW | refine lS ?_ GE104.out) | exact HB.out)⟩
          ·rw [if_neg c13] at H
           have c13b0 : decide (a1 ≤ ((rd_T45 l0 x20_2).f0)) = false := decide_eq_false c13
           clear c13
           by_cases c16 : ((rd_T45 l0 x20_2).f1) < 0
           ·rw [if_pos c16] at H
            have c16b0 : decide (((rd_T45 l0 x20_2).f1) < 0) = true := decide_eq_true c16
            clear c16
            obtain rfl := Option.some.inj H
            have p103 : 0 ≤ (x20_2 : Int) := oD (by first | (with_reducible assumption) | assumption)
            have q103 : x20_2 < (l0.length : Int) := oD (by first | (with_reducible assumption) | assumption)
            obtain ⟨ad103, e103, hx103_0, hx103_1, hx103_2, hx103_3, hx103_4, hx103_5⟩ := at_T45 HR0.out x20_2 p103 q103
            cases e103
            replace hx103_0 := (HB.out.cell (wl w _ hx103_0)).trans hx103_0
            replace hx103_1 := (HB.out.cell (wl w _ hx103_1)).trans hx103_1
            replace hx103_2 := (HB.out.cell (wl w _ hx103_2)).trans hx103_2
            replace hx103_3 := (HB.out.cell (wl w _ hx103_3)).trans hx103_3
            replace hx103_4 := (HB.out.cell (wl w _ hx103_4)).trans hx103_4
            replace hx103_5 := (HB.out.cell (wl w _ hx103_5)).trans hx103_5
            replace p103 := eq_true p103
            replace q103 := eq_true q103
            go_wp2_with (first | ((with_reducible refine gate_dst (N := 6) rfl ?_); (try (refine gate_guard (by rfl) ?_; dsimp only)); refine box_event ?hg (N := 6) ?hd (cs := #[.int .i64 0, .int .i64 0, .bool false, .int .i64 0, .int .i64 0, .int .i64 0]) (t := 45) ?hr ?_; (case hd => rfl); (case hg => rfl); (case hr => first | (go_simp; done) | (go_simp; rfl)); intro gb104 hg w17 hbox hb; have n0_ := aM (lT (by repeat (first | (with_reducible first | exact HB.out | apply lA | apply lN | apply lW) | exact HB.out)) hb); have n1_ := aM (hbox); have n2_ := aM ((by rw [hg]; exact (lZ (by repeat (first | (with_reducible first | exact HB.out | apply lA | apply lN | apply lW) | exact HB.out))) : w.heap.size ≤ gb104)); have n3_ := aM ((by rw [hg]; exact (lZ (by repeat (first | (with_reducible first | exact HB.out | apply lA | apply lN | apply lW) | exact HB.out))) : w.heap.size ≤ gb104)); clear HB; have HB := n0_; have BK104 := n1_; have GW104 := n2_; have GE104 := n3_; clear n0_ n1_ n2_ n3_; clear hb hbox hg; have hcz18_0 : w17.cell? ⟨gb104, 0, none⟩ = some (.int .i64 0) := (bC BK104.out 0).trans rfl; have hcz18_1 : w17.cell? ⟨gb104, 1, none⟩ = some (.int .i64 0) := (bC BK104.out 1).trans rfl; have hcz18_2 : w17.cell? ⟨gb104, 2, none⟩ = some (.bool false) := (bC BK104.out 2).trans rfl; have hcz18_3 : w17.cell? ⟨gb104, 3, none⟩ = some (.int .i64 0) := (bC BK104.out 3).trans rfl; have hcz18_4 : w17.cell? ⟨gb104, 4, none⟩ = some (.int .i64 0) := (bC BK104.out 4).trans rfl; have hcz18_5 : w17.cell? ⟨gb104, 5, none⟩ = some (.int .i64 0) := (bC BK104.out 5).trans rfl; have hfz18_0 := bF BK104.out 0; have hfz18_1 := bF BK104.out 1; have hfz18_2 := bF BK104.out 2; have hfz18_3 := bF BK104.out 3; have hfz18_4 := bF BK104.out 4; have hfz18_5 := bF BK104.out 5))
            go_ret
            exact ⟨by first | rfl | (simp [errW_none, errW_some] <;> rfl) | (simp [*, errW_none, errW_some] <;> rfl), by repeat (first | (with_reducible first | exact HB.out | apply lA | apply lN | apply lW | refine lS ?_ GE104.out) | exact HB.out)⟩
           ·rw [if_neg c16] at H
            have c16b0 : decide (((rd_T45 l0 x20_2).f1) < 0) = false := decide_eq_false c16
            clear c16
            by_cases c19 : ((rd_T45 l0 x20_2).f1) ≥ a1
            ·rw [if_pos c19] at H
             have c19b0 : decide (a1 ≤ ((rd_T45 l0 x20_2).f1)) = true := decide_eq_true c19
             clear c19
             obtain rfl := Option.some.inj H
             have p103 : 0 ≤ (x20_2 : Int) := oD (by first | (with_reducible assumption) | assumption)
             have q103 : x20_2 < (l0.length : Int) := oD (by first | (with_reducible assumption) | assumption)
             obtain ⟨ad103, e103, hx103_0, hx103_1, hx103_2, hx103_3, hx103_4, hx103_5⟩ := at_T45 HR0.out x20_2 p103 q103
             cases e103
             replace hx103_0 := (HB.out.cell (wl w _ hx103_0)).trans hx103_0
             replace hx103_1 := (HB.out.cell (wl w _ hx103_1)).trans hx103_1
             replace hx103_2 := (HB.out.cell (wl w _ hx103_2)).trans hx103_2
             replace hx103_3 := (HB.out.cell (wl w _ hx103_3)).trans hx103_3
             replace hx103_4 := (HB.out.cell (wl w _ hx103_4)).trans hx103_4
             replace hx103_5 := (HB.out.cell (wl w _ hx103_5)).trans hx103_5
             replace p103 := eq_true p103
             replace q103 := eq_true q103
             go_wp2_with (first | ((with_reducible refine gate_dst (N := 6) rfl ?_); (try (refine gate_guard (by rfl) ?_; dsimp only)); refine box_event ?hg (N := 6) ?hd (cs := #[.int .i64 0, .int .i64 0, .bool false, .int .i64 0, .int .i64 0, .int .i64 0]) (t := 45) ?hr ?_; (case hd => rfl); (case hg => rfl); (case hr => first | (go_simp; done) | (go_simp; rfl)); intro gb104 hg w20 hbox hb; have n0_ := aM (lT (by repeat (first | (with_reducible first | exact HB.out | apply lA | apply lN | apply lW) | exact HB.out)) hb); have n1_ := aM (hbox); have n2_ := aM ((by rw [hg]; exact (lZ (by repeat (first | (with_reducible first | exact HB.out | apply lA | apply lN | apply lW) | exact HB.out))) : w.heap.size ≤ gb104)); have n3_ := aM ((by rw [hg]; exact (lZ (by repeat (first | (with_reducible first | exact HB.out | apply lA | apply lN | apply lW) | exact HB.out))) : w.heap.size ≤ gb104)); clear HB; have HB := n0_; have BK104 := n1_; have GW104 := n2_; have GE104 := n3_; clear n0_ n1_ n2_ n3_; clear hb hbox hg; have hcz21_0 : w20.cell? ⟨gb104, 0, none⟩ = some (.int .i64 0) := (bC BK104.out 0).trans rfl; have hcz21_1 : w20.cell? ⟨gb104, 1, none⟩ = some (.int .i64 0) := (bC BK104.out 1).trans rfl; have hcz21_2 : w20.cell? ⟨gb104, 2, none⟩ = some (.bool false) := (bC BK104.out 2).trans rfl; have hcz21_3 : w20.cell? ⟨gb104, 3, none⟩ = some (.int .i64 0) := (bC BK104.out 3).trans rfl; have hcz21_4 : w20.cell? ⟨gb104, 4, none⟩ = some (.int .i64 0) := (bC BK104.out 4).trans rfl; have hcz21_5 : w20.cell? ⟨gb104, 5, none⟩ = some (.int .i64 0) := (bC BK104.out 5).trans rfl; have hfz21_0 := bF BK104.out 0; have hfz21_1 := bF BK104.out 1; have hfz21_2 := bF BK104.out 2; have hfz21_3 := bF BK104.out 3; have hfz21_4 := bF BK104.out 4; have hfz21_5 := bF BK104.out 5))
             go_ret
             exact ⟨by first | rfl | (simp [errW_none, errW_some] <;> rfl) | (simp [*, errW_none, errW_some] <;> rfl), by repeat (first | (with_reducible first | exact HB.out | apply lA | apply lN | apply lW | refine lS ?_ GE104.out) | exact HB.out)⟩
            ·rw [if_neg c19] at H
             have c19b0 : decide (a1 ≤ ((rd_T45 l0 x20_2).f1)) = false := decide_eq_false c19
             clear c19
             by_cases c22 : ((rd_T45 l0 x20_2).f0) = ((rd_T45 l0 x20_2).f1)
             ·rw [if_pos c22] at H
              have c22b0 : (((rd_T45 l0 x20_2).f0) == ((rd_T45 l0 x20_2).f1)) = true := beq_iff_eq.mpr c22
              have c22b1 : (((rd_T45 l0 x20_2).f0) != ((rd_T45 l0 x20_2).f1)) = false := bne_eq_false_iff_eq.mpr c22
              clear c22
              obtain rfl := Option.some.inj H
              have p103 : 0 ≤ (x20_2 : Int) := oD (by first | (with_reducible assumption) | assumption)
              have q103 : x20_2 < (l0.length : Int) := oD (by first | (with_reducible assumption) | assumption)
              obtain ⟨ad103, e103, hx103_0, hx103_1, hx103_2, hx103_3, hx103_4, hx103_5⟩ := at_T45 HR0.out x20_2 p103 q103
              cases e103
              replace hx103_0 := (HB.out.cell (wl w _ hx103_0)).trans hx103_0
              replace hx103_1 := (HB.out.cell (wl w _ hx103_1)).trans hx103_1
              replace hx103_2 := (HB.out.cell (wl w _ hx103_2)).trans hx103_2
              replace hx103_3 := (HB.out.cell (wl w _ hx103_3)).trans hx103_3
              replace hx103_4 := (HB.out.cell (wl w _ hx103_4)).trans hx103_4
              replace hx103_5 := (HB.out.cell (wl w _ hx103_5)).trans hx103_5
              replace p103 := eq_true p103
              replace q103 := eq_true q103
              go_wp2_with (first | ((with_reducible refine gate_dst (N := 6) rfl ?_); (try (refine gate_guard (by rfl) ?_; dsimp only)); refine box_event ?hg (N := 6) ?hd (cs := #[.int .i64 0, .int .i64 0, .bool false, .int .i64 0, .int .i64 0, .int .i64 0]) (t := 45) ?hr ?_; (case hd => rfl); (case hg => rfl); (case hr => first | (go_simp; done) | (go_simp; rfl)); intro gb104 hg w23 hbox hb; have n0_ := aM (lT (by repeat (first | (with_reducible first | exact HB.out | apply lA | apply lN | apply lW) | exact HB.out)) hb); have n1_ := aM (hbox); have n2_ := aM ((by rw [hg]; exact (lZ (by repeat (first | (with_reducible first | exact HB.out | apply lA | apply lN | apply lW) | exact HB.out))) : w.heap.size ≤ gb104)); have n3_ := aM ((by rw [hg]; exact (lZ (by repeat (first | (with_reducible first | exact HB.out | apply lA | apply lN | apply lW) | exact HB.out))) : w.heap.size ≤ gb104)); clear HB; have HB := n0_; have BK104 := n1_; have GW104 := n2_; have GE104 := n3_; clear n0_ n1_ n2_ n3_; clear hb hbox hg; have hcz24_0 : w23.cell? ⟨gb104, 0, none⟩ = some (.int .i64 0) := (bC BK104.out 0).trans rfl; have hcz24_1 : w23.cell? ⟨gb104, 1, none⟩ = some (.int .i64 0) := (bC BK104.out 1).trans rfl; have hcz24_2 : w23.cell? ⟨gb104, 2, none⟩ = some (.bool false) := (bC BK104.out 2).trans rfl; have hcz24_3 : w23.cell? ⟨gb104, 3, none⟩ = some (.int .i64 0) := (bC BK104.out 3).trans rfl; have hcz24_4 : w23.cell? ⟨gb104, 4, none⟩ = some (.int .i64 0) := (bC BK104.out 4).trans rfl; have hcz24_5 : w23.cell? ⟨gb104, 5, none⟩ = some (.int .i64 0) := (bC BK104.out 5).trans rfl; have hfz24_0 := bF BK104.out 0; have hfz24_1 := bF BK104.out 1; have hfz24_2 := bF BK104.out 2; have hfz24_3 := bF BK104.out 3; have hfz24_4 := bF BK104.out 4; have hfz24_5 := bF BK104.out 5))
              go_ret
              exact ⟨by first | rfl | (simp [errW_none, errW_some] <;> rfl) | (simp [*, errW_none, errW_some] <;> rfl), by repeat (first | (with_reducible first | exact HB.out | apply lA | apply lN | apply lW | refine lS ?_ GE104.out) | exact HB.out)⟩
             ·rw [if_neg c22] at H
              have c22b0 : (((rd_T45 l0 x20_2).f0) == ((rd_T45 l0 x20_2).f1)) = false := nF c22
              have c22b1 : (((rd_T45 l0 x20_2).f0) != ((rd_T45 l0 x20_2).f1)) = true := nT c22
              replace H := Option.bind_eq_some_iff.mp H
              obtain ⟨t105, A250, H⟩ := H
              replace H : (if t105 = true then ((route_identifier.f ((rd_T45 l0 x20_2).f0) ((rd_T45 l0 x20_2).f1) ((rd_T45 l0 x20_2).f2.f0) ((rd_T45 l0 x20_2).f2.f1) ((rd_T45 l0 x20_2).f2.f2) ((rd_T45 l0 x20_2).f3)).bind fun t106 => (if t106 = true then (route_Right.l0 k2 a1 l0 (l0.length : Int) (wrap64 (x20_2 + 1))) else (some false))) else (some false)) = some r := H
              have A25 := aM A250
              clear A250
              by_cases c26 : t105 = true
              ·subst c26
               have H1 : ((route_identifier.f ((rd_T45 l0 x20_2).f0) ((rd_T45 l0 x20_2).f1) ((rd_T45 l0 x20_2).f2.f0) ((rd_T45 l0 x20_2).f2.f1) ((rd_T45 l0 x20_2).f2.f2) ((rd_T45 l0 x20_2).f3)).bind fun t106 => (if t106 = true then (route_Right.l0 k2 a1 l0 (l0.length : Int) (wrap64 (x20_2 + 1))) else (some false))) = some r := by rw [if_pos rfl] at H; exact H
               clear H
               have H := H1
               clear H1
               replace H := Option.bind_eq_some_iff.mp H
               obtain ⟨t106, A270, H⟩ := H
               replace H : (if t106 = true then (route_Right.l0 k2 a1 l0 (l0.length : Int) (wrap64 (x20_2 + 1))) else (some false)) = some r := H
               have A27 := aM A270
               clear A270
               by_cases c28 : t106 = true
               ·subst c28
                have H1 : (route_Right.l0 k2 a1 l0 (l0.length : Int) (wrap64 (x20_2 + 1))) = some r := by rw [if_pos rfl] at H; exact H
                clear H
                have H := H1
                clear H1
                have H' := aM H
                clear H
                have p103 : 0 ≤ (x20_2 : Int) := oD (by first | (with_reducible assumption) | assumption)
                have q103 : x20_2 < (l0.length : Int) := oD (by first | (with_reducible assumption) | assumption)
                obtain ⟨ad103, e103, hx103_0, hx103_1, hx103_2, hx103_3, hx103_4, hx103_5⟩ := at_T45 HR0.out x20_2 p103 q103
                cases e103
                replace hx103_0 := (HB.out.cell (wl w _ hx103_0)).trans hx103_0
                replace hx103_1 := (HB.out.cell (wl w _ hx103_1)).trans hx103_1
                replace hx103_2 := (HB.out.cell (wl w _ hx103_2)).trans hx103_2
                replace hx103_3 := (HB.out.cell (wl w _ hx103_3)).trans hx103_3
                replace hx103_4 := (HB.out.cell (wl w _ hx103_4)).trans hx103_4
                replace hx103_5 := (HB.out.cell (wl w _ hx103_5)).trans hx103_5
                replace p103 := eq_true p103
                replace q103 := eq_true q103
                go_wp2_with (first | ((with_reducible refine gate_dst (N := 6) rfl ?_); (try (refine gate_guard (by rfl) ?_; dsimp only)); refine box_event ?hg (N := 6) ?hd (cs := #[.int .i64 0, .int .i64 0, .bool false, .int .i64 0, .int .i64 0, .int .i64 0]) (t := 45) ?hr ?_; (case hd => rfl); (case hg => rfl); (case hr => first | (go_simp; done) | (go_simp; rfl)); intro gb104 hg w29 hbox hb; have n0_ := aM (lT (by repeat (first | (with_reducible first | exact HB.out | apply lA | apply lN | apply lW) | exact HB.out)) hb); have n1_ := aM (hbox); have n2_ := aM ((by rw [hg]; exact (lZ (by repeat (first | (with_reducible first | exact HB.out | apply lA | apply lN | apply lW) | exact HB.out))) : w.heap.size ≤ gb104)); have n3_ := aM ((by rw [hg]; exact (lZ (by repeat (first | (with_reducible first | exact HB.out | apply lA | apply lN | apply lW) | exact HB.out))) : w.heap.size ≤ gb104)); clear HB; have HB := n0_; have BK104 := n1_; have GW104 := n2_; have GE104 := n3_; clear n0_ n1_ n2_ n3_; clear hb hbox hg; have hcz30_0 : w29.cell? ⟨gb104, 0, none⟩ = some (.int .i64 0) := (bC BK104.out 0).trans rfl; have hcz30_1 : w29.cell? ⟨gb104, 1, none⟩ = some (.int .i64 0) := (bC BK104.out 1).trans rfl; have hcz30_2 : w29.cell? ⟨gb104, 2, none⟩ = some (.bool false) := (bC BK104.out 2).trans rfl; have hcz30_3 : w29.cell? ⟨gb104, 3, none⟩ = some (.int .i64 0) := (bC BK104.out 3).trans rfl; have hcz30_4 : w29.cell? ⟨gb104, 4, none⟩ = some (.int .i64 0) := (bC BK104.out 4).trans rfl; have hcz30_5 : w29.cell? ⟨gb104, 5, none⟩ = some (.int .i64 0) := (bC BK104.out 5).trans rfl; have hfz30_0 := bF BK104.out 0; have hfz30_1 := bF BK104.out 1; have hfz30_2 := bF BK104.out 2; have hfz30_3 := bF BK104.out 3; have hfz30_4 := bF BK104.out 4; have hfz30_5 := bF BK104.out 5) | (go_at_call 24; (with_reducible refine (filter_Right.calls ((rd_T45 l0 x20_2).f2.f0) ((rd_T45 l0 x20_2).f2.f1) ((rd_T45 l0 x20_2).f2.f2) true _ A25.out).mono ?_); rintro e w31 ⟨rfl, hb⟩; have n0_ := aM (blk_below (g := gb104) (o := .cells #[.int .i64 ((rd_T45 l0 x20_2).f0), .int .i64 ((rd_T45 l0 x20_2).f1), .bool ((rd_T45 l0 x20_2).f2.f0), .int .i64 ((rd_T45 l0 x20_2).f2.f1), .int .i64 ((rd_T45 l0 x20_2).f2.f2), .int .i64 ((rd_T45 l0 x20_2).f3)] 45 (0, 0)) (by (with_reducible repeat (first | refine bN ?_ _ | refine bW ?_ | refine bA ?_ _)); refine blk_put (cs := #[.int .i64 ((rd_T45 l0 x20_2).f0), .int .i64 ((rd_T45 l0 x20_2).f1), .bool ((rd_T45 l0 x20_2).f2.f0), .int .i64 ((rd_T45 l0 x20_2).f2.f1), .int .i64 ((rd_T45 l0 x20_2).f2.f2), .int .i64 0]) ?_ 5 _ rfl; (with_reducible repeat (first | refine bN ?_ _ | refine bW ?_ | refine bA ?_ _)); refine blk_put (cs := #[.int .i64 ((rd_T45 l0 x20_2).f0), .int .i64 ((rd_T45 l0 x20_2).f1), .bool ((rd_T45 l0 x20_2).f2.f0), .int .i64 ((rd_T45 l0 x20_2).f2.f1), .int .i64 0, .int .i64 0]) ?_ 4 _ rfl; (with_reducible repeat (first | refine bN ?_ _ | refine bW ?_ | refine bA ?_ _)); refine blk_put (cs := #[.int .i64 ((rd_T45 l0 x20_2).f0), .int .i64 ((rd_T45 l0 x20_2).f1), .bool ((rd_T45 l0 x20_2).f2.f0), .int .i64 0, .int .i64 0, .int .i64 0]) ?_ 3 _ rfl; (with_reducible repeat (first | refine bN ?_ _ | refine bW ?_ | refine bA ?_ _)); refine blk_put (cs := #[.int .i64 ((rd_T45 l0 x20_2).f0), .int .i64 ((rd_T45 l0 x20_2).f1), .bool false, .int .i64 0, .int .i64 0, .int .i64 0]) ?_ 2 _ rfl; (with_reducible repeat (first | refine bN ?_ _ | refine bW ?_ | refine bA ?_ _)); refine blk_put (cs := #[.int .i64 ((rd_T45 l0 x20_2).f0), .int .i64 0, .bool false, .int .i64 0, .int .i64 0, .int .i64 0]) ?_ 1 _ rfl; (with_reducible repeat (first | refine bN ?_ _ | refine bW ?_ | refine bA ?_ _)); refine blk_put (cs := #[.int .i64 0, .int .i64 0, .bool false, .int .i64 0, .int .i64 0, .int .i64 0]) ?_ 0 _ rfl; (with_reducible repeat (first | refine bN ?_ _ | refine bW ?_ | refine bA ?_ _)); exact BK104.out) hb); have n1_ := aM (lT (by repeat (first | (with_reducible first | exact HB.out | apply lA | apply lN | apply lW | refine lS ?_ GE104.out) | exact HB.out)) hb); clear BK104; clear HB; have BK104 := n0_; have HB := n1_; clear n0_ n1_; (try clear hb); (try clear hb2); (try clear hk); (try clear hi); have hcz32_0 : w31.cell? ⟨gb104, 0, none⟩ = some (.int .i64 ((rd_T45 l0 x20_2).f0)) := (bC BK104.out 0).trans rfl; have hcz32_1 : w31.cell? ⟨gb104, 1, none⟩ = some (.int .i64 ((rd_T45 l0 x20_2).f1)) := (bC BK104.out 1).trans rfl; have hcz32_2 : w31.cell? ⟨gb104, 2, none⟩ = some (.bool ((rd_T45 l0 x20_2).f2.f0)) := (bC BK104.out 2).trans rfl; have hcz32_3 : w31.cell? ⟨gb104, 3, none⟩ = some (.int .i64 ((rd_T45 l0 x20_2).f2.f1)) := (bC BK104.out 3).trans rfl; have hcz32_4 : w31.cell? ⟨gb104, 4, none⟩ = some (.int .i64 ((rd_T45 l0 x20_2).f2.f2)) := (bC BK104.out 4).trans rfl; have hcz32_5 : w31.cell? ⟨gb104, 5, none⟩ = some (.int .i64 ((rd_T45 l0 x20_2).f3)) := (bC BK104.out 5).trans rfl; have hfz32_0 := bF BK104.out 0; have hfz32_1 := bF BK104.out 1; have hfz32_2 := bF BK104.out 2; have hfz32_3 := bF BK104.out 3; have hfz32_4 := bF BK104.out 4; have hfz32_5 := bF BK104.out 5) | (go_at_call 25; (with_reducible refine (route_identifier.calls ((rd_T45 l0 x20_2).f0) ((rd_T45 l0 x20_2).f1) ((rd_T45 l0 x20_2).f2.f0) ((rd_T45 l0 x20_2).f2.f1) ((rd_T45 l0 x20_2).f2.f2) ((rd_T45 l0 x20_2).f3) true _ A27.out).mono ?_); rintro e w33 ⟨rfl, hb⟩; have n0_ := aM (blk_below (g := gb104) (o := .cells #[.int .i64 ((rd_T45 l0 x20_2).f0), .int .i64 ((rd_T45 l0 x20_2).f1), .bool ((rd_T45 l0 x20_2).f2.f0), .int .i64 ((rd_T45 l0 x20_2).f2.f1), .int .i64 ((rd_T45 l0 x20_2).f2.f2), .int .i64 ((rd_T45 l0 x20_2).f3)] 45 (0, 0)) (by (with_reducible repeat (first | refine bN ?_ _ | refine bW ?_ | refine bA ?_ _)); exact BK104.out) hb); have n1_ := aM (lT (by repeat (first | (with_reducible first | exact HB.out | apply lA | apply lN | apply lW | refine lS ?_ GE104.out) | exact HB.out)) hb); clear BK104; clear HB; have BK104 := n0_; have HB := n1_; clear n0_ n1_; (try clear hb); (try clear hb2); (try clear hk); (try clear hi)))
                go_roundg k2
                case measure => have := HJ2.out; have := HK2.out; omega
                case rel => exact ⟨(wrap64 (x20_2 + 1)), (by first | rfl | (simp; done) | (simp [*]; done)), H', ⟨by have := HJ2.out; have := HK2.out; omega⟩, ⟨by repeat (first | (with_reducible first | exact HB.out | apply lA | apply lN | apply lW | refine lS ?_ GE104.out) | exact HB.out)⟩⟩
               ·replace c28 := Bool.eq_false_iff.mpr c28
                subst c28
                have H1 : (some false) = some r := by rw [if_neg (show ¬ (false = true) by decide)] at H; exact H
                clear H
                have H := H1
                clear H1
                obtain rfl := Option.some.inj H
                have p103 : 0 ≤ (x20_2 : Int) := oD (by first | (with_reducible assumption) | assumption)
                have q103 : x20_2 < (l0.length : Int) := oD (by first | (with_reducible assumption) | assumption)
                obtain ⟨ad103, e103, hx103_0, hx103_1, hx103_2, hx103_3, hx103_4, hx103_5⟩ := at_T45 HR0.out x20_2 p103 q103
                cases e103
                replace hx103_0 := (HB.out.cell (wl w _ hx103_0)).trans hx103_0
                replace hx103_1 := (HB.out.cell (wl w _ hx103_1)).trans hx103_1
                replace hx103_2 := (HB.out.cell (wl w _ hx103_2)).trans hx103_2
                replace hx103_3 := (HB.out.cell (wl w _ hx103_3)).trans hx103_3
                replace hx103_4 := (HB.out.cell (wl w _ hx103_4)).trans hx103_4
                replace hx103_5 := (HB.out.cell (wl w _ hx103_5)).trans hx103_5
                replace p103 := eq_true p103
                replace q103 := eq_true q103
                go_wp2_with (first | ((with_reducible refine gate_dst (N := 6) rfl ?_); (try (refine gate_guard (by rfl) ?_; dsimp only)); refine box_event ?hg (N := 6) ?hd (cs := #[.int .i64 0, .int .i64 0, .bool false, .int .i64 0, .int .i64 0, .int .i64 0]) (t := 45) ?hr ?_; (case hd => rfl); (case hg => rfl); (case hr => first | (go_simp; done) | (go_simp; rfl)); intro gb104 hg w34 hbox hb; have n0_ := aM (lT (by repeat (first | (with_reducible first | exact HB.out | apply lA | apply lN | apply lW) | exact HB.out)) hb); have n1_ := aM (hbox); have n2_ := aM ((by rw [hg]; exact (lZ (by repeat (first | (with_reducible first | exact HB.out | apply lA | apply lN | apply lW) | exact HB.out))) : w.heap.size ≤ gb104)); have n3_ := aM ((by rw [hg]; exact (lZ (by repeat (first | (with_reducible first | exact HB.out | apply lA | apply lN | apply lW) | exact HB.out))) : w.heap.size ≤ gb104)); clear HB; have HB := n0_; have BK104 := n1_; have GW104 := n2_; have GE104 := n3_; clear n0_ n1_ n2_ n3_; clear hb hbox hg; have hcz35_0 : w34.cell? ⟨gb104, 0, none⟩ = some (.int .i64 0) := (bC BK104.out 0).trans rfl; have hcz35_1 : w34.cell? ⟨gb104, 1, none⟩ = some (.int .i64 0) := (bC BK104.out 1).trans rfl; have hcz35_2 : w34.cell? ⟨gb104, 2, none⟩ = some (.bool false) := (bC BK104.out 2).trans rfl; have hcz35_3 : w34.cell? ⟨gb104, 3, none⟩ = some (.int .i64 0) := (bC BK104.out 3).trans rfl; have hcz35_4 : w34.cell? ⟨gb104, 4, none⟩ = some (.int .i64 0) := (bC BK104.out 4).trans rfl; have hcz35_5 : w34.cell? ⟨gb104, 5, none⟩ = some (.int .i64 0) := (bC BK104.out 5).trans rfl; have hfz35_0 := bF BK104.out 0; have hfz35_1 := bF BK104.out 1; have hfz35_2 := bF BK104.out 2; have hfz35_3 := bF BK104.out 3; have hfz35_4 := bF BK104.out 4; have hfz35_5 := bF BK104.out 5) | (go_at_call 24; (with_reducible refine (filter_Right.calls ((rd_T45 l0 x20_2).f2.f0) ((rd_T45 l0 x20_2).f2.f1) ((rd_T45 l0 x20_2).f2.f2) true _ A25.out).mono ?_); rintro e w36 ⟨rfl, hb⟩; have n0_ := aM (blk_below (g := gb104) (o := .cells #[.int .i64 ((rd_T45 l0 x20_2).f0), .int .i64 ((rd_T45 l0 x20_2).f1), .bool ((rd_T45 l0 x20_2).f2.f0), .int .i64 ((rd_T45 l0 x20_2).f2.f1), .int .i64 ((rd_T45 l0 x20_2).f2.f2), .int .i64 ((rd_T45 l0 x20_2).f3)] 45 (0, 0)) (by (with_reducible repeat (first | refine bN ?_ _ | refine bW ?_ | refine bA ?_ _)); refine blk_put (cs := #[.int .i64 ((rd_T45 l0 x20_2).f0), .int .i64 ((rd_T45 l0 x20_2).f1), .bool ((rd_T45 l0 x20_2).f2.f0), .int .i64 ((rd_T45 l0 x20_2).f2.f1), .int .i64 ((rd_T45 l0 x20_2).f2.f2), .int .i64 0]) ?_ 5 _ rfl; (with_reducible repeat (first | refine bN ?_ _ | refine bW ?_ | refine bA ?_ _)); refine blk_put (cs := #[.int .i64 ((rd_T45 l0 x20_2).f0), .int .i64 ((rd_T45 l0 x20_2).f1), .bool ((rd_T45 l0 x20_2).f2.f0), .int .i64 ((rd_T45 l0 x20_2).f2.f1), .int .i64 0, .int .i64 0]) ?_ 4 _ rfl; (with_reducible repeat (first | refine bN ?_ _ | refine bW ?_ | refine bA ?_ _)); refine blk_put (cs := #[.int .i64 ((rd_T45 l0 x20_2).f0), .int .i64 ((rd_T45 l0 x20_2).f1), .bool ((rd_T45 l0 x20_2).f2.f0), .int .i64 0, .int .i64 0, .int .i64 0]) ?_ 3 _ rfl; (with_reducible repeat (first | refine bN ?_ _ | refine bW ?_ | refine bA ?_ _)); refine blk_put (cs := #[.int .i64 ((rd_T45 l0 x20_2).f0), .int .i64 ((rd_T45 l0 x20_2).f1), .bool false, .int .i64 0, .int .i64 0, .int .i64 0]) ?_ 2 _ rfl; (with_reducible repeat (first | refine bN ?_ _ | refine bW ?_ | refine bA ?_ _)); refine blk_put (cs := #[.int .i64 ((rd_T45 l0 x20_2).f0), .int .i64 0, .bool false, .int .i64 0, .int .i64 0, .int .i64 0]) ?_ 1 _ rfl; (with_reducible repeat (first | refine bN ?_ _ | refine bW ?_ | refine bA ?_ _)); refine blk_put (cs := #[.int .i64 0, .int .i64 0, .bool false, .int .i64 0, .int .i64 0, .int .i64 0]) ?_ 0 _ rfl; (with_reducible repeat (first | refine bN ?_ _ | refine bW ?_ | refine bA ?_ _)); exact BK104.out) hb); have n1_ := aM (lT (by repeat (first | (with_reducible first | exact HB.out | apply lA | apply lN | apply lW | refine lS ?_ GE104.out) | exact HB.out)) hb); clear BK104; clear HB; have BK104 := n0_; have HB := n1_; clear n0_ n1_; (try clear hb); (try clear hb2); (try clear hk); (try clear hi); have hcz37_0 : w36.cell? ⟨gb104, 0, none⟩ = some (.int .i64 ((rd_T45 l0 x20_2).f0)) := (bC BK104.out 0).trans rfl; have hcz37_1 : w36.cell? ⟨gb104, 1, none⟩ = some (.int .i64 ((rd_T45 l0 x20_2).f1)) := (bC BK104.out 1).trans rfl; have hcz37_2 : w36.cell? ⟨gb104, 2, none⟩ = some (.bool ((rd_T45 l0 x20_2).f2.f0)) := (bC BK104.out 2).trans rfl; have hcz37_3 : w36.cell? ⟨gb104, 3, none⟩ = some (.int .i64 ((rd_T45 l0 x20_2).f2.f1)) := (bC BK104.out 3).trans rfl; have hcz37_4 : w36.cell? ⟨gb104, 4, none⟩ = some (.int .i64 ((rd_T45 l0 x20_2).f2.f2)) := (bC BK104.out 4).trans rfl; have hcz37_5 : w36.cell? ⟨gb104, 5, none⟩ = some (.int .i64 ((rd_T45 l0 x20_2).f3)) := (bC BK104.out 5).trans rfl; have hfz37_0 := bF BK104.out 0; have hfz37_1 := bF BK104.out 1; have hfz37_2 := bF BK104.out 2; have hfz37_3 := bF BK104.out 3; have hfz37_4 := bF BK104.out 4; have hfz37_5 := bF BK104.out 5) | (go_at_call 25; (with_reducible refine (route_identifier.calls ((rd_T45 l0 x20_2).f0) ((rd_T45 l0 x20_2).f1) ((rd_T45 l0 x20_2).f2.f0) ((rd_T45 l0 x20_2).f2.f1) ((rd_T45 l0 x20_2).f2.f2) ((rd_T45 l0 x20_2).f3) false _ A27.out).mono ?_); rintro e w38 ⟨rfl, hb⟩; have n0_ := aM (blk_below (g := gb104) (o := .cells #[.int .i64 ((rd_T45 l0 x20_2).f0), .int .i64 ((rd_T45 l0 x20_2).f1), .bool ((rd_T45 l0 x20_2).f2.f0), .int .i64 ((rd_T45 l0 x20_2).f2.f1), .int .i64 ((rd_T45 l0 x20_2).f2.f2), .int .i64 ((rd_T45 l0 x20_2).f3)] 45 (0, 0)) (by (with_reducible repeat (first | refine bN ?_ _ | refine bW ?_ | refine bA ?_ _)); exact BK104.out) hb); have n1_ := aM (lT (by repeat (first | (with_reducible first | exact HB.out | apply lA | apply lN | apply lW | refine lS ?_ GE104.out) | exact HB.out)) hb); clear BK104; clear HB; have BK104 := n0_; have HB := n1_; clear n0_ n1_; (try clear hb); (try clear hb2); (try clear hk); (try clear hi)))
                go_ret
                exact ⟨by first | rfl | (simp [errW_none, errW_some] <;> rfl) | (simp [*, errW_none, errW_some] <;> rfl), by repeat (first | (with_reducible first | exact HB.out | apply lA | apply lN | apply lW | refine lS ?_ GE104.out) | exact HB.out)⟩
              ·replace c26 := Bool.eq_false_iff.mpr c26
               subst c26
               have H1 : (some false) = some r := by rw [if_neg (show ¬ (false = true) by decide)] at H; exact H
               clear H
               have H := H1
               clear H1
               obtain rfl := Option.some.inj H
               have p103 : 0 ≤ (x20_2 : Int) := oD (by first | (with_reducible assumption) | assumption)
               have q103 : x20_2 < (l0.length : Int) := oD (by first | (with_reducible assumption) | assumption)
               obtain ⟨ad103, e103, hx103_0, hx103_1, hx103_2, hx103_3, hx103_4, hx103_5⟩ := at_T45 HR0.out x20_2 p103 q103
               cases e103
               replace hx103_0 := (HB.out.cell (wl w _ hx103_0)).trans hx103_0
               replace hx103_1 := (HB.out.cell (wl w _ hx103_1)).trans hx103_1
               replace hx103_2 := (HB.out.cell (wl w _ hx103_2)).trans hx103_2
               replace hx103_3 := (HB.out.cell (wl w _ hx103_3)).trans hx103_3
               replace hx103_4 := (HB.out.cell (wl w _ hx103_4)).trans hx103_4
               replace hx103_5 := (HB.out.cell (wl w _ hx103_5)).trans hx103_5
               replace p103 := eq_true p103
               replace q103 := eq_true q103
               go_wp2_with (first | ((with_reducible refine gate_dst (N := 6) rfl ?_); (try (refine gate_guard (by rfl) ?_; dsimp only)); refine box_event ?hg (N := 6) ?hd (cs := #[.int .i64 0, .int .i64 0, .bool false, .int .i64 0, .int .i64 0, .int .i64 0]) (t := 45) ?hr ?_; (case hd => rfl); (case hg => rfl); (case hr => first | (go_simp; done) | (go_simp; rfl)); intro gb104 hg w39 hbox hb; have n0_ := aM (lT (by repeat (first | (with_reducible first | exact HB.out | apply lA | apply lN | apply lW) | exact HB.out)) hb); have n1_ := aM (hbox); have n2_ := aM ((by rw [hg]; exact (lZ (by repeat (first | (with_reducible first | exact HB.out | apply lA | apply lN | apply lW) | exact HB.out))) : w.heap.size ≤ gb104)); have n3_ := aM ((by rw [hg]; exact (lZ (by repeat (first | (with_reducible first | exact HB.out | apply lA | apply lN | apply lW) | exact HB.out))) : w.heap.size ≤ gb104)); clear HB; have HB := n0_; have BK104 := n1_; have GW104 := n2_; have GE104 := n3_; clear n0_ n1_ n2_ n3_; clear hb hbox hg; have hcz40_0 : w39.cell? ⟨gb104, 0, none⟩ = some (.int .i64 0) := (bC BK104.out 0).trans rfl; have hcz40_1 : w39.cell? ⟨gb104, 1, none⟩ = some (.int .i64 0) := (bC BK104.out 1).trans rfl; have hcz40_2 : w39.cell? ⟨gb104, 2, none⟩ = some (.bool false) := (bC BK104.out 2).trans rfl; have hcz40_3 : w39.cell? ⟨gb104, 3, none⟩ = some (.int .i64 0) := (bC BK104.out 3).trans rfl; have hcz40_4 : w39.cell? ⟨gb104, 4, none⟩ = some (.int .i64 0) := (bC BK104.out 4).trans rfl; have hcz40_5 : w39.cell? ⟨gb104, 5, none⟩ = some (.int .i64 0) := (bC BK104.out 5).trans rfl; have hfz40_0 := bF BK104.out 0; have hfz40_1 := bF BK104.out 1; have hfz40_2 := bF BK104.out 2; have hfz40_3 := bF BK104.out 3; have hfz40_4 := bF BK104.out 4; have hfz40_5 := bF BK104.out 5) | (go_at_call 24; (with_reducible refine (filter_Right.calls ((rd_T45 l0 x20_2).f2.f0) ((rd_T45 l0 x20_2).f2.f1) ((rd_T45 l0 x20_2).f2.f2) false _ A25.out).mono ?_); rintro e w41 ⟨rfl, hb⟩; have n0_ := aM (blk_below (g := gb104) (o := .cells #[.int .i64 ((rd_T45 l0 x20_2).f0), .int .i64 ((rd_T45 l0 x20_2).f1), .bool ((rd_T45 l0 x20_2).f2.f0), .int .i64 ((rd_T45 l0 x20_2).f2.f1), .int .i64 ((rd_T45 l0 x20_2).f2.f2), .int .i64 ((rd_T45 l0 x20_2).f3)] 45 (0, 0)) (by (with_reducible repeat (first | refine bN ?_ _ | refine bW ?_ | refine bA ?_ _)); refine blk_put (cs := #[.int .i64 ((rd_T45 l0 x20_2).f0), .int .i64 ((rd_T45 l0 x20_2).f1), .bool ((rd_T45 l0 x20_2).f2.f0), .int .i64 ((rd_T45 l0 x20_2).f2.f1), .int .i64 ((rd_T45 l0 x20_2).f2.f2), .int .i64 0]) ?_ 5 _ rfl; (with_reducible repeat (first | refine bN ?_ _ | refine bW ?_ | refine bA ?_ _)); refine blk_put (cs := #[.int .i64 ((rd_T45 l0 x20_2).f0), .int .i64 ((rd_T45 l0 x20_2).f1), .bool ((rd_T45 l0 x20_2).f2.f0), .int .i64 ((rd_T45 l0 x20_2).f2.f1), .int .i64 0, .int .i64 0]) ?_ 4 _ rfl; (with_reducible repeat (first | refine bN ?_ _ | refine bW ?_ | refine bA ?_ _)); refine blk_put (cs := #[.int .i64 ((rd_T45 l0 x20_2).f0), .int .i64 ((rd_T45 l0 x20_2).f1), .bool ((rd_T45 l0 x20_2).f2.f0), .int .i64 0, .int .i64 0, .int .i64 0]) ?_ 3 _ rfl; (with_reducible repeat (first | refine bN ?_ _ | refine bW ?_ | refine bA ?_ _)); refine blk_put (cs := #[.int .i64 ((rd_T45 l0 x20_2).f0), .int .i64 ((rd_T45 l0 x20_2).f1), .bool false, .int .i64 0, .int .i64 0, .int .i64 0]) ?_ 2 _ rfl; (with_reducible repeat (first | refine bN ?_ _ | refine bW ?_ | refine bA ?_ _)); refine blk_put (cs := #[.int .i64 ((rd_T45 l0 x20_2).f0), .int .i64 0, .bool false, .int .i64 0, .int .i64 0, .int .i64 0]) ?_ 1 _ rfl; (with_reducible repeat (first | refine bN ?_ _ | refine bW ?_ | refine bA ?_ _)); refine blk_put (cs := #[.int .i64 0, .int .i64 0, .bool false, .int .i64 0, .int .i64 0, .int .i64 0]) ?_ 0 _ rfl; (with_reducible repeat (first | refine bN ?_ _ | refine bW ?_ | refine bA ?_ _)); exact BK104.out) hb); have n1_ := aM (lT (by repeat (first | (with_reducible first | exact HB.out | apply lA | apply lN | apply lW | refine lS ?_ GE104.out) | exact HB.out)) hb); clear BK104; clear HB; have BK104 := n0_; have HB := n1_; clear n0_ n1_; (try clear hb); (try clear hb2); (try clear hk); (try clear hi)))
               go_ret
               exact ⟨by first | rfl | (simp [errW_none, errW_some] <;> rfl) | (simp [*, errW_none, errW_some] <;> rfl), by repeat (first | (with_reducible first | exact HB.out | apply lA | apply lN | apply lW | refine lS ?_ GE104.out) | exact HB.out)⟩
        ·rw [if_neg c9] at H
         exact absurd H (by simp)
       ·rw [if_neg c8] at H
        exact absurd H (by simp)
      ·rw [if_neg c7] at H
       have c7b0 : decide (x20_2 < (l0.length : Int)) = false := decide_eq_false c7
       clear c7
       obtain rfl := Option.some.inj H
       go_wp2
       go_ret
       exact ⟨by first | rfl | (simp [errW_none, errW_some] <;> rfl) | (simp [*, errW_none, errW_some] <;> rfl), by repeat (first | (with_reducible first | exact HB.out | apply lA | apply lN | apply lW) | exact HB.out)⟩

end Go.Proofs.Ytpcabeefahldlaa.P

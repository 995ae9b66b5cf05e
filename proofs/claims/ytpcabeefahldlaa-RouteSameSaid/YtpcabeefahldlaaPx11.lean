/- Go functions that the laws of this seat reach, each as a Lean function, and a proof that a call of the Go code comes to its answers; written by a program (the kit's print, turned in a few places). Conditions: each theorem's own premises. -/
import Derived.Test.YtpcabeefahldlaaPx0
namespace Go.Proofs.Ytpcabeefahldlaa.P
open Go.RowKit Go.Proofs.YtpcabeefahldlaaW.PrintWords Go.Proofs.YtpcabeefahldlaaW.PrintLast Go.Proofs.YtpcabeefahldlaaW.PrintMore
attribute [local go_sem] max2_int min2_int max_two min_two max_three min_three max_four min_four   -- for this text's walks alone
set_option linter.unusedVariables false
set_option linter.unusedSimpArgs false

/-! ### phaetonlaw12_Cut: function 16 -/
mutual
def phaetonlaw12_Cut.l0 : Nat → List (S45) → Int → List (S45) → Int → Option ((List (S45)))
 | 0, _, _, _, _ => none
 | k + 1, x0, x1, x5, x6 => if x6 < (x0.length : Int) then (phaetonlaw12_Cut.j1 k x0 x1 x5 x6 (decide (x6 < x1))) else (phaetonlaw12_Cut.j1 k x0 x1 x5 x6 false)
def phaetonlaw12_Cut.j1 : Nat → List (S45) → Int → List (S45) → Int → Bool → Option ((List (S45)))
 | 0, _, _, _, _, _ => none
 | k + 1, x0, x1, x5, x6, x18 => if x18 = true then (if 0 ≤ x6 then (if x6 < (x0.length : Int) then (if (rd_T45 x0 x6).f2.f0 = true then (if (Go.bits .and .i64 ((rd_T45 x0 x6).f0) 3) = (Go.bits .and .i64 ((rd_T45 x0 x6).f1) 3) then (phaetonlaw12_Cut.l0 k x0 x1 x5 (wrap64 (x6 + 1))) else (if x5.length < 2932031007402 then (phaetonlaw12_Cut.l0 k x0 x1 (x5 ++ [(⟨Go.bits .and .i64 ((rd_T45 x0 x6).f0) 3, Go.bits .and .i64 ((rd_T45 x0 x6).f1) 3, (⟨(rd_T45 x0 x6).f2.f0, Go.bits .and .i64 ((rd_T45 x0 x6).f2.f1) 536870911, Go.bits .and .i64 ((rd_T45 x0 x6).f2.f2) (Go.bits .and .i64 ((rd_T45 x0 x6).f2.f1) 536870911)⟩ : S43), mx (-1) (mn ((rd_T45 x0 x6).f3) 536870911)⟩ : S45)]) (wrap64 (x6 + 1))) else (none))) else (if (Go.bits .and .i64 ((rd_T45 x0 x6).f0) 3) = (Go.bits .and .i64 ((rd_T45 x0 x6).f1) 3) then (phaetonlaw12_Cut.l0 k x0 x1 x5 (wrap64 (x6 + 1))) else (if x5.length < 2932031007402 then (phaetonlaw12_Cut.l0 k x0 x1 (x5 ++ [(⟨Go.bits .and .i64 ((rd_T45 x0 x6).f0) 3, Go.bits .and .i64 ((rd_T45 x0 x6).f1) 3, (⟨(rd_T45 x0 x6).f2.f0, Go.bits .and .i64 ((rd_T45 x0 x6).f2.f1) 2047, Go.bits .and .i64 ((rd_T45 x0 x6).f2.f2) (Go.bits .and .i64 ((rd_T45 x0 x6).f2.f1) 2047)⟩ : S43), mx (-1) (mn ((rd_T45 x0 x6).f3) 2047)⟩ : S45)]) (wrap64 (x6 + 1))) else (none)))) else (none)) else (none)) else (some x5)
end
def phaetonlaw12_Cut.f (k : Nat) (l0 : List (S45)) (a1 : Int) : Option ((List (S45))) := phaetonlaw12_Cut.l0 k l0 a1 (([] : List (S45))) 0
theorem phaetonlaw12_Cut.mono_l : ∀ k, (∀ y0 y1 y2 y3, LeO (phaetonlaw12_Cut.l0 k y0 y1 y2 y3) (phaetonlaw12_Cut.l0 (k + 1) y0 y1 y2 y3)) ∧ (∀ y0 y1 y2 y3 y4, LeO (phaetonlaw12_Cut.j1 k y0 y1 y2 y3 y4) (phaetonlaw12_Cut.j1 (k + 1) y0 y1 y2 y3 y4))
 | 0 => ⟨fun _ _ _ _ r h => by simp [phaetonlaw12_Cut.l0] at h, fun _ _ _ _ _ r h => by simp [phaetonlaw12_Cut.j1] at h⟩
 | k + 1 => by
  obtain ⟨ih0, ih1⟩ := phaetonlaw12_Cut.mono_l k
  refine ⟨?_, ?_⟩
  ·intro y0 y1 y2 y3
   unfold phaetonlaw12_Cut.l0
   repeat' first
   | (with_reducible exact ih0 _ _ _ _)
   | (with_reducible exact ih1 _ _ _ _ _)
   | (with_reducible exact LeO.refl _)
   | (with_reducible exact LeO.none _)
   | (with_reducible refine LeO.ite ?_ ?_)
   | (with_reducible refine LeO.bind ?_ (fun _ => ?_))
   | exact ih0 _ _ _ _
   | exact ih1 _ _ _ _ _
   | exact LeO.none _
   | refine LeO.ite ?_ ?_
   | refine LeO.bind ?_ (fun _ => ?_)
  ·intro y0 y1 y2 y3 y4
   unfold phaetonlaw12_Cut.j1
   repeat' first
   | (with_reducible exact ih0 _ _ _ _)
   | (with_reducible exact ih1 _ _ _ _ _)
   | (with_reducible exact LeO.refl _)
   | (with_reducible exact LeO.none _)
   | (with_reducible refine LeO.ite ?_ ?_)
   | (with_reducible refine LeO.bind ?_ (fun _ => ?_))
   | exact ih0 _ _ _ _
   | exact ih1 _ _ _ _ _
   | exact LeO.none _
   | refine LeO.ite ?_ ?_
   | refine LeO.bind ?_ (fun _ => ?_)
theorem phaetonlaw12_Cut.mono : ∀ a0 a1 k, LeO (phaetonlaw12_Cut.f k a0 a1) (phaetonlaw12_Cut.f (k + 1) a0 a1) := by
 intro a0 a1 k
 obtain ⟨ih0, ih1⟩ := phaetonlaw12_Cut.mono_l k
 unfold phaetonlaw12_Cut.f
 repeat' first
   | (with_reducible exact ih0 _ _ _ _)
   | (with_reducible exact ih1 _ _ _ _ _)
   | (with_reducible exact LeO.refl _)
   | (with_reducible exact LeO.none _)
   | (with_reducible refine LeO.ite ?_ ?_)
   | (with_reducible refine LeO.bind ?_ (fun _ => ?_))
   | exact ih0 _ _ _ _
   | exact ih1 _ _ _ _ _
   | exact LeO.none _
   | refine LeO.ite ?_ ?_
   | refine LeO.bind ?_ (fun _ => ?_)
set_option maxHeartbeats 8000000 in
set_option maxRecDepth 100000 in
theorem phaetonlaw12_Cut.calls (k : Nat) (A0 : Option Addr) (c0 : Nat) (l0 : List (S45)) (a1 : Int) (r : List (S45)) (w : World) (hr0 : Kd.C k45 w A0 l0.length l0) (hc0 : l0.length ≤ c0) (h : phaetonlaw12_Cut.f k l0 a1 = some r) :
  Calls Try.prog 16 #[.slice A0 l0.length c0, .int .i64 a1] w fun e w' => ∃ v0_ : Value, e = .returned (v0_) ∧ Kd.R k45 45 w' w.heap.size (fun _ => True) v0_ r ∧ Below w.heap.size w w' := by
 have hu43 := Try.underlying43
 have hu45 := Try.underlying45
 have HR0 := aM hr0
 have HC0 := aM hc0
 clear hr0 hc0
 have HB := aM (Below.refl w.heap.size w)
 have H : (phaetonlaw12_Cut.l0 k l0 a1 (([] : List (S45))) 0) = some r := h
 clear h
 obtain ⟨y181, hy181⟩ : ∃ y_ : List (S45), y_ = (([] : List (S45))) := ⟨_, rfl⟩
 replace H : (phaetonlaw12_Cut.l0 k l0 a1 y181 0) = some r := by first | (rw [hy181]; with_reducible exact H) | (have H2_ := (Option.bind_some _ _).symm.trans H; rw [hy181]; with_reducible exact H2_) | (have H2_ := (Option.bind_some _ _).symm.trans H; with_reducible exact H2_) | with_reducible exact H | (rw [hy181]; exact H) | exact H
 have Ny181 := aM hy181
 clear hy181
 have H' := aM H
 clear H
 go_enter Try.func16, Try.ntmps16
 go_wp2_with (first | ((with_reducible refine gate_dst (N := 9) rfl ?_); refine Kd.R_lit k45 _ 45 ?hg (N := 9) ?hd (xs := ([] : List (S45))) (inner := []) (ok := fun _ => True) (okp := fun _ => True) ?hr ?hp (fun _ hk => hk) trivial (Below.refl _ _) (Nat.le_refl _) (by simp) ?_; (case hd => rfl); (case hg => rfl); (case hr => first | (go_simp; done) | (go_simp; rfl)); (case hp => exact (Reps.none _ _)); intro v182 w3 ho4 hb hg_ hnew_; clear hg_ hnew_; (first | rw [← Ny181.out] at ho4 | (simp only [Int.reduceToNat] at ho4; rw [← Ny181.out] at ho4)); have n0_ := aM (Kd.R_lower ho4 (lZ (by repeat (first | (with_reducible first | exact HB.out | apply lA | apply lN | apply lW) | exact HB.out)))); have n1_ := aM (lT (by repeat (first | (with_reducible first | exact HB.out | apply lA | apply lN | apply lW) | exact HB.out)) hb); clear HB; have HO183 := n0_; have HB := n1_; clear n0_ n1_; clear hb ho4))
 go_loopg [5, 6] k (fun kq v5 v6 w' => ∃ (x5_1 : List (S45)) (x6_1 : Int), v6 = .int .i64 x6_1 ∧ Aside0 (phaetonlaw12_Cut.l0 kq l0 a1 x5_1 x6_1 = some r) ∧ Aside0 (kq ≤ k) ∧ Aside0 (Kd.R k45 45 w' w.heap.size (fun _ => True) v5 x5_1) ∧ Aside0 (Below w.heap.size w w'))
 case atStart => exact ⟨(y181), (0), (by first | rfl | (simp; done) | (simp [*]; done)), H', ⟨Nat.le_refl _⟩, ⟨by (with_reducible repeat (first | apply rA | apply rN | apply rW)); exact HO183.out⟩, ⟨by repeat (first | (with_reducible first | exact HB.out | apply lA | apply lN | apply lW) | exact HB.out)⟩⟩
 case round =>
  clear H'
  try clear c1
  try clear p2
  obtain ⟨x5_1, x6_1, rfl, HA, HK1, HO_5, HB⟩ := hrel
  cases gk with
  | zero => exact absurd HA.out (by simp [phaetonlaw12_Cut.l0])
  | succ k1 =>
   have H := HA.out
   clear HA
   simp only [phaetonlaw12_Cut.l0] at H
   have HC5 := aM H
   clear H
   go_upto_region 3 with (fail)
   go_cut [18] (fun v18 wc => ∃ (kq : Nat) (x18_4 : Bool), v18 = .bool x18_4 ∧ Aside0 (phaetonlaw12_Cut.j1 kq l0 a1 x5_1 x6_1 x18_4 = some r) ∧ Aside0 (kq ≤ k1) ∧ Aside0 (Kd.R k45 45 wc w.heap.size (fun _ => True) u5 x5_1) ∧ Aside0 (Below w.heap.size w wc))
   case first =>
    have H := HC5.out
    clear HC5
    by_cases c6 : x6_1 < (l0.length : Int)
    ·rw [if_pos c6] at H
     have c6b0 : decide (x6_1 < (l0.length : Int)) = true := decide_eq_true c6
     clear c6
     (first | rw [c6b0] | (simp only [i64_w, i32_w]; rw [c6b0]) | skip)
     have H' := aM H
     clear H
     go_wp2
     go_meet
     case rel => exact ⟨_, (decide (x6_1 < a1)), (by first | rfl | (simp; done) | (simp [*]; done)), H', ⟨by have := HK1.out; first | omega | exact Nat.le_refl _⟩, ⟨by (with_reducible repeat (first | apply rA | apply rN | apply rW)); exact HO_5.out⟩, ⟨by repeat (first | (with_reducible first | exact HB.out | apply lA | apply lN | apply lW) | exact HB.out)⟩⟩
    ·rw [if_neg c6] at H
     have c6b0 : decide (x6_1 < (l0.length : Int)) = false := decide_eq_false c6
     clear c6
     (first | rw [c6b0] | (simp only [i64_w, i32_w]; rw [c6b0]) | skip)
     have H' := aM H
     clear H
     go_wp2
     go_meet
     case rel => exact ⟨_, (false), (by first | rfl | (simp; done) | (simp [*]; done)), H', ⟨by have := HK1.out; first | omega | exact Nat.le_refl _⟩, ⟨by (with_reducible repeat (first | apply rA | apply rN | apply rW)); exact HO_5.out⟩, ⟨by repeat (first | (with_reducible first | exact HB.out | apply lA | apply lN | apply lW) | exact HB.out)⟩⟩
   case rest =>
    clear HC5
    try clear c1
    try clear p2
    try clear c6
    try clear c6b0
    try clear p2
    obtain ⟨kq, x18_4, rfl, HA, HJ4, HO_5, HB⟩ := hcut
    cases kq with
    | zero => exact absurd HA.out (by simp [phaetonlaw12_Cut.j1])
    | succ kj4 =>
     have H := HA.out
     clear HA
     simp only [phaetonlaw12_Cut.j1] at H
     by_cases c7 : x18_4 = true
     ·subst c7
      have H1 : (if 0 ≤ x6_1 then (if x6_1 < (l0.length : Int) then (if (rd_T45 l0 x6_1).f2.f0 = true then (if (Go.bits .and .i64 ((rd_T45 l0 x6_1).f0) 3) = (Go.bits .and .i64 ((rd_T45 l0 x6_1).f1) 3) then (phaetonlaw12_Cut.l0 kj4 l0 a1 x5_1 (wrap64 (x6_1 + 1))) else (if x5_1.length < 2932031007402 then (phaetonlaw12_Cut.l0 kj4 l0 a1 (x5_1 ++ [(⟨Go.bits .and .i64 ((rd_T45 l0 x6_1).f0) 3, Go.bits .and .i64 ((rd_T45 l0 x6_1).f1) 3, (⟨(rd_T45 l0 x6_1).f2.f0, Go.bits .and .i64 ((rd_T45 l0 x6_1).f2.f1) 536870911, Go.bits .and .i64 ((rd_T45 l0 x6_1).f2.f2) (Go.bits .and .i64 ((rd_T45 l0 x6_1).f2.f1) 536870911)⟩ : S43), mx (-1) (mn ((rd_T45 l0 x6_1).f3) 536870911)⟩ : S45)]) (wrap64 (x6_1 + 1))) else (none))) else (if (Go.bits .and .i64 ((rd_T45 l0 x6_1).f0) 3) = (Go.bits .and .i64 ((rd_T45 l0 x6_1).f1) 3) then (phaetonlaw12_Cut.l0 kj4 l0 a1 x5_1 (wrap64 (x6_1 + 1))) else (if x5_1.length < 2932031007402 then (phaetonlaw12_Cut.l0 kj4 l0 a1 (x5_1 ++ [(⟨Go.bits .and .i64 ((rd_T45 l0 x6_1).f0) 3, Go.bits .and .i64 ((rd_T45 l0 x6_1).f1) 3, (⟨(rd_T45 l0 x6_1).f2.f0, Go.bits .and .i64 ((rd_T45 l0 x6_1).f2.f1) 2047, Go.bits .and .i64 ((rd_T45 l0 x6_1).f2.f2) (Go.bits .and .i64 ((rd_T45 l0 x6_1).f2.f1) 2047)⟩ : S43), mx (-1) (mn ((rd_T45 l0 x6_1).f3) 2047)⟩ : S45)]) (wrap64 (x6_1 + 1))) else (none)))) else (none)) else (none)) = some r := by rw [if_pos rfl] at H; exact H
      clear H
      have H := H1
      clear H1
      by_cases c8 : 0 ≤ x6_1
      ·rw [if_pos c8] at H
       have c8b0 : decide (0 ≤ x6_1) = true := decide_eq_true c8
       clear c8
       by_cases c9 : x6_1 < (l0.length : Int)
       ·rw [if_pos c9] at H
        have c9b0 : decide (x6_1 < (l0.length : Int)) = true := decide_eq_true c9
        clear c9
        obtain ⟨bq10, hbq10⟩ : ∃ b_ : Bool, b_ = ((rd_T45 l0 x6_1).f2.f0) := ⟨_, rfl⟩
        replace H : (if bq10 = true then (if (Go.bits .and .i64 ((rd_T45 l0 x6_1).f0) 3) = (Go.bits .and .i64 ((rd_T45 l0 x6_1).f1) 3) then (phaetonlaw12_Cut.l0 kj4 l0 a1 x5_1 (wrap64 (x6_1 + 1))) else (if x5_1.length < 2932031007402 then (phaetonlaw12_Cut.l0 kj4 l0 a1 (x5_1 ++ [(⟨Go.bits .and .i64 ((rd_T45 l0 x6_1).f0) 3, Go.bits .and .i64 ((rd_T45 l0 x6_1).f1) 3, (⟨bq10, Go.bits .and .i64 ((rd_T45 l0 x6_1).f2.f1) 536870911, Go.bits .and .i64 ((rd_T45 l0 x6_1).f2.f2) (Go.bits .and .i64 ((rd_T45 l0 x6_1).f2.f1) 536870911)⟩ : S43), mx (-1) (mn ((rd_T45 l0 x6_1).f3) 536870911)⟩ : S45)]) (wrap64 (x6_1 + 1))) else (none))) else (if (Go.bits .and .i64 ((rd_T45 l0 x6_1).f0) 3) = (Go.bits .and .i64 ((rd_T45 l0 x6_1).f1) 3) then (phaetonlaw12_Cut.l0 kj4 l0 a1 x5_1 (wrap64 (x6_1 + 1))) else (if x5_1.length < 2932031007402 then (phaetonlaw12_Cut.l0 kj4 l0 a1 (x5_1 ++ [(⟨Go.bits .and .i64 ((rd_T45 l0 x6_1).f0) 3, Go.bits .and .i64 ((rd_T45 l0 x6_1).f1) 3, (⟨bq10, Go.bits .and .i64 ((rd_T45 l0 x6_1).f2.f1) 2047, Go.bits .and .i64 ((rd_T45 l0 x6_1).f2.f2) (Go.bits .and .i64 ((rd_T45 l0 x6_1).f2.f1) 2047)⟩ : S43), mx (-1) (mn ((rd_T45 l0 x6_1).f3) 2047)⟩ : S45)]) (wrap64 (x6_1 + 1))) else (none)))) = some r := by rw [← hbq10] at H; exact H
        have Nbq10 := aM hbq10
        clear hbq10
        by_cases c11 : bq10 = true
        ·subst c11
         have H1 : (if (Go.bits .and .i64 ((rd_T45 l0 x6_1).f0) 3) = (Go.bits .and .i64 ((rd_T45 l0 x6_1).f1) 3) then (phaetonlaw12_Cut.l0 kj4 l0 a1 x5_1 (wrap64 (x6_1 + 1))) else (if x5_1.length < 2932031007402 then (phaetonlaw12_Cut.l0 kj4 l0 a1 (x5_1 ++ [(⟨Go.bits .and .i64 ((rd_T45 l0 x6_1).f0) 3, Go.bits .and .i64 ((rd_T45 l0 x6_1).f1) 3, (⟨true, Go.bits .and .i64 ((rd_T45 l0 x6_1).f2.f1) 536870911, Go.bits .and .i64 ((rd_T45 l0 x6_1).f2.f2) (Go.bits .and .i64 ((rd_T45 l0 x6_1).f2.f1) 536870911)⟩ : S43), mx (-1) (mn ((rd_T45 l0 x6_1).f3) 536870911)⟩ : S45)]) (wrap64 (x6_1 + 1))) else (none))) = some r := by rw [if_pos rfl] at H; exact H
         clear H
         have H := H1
         clear H1
         obtain ⟨ji12, hji12⟩ : ∃ j_ : Int, (mn ((rd_T45 l0 x6_1).f3) 536870911) = j_ := ⟨_, rfl⟩
         replace H : (if (Go.bits .and .i64 ((rd_T45 l0 x6_1).f0) 3) = (Go.bits .and .i64 ((rd_T45 l0 x6_1).f1) 3) then (phaetonlaw12_Cut.l0 kj4 l0 a1 x5_1 (wrap64 (x6_1 + 1))) else (if x5_1.length < 2932031007402 then (phaetonlaw12_Cut.l0 kj4 l0 a1 (x5_1 ++ [(⟨Go.bits .and .i64 ((rd_T45 l0 x6_1).f0) 3, Go.bits .and .i64 ((rd_T45 l0 x6_1).f1) 3, (⟨true, Go.bits .and .i64 ((rd_T45 l0 x6_1).f2.f1) 536870911, Go.bits .and .i64 ((rd_T45 l0 x6_1).f2.f2) (Go.bits .and .i64 ((rd_T45 l0 x6_1).f2.f1) 536870911)⟩ : S43), mx (-1) (ji12)⟩ : S45)]) (wrap64 (x6_1 + 1))) else (none))) = some r := by first | (rw [hji12] at H; exact H) | (simp only [hji12] at H ⊢; exact H)
         have hji12_ : (if 536870911 < ((rd_T45 l0 x6_1).f3) then 536870911 else ((rd_T45 l0 x6_1).f3)) = ji12 := hji12
         obtain ⟨ji13, hji13⟩ : ∃ j_ : Int, (mx (-1) (ji12)) = j_ := ⟨_, rfl⟩
         replace H : (if (Go.bits .and .i64 ((rd_T45 l0 x6_1).f0) 3) = (Go.bits .and .i64 ((rd_T45 l0 x6_1).f1) 3) then (phaetonlaw12_Cut.l0 kj4 l0 a1 x5_1 (wrap64 (x6_1 + 1))) else (if x5_1.length < 2932031007402 then (phaetonlaw12_Cut.l0 kj4 l0 a1 (x5_1 ++ [(⟨Go.bits .and .i64 ((rd_T45 l0 x6_1).f0) 3, Go.bits .and .i64 ((rd_T45 l0 x6_1).f1) 3, (⟨true, Go.bits .and .i64 ((rd_T45 l0 x6_1).f2.f1) 536870911, Go.bits .and .i64 ((rd_T45 l0 x6_1).f2.f2) (Go.bits .and .i64 ((rd_T45 l0 x6_1).f2.f1) 536870911)⟩ : S43), ji13⟩ : S45)]) (wrap64 (x6_1 + 1))) else (none))) = some r := by first | (rw [hji13] at H; exact H) | (simp only [hji13] at H ⊢; exact H)
         have hji13_ : (if (-1) < (ji12) then (ji12) else (-1)) = ji13 := hji13
         by_cases c14 : (Go.bits .and .i64 ((rd_T45 l0 x6_1).f0) 3) = (Go.bits .and .i64 ((rd_T45 l0 x6_1).f1) 3)
         ·rw [if_pos c14] at H
          have c14b0 : ((Go.bits .and .i64 ((rd_T45 l0 x6_1).f0) 3) == (Go.bits .and .i64 ((rd_T45 l0 x6_1).f1) 3)) = true := beq_iff_eq.mpr c14
          have c14b1 : ((Go.bits .and .i64 ((rd_T45 l0 x6_1).f0) 3) != (Go.bits .and .i64 ((rd_T45 l0 x6_1).f1) 3)) = false := bne_eq_false_iff_eq.mpr c14
          clear c14
          have H' := aM H
          clear H
          have p184 : 0 ≤ (x6_1 : Int) := oD (by first | (with_reducible assumption) | assumption)
          have q184 : x6_1 < (l0.length : Int) := oD (by first | (with_reducible assumption) | assumption)
          obtain ⟨ad184, e184, hx184_0, hx184_1, hx184_2, hx184_3, hx184_4, hx184_5⟩ := at_T45 HR0.out x6_1 p184 q184
          (try rw [← Nbq10.out] at hx184_2)
          cases e184
          replace hx184_0 := (HB.out.cell (wl w _ hx184_0)).trans hx184_0
          replace hx184_1 := (HB.out.cell (wl w _ hx184_1)).trans hx184_1
          replace hx184_2 := (HB.out.cell (wl w _ hx184_2)).trans hx184_2
          replace hx184_3 := (HB.out.cell (wl w _ hx184_3)).trans hx184_3
          replace hx184_4 := (HB.out.cell (wl w _ hx184_4)).trans hx184_4
          replace hx184_5 := (HB.out.cell (wl w _ hx184_5)).trans hx184_5
          replace p184 := eq_true p184
          replace q184 := eq_true q184
          go_wp2
          go_roundg kj4
          case measure => have := HK1.out; have := HJ4.out; omega
          case rel => exact ⟨(x5_1), (wrap64 (x6_1 + 1)), (by first | rfl | (simp; done) | (simp [*]; done)), H', ⟨by have := HK1.out; have := HJ4.out; omega⟩, ⟨by (with_reducible repeat (first | apply rA | apply rN | apply rW)); exact HO_5.out⟩, ⟨by repeat (first | (with_reducible first | exact HB.out | apply lA | apply lN | apply lW) | exact HB.out)⟩⟩
         ·rw [if_neg c14] at H
          have c14b0 : ((Go.bits .and .i64 ((rd_T45 l0 x6_1).f0) 3) == (Go.bits .and .i64 ((rd_T45 l0 x6_1).f1) 3)) = false := nF c14
          have c14b1 : ((Go.bits .and .i64 ((rd_T45 l0 x6_1).f0) 3) != (Go.bits .and .i64 ((rd_T45 l0 x6_1).f1) 3)) = true := nT c14
          by_cases c15 : x5_1.length < 2932031007402
          ·rw [if_pos c15] at H
           have LMc15 := aM c15
           clear c15
           obtain ⟨y185, hy185⟩ : ∃ y_ : List (S45), y_ = (x5_1 ++ [(⟨Go.bits .and .i64 ((rd_T45 l0 x6_1).f0) 3, Go.bits .and .i64 ((rd_T45 l0 x6_1).f1) 3, (⟨true, Go.bits .and .i64 ((rd_T45 l0 x6_1).f2.f1) 536870911, Go.bits .and .i64 ((rd_T45 l0 x6_1).f2.f2) (Go.bits .and .i64 ((rd_T45 l0 x6_1).f2.f1) 536870911)⟩ : S43), ji13⟩ : S45)]) := ⟨_, rfl⟩
           replace H : (phaetonlaw12_Cut.l0 kj4 l0 a1 y185 (wrap64 (x6_1 + 1))) = some r := by first | (rw [hy185]; with_reducible exact H) | (have H2_ := (Option.bind_some _ _).symm.trans H; rw [hy185]; with_reducible exact H2_) | (have H2_ := (Option.bind_some _ _).symm.trans H; with_reducible exact H2_) | with_reducible exact H | (rw [hy185]; exact H) | exact H
           have Ny185 := aM hy185
           clear hy185
           have H' := aM H
           clear H
           have p184 : 0 ≤ (x6_1 : Int) := oD (by first | (with_reducible assumption) | assumption)
           have q184 : x6_1 < (l0.length : Int) := oD (by first | (with_reducible assumption) | assumption)
           obtain ⟨ad184, e184, hx184_0, hx184_1, hx184_2, hx184_3, hx184_4, hx184_5⟩ := at_T45 HR0.out x6_1 p184 q184
           (try rw [← Nbq10.out] at hx184_2)
           cases e184
           replace hx184_0 := (HB.out.cell (wl w _ hx184_0)).trans hx184_0
           replace hx184_1 := (HB.out.cell (wl w _ hx184_1)).trans hx184_1
           replace hx184_2 := (HB.out.cell (wl w _ hx184_2)).trans hx184_2
           replace hx184_3 := (HB.out.cell (wl w _ hx184_3)).trans hx184_3
           replace hx184_4 := (HB.out.cell (wl w _ hx184_4)).trans hx184_4
           replace hx184_5 := (HB.out.cell (wl w _ hx184_5)).trans hx184_5
           replace p184 := eq_true p184
           replace q184 := eq_true q184
           go_wp2_with (first | ((with_reducible refine gate_builtin (b := .append) (xs := #[.tmp 63, .tmp 65]) rfl ?_); at_builtin; refine Kd.R_append k45 (w0 := w) w.heap.size rfl (.tmp 63) (.tmp 65) 22 45 (.agg #[(.int .i64 0), (.int .i64 0), (.bool false), (.int .i64 0), (.int .i64 0), (.int .i64 0)]) 48 rfl Try.underlying22 info45 rfl (by decide) (by omega) u5 x5_1 (⟨Go.bits .and .i64 ((rd_T45 l0 x6_1).f0) 3, Go.bits .and .i64 ((rd_T45 l0 x6_1).f1) 3, (⟨true, Go.bits .and .i64 ((rd_T45 l0 x6_1).f2.f1) 536870911, Go.bits .and .i64 ((rd_T45 l0 x6_1).f2.f2) (Go.bits .and .i64 ((rd_T45 l0 x6_1).f2.f1) 536870911)⟩ : S43), ji13⟩ : S45) [.int .i64 (Go.bits .and .i64 ((rd_T45 l0 x6_1).f0) 3), .int .i64 (Go.bits .and .i64 ((rd_T45 l0 x6_1).f1) 3), .bool true, .int .i64 (Go.bits .and .i64 ((rd_T45 l0 x6_1).f2.f1) 536870911), .int .i64 (Go.bits .and .i64 ((rd_T45 l0 x6_1).f2.f2) (Go.bits .and .i64 ((rd_T45 l0 x6_1).f2.f1) 536870911)), .int .i64 ji13] (fun _ => True) (fun _ => False) rfl (by first | rfl | (go_simp; done) | (go_simp; rfl)) ?aP (fun _ hk => hk.elim) ?aF ?aO ?aB ?aS ?aL ?_; (case aP => exact k45_mkM _ _ _ (⟨Go.bits .and .i64 ((rd_T45 l0 x6_1).f0) 3, Go.bits .and .i64 ((rd_T45 l0 x6_1).f1) 3, (⟨true, Go.bits .and .i64 ((rd_T45 l0 x6_1).f2.f1) 536870911, Go.bits .and .i64 ((rd_T45 l0 x6_1).f2.f2) (Go.bits .and .i64 ((rd_T45 l0 x6_1).f2.f1) 536870911)⟩ : S43), ji13⟩ : S45)); (case aB => exact (by repeat (first | (with_reducible first | exact HB.out | apply lA | apply lN | apply lW) | exact HB.out))); (case aF => exact (fun _ _ => trivial)); (case aO => exact (by (with_reducible repeat (first | apply rA | apply rN | apply rW)); exact HO_5.out)); (case aS => exact (lZ (by repeat (first | (with_reducible first | exact HB.out | apply lA | apply lN | apply lW) | exact HB.out)))); (case aL => have := LMc15.out; omega); intro v186 w16 ho hb hg hat; rw [← Ny185.out] at ho; have n0_ := aM (hb); have n1_ := aM (ho); clear HB; clear HO_5; have HB := n0_; have HO187 := n1_; clear n0_ n1_; clear ho hb hg hat))
           go_roundg kj4
           case measure => have := HK1.out; have := HJ4.out; omega
           case rel => exact ⟨(y185), (wrap64 (x6_1 + 1)), (by first | rfl | (simp; done) | (simp [*]; done)), H', ⟨by have := HK1.out; have := HJ4.out; omega⟩, ⟨by (with_reducible repeat (first | apply rA | apply rN | apply rW)); exact HO187.out⟩, ⟨by repeat (first | (with_reducible first | exact HB.out | apply lA | apply lN | apply lW) | exact HB.out)⟩⟩
          ·rw [if_neg c15] at H
           exact absurd H (by simp)
        ·replace c11 := Bool.eq_false_iff.mpr c11
         subst c11
         have H1 : (if (Go.bits .and .i64 ((rd_T45 l0 x6_1).f0) 3) = (Go.bits .and .i64 ((rd_T45 l0 x6_1).f1) 3) then (phaetonlaw12_Cut.l0 kj4 l0 a1 x5_1 (wrap64 (x6_1 + 1))) else (if x5_1.length < 2932031007402 then (phaetonlaw12_Cut.l0 kj4 l0 a1 (x5_1 ++ [(⟨Go.bits .and .i64 ((rd_T45 l0 x6_1).f0) 3, Go.bits .and .i64 ((rd_T45 l0 x6_1).f1) 3, (⟨false, Go.bits .and .i64 ((rd_T45 l0 x6_1).f2.f1) 2047, Go.bits .and .i64 ((rd_T45 l0 x6_1).f2.f2) (Go.bits .and .i64 ((rd_T45 l0 x6_1).f2.f1) 2047)⟩ : S43), mx (-1) (mn ((rd_T45 l0 x6_1).f3) 2047)⟩ : S45)]) (wrap64 (x6_1 + 1))) else (none))) = some r := by rw [if_neg (show ¬ (false = true) by decide)] at H; exact H
         clear H
         have H := H1
         clear H1
         obtain ⟨ji17, hji17⟩ : ∃ j_ : Int, (mn ((rd_T45 l0 x6_1).f3) 2047) = j_ := ⟨_, rfl⟩
         replace H : (if (Go.bits .and .i64 ((rd_T45 l0 x6_1).f0) 3) = (Go.bits .and .i64 ((rd_T45 l0 x6_1).f1) 3) then (phaetonlaw12_Cut.l0 kj4 l0 a1 x5_1 (wrap64 (x6_1 + 1))) else (if x5_1.length < 2932031007402 then (phaetonlaw12_Cut.l0 kj4 l0 a1 (x5_1 ++ [(⟨Go.bits .and .i64 ((rd_T45 l0 x6_1).f0) 3, Go.bits .and .i64 ((rd_T45 l0 x6_1).f1) 3, (⟨false, Go.bits .and .i64 ((rd_T45 l0 x6_1).f2.f1) 2047, Go.bits .and .i64 ((rd_T45 l0 x6_1).f2.f2) (Go.bits .and .i64 ((rd_T45 l0 x6_1).f2.f1) 2047)⟩ : S43), mx (-1) (ji17)⟩ : S45)]) (wrap64 (x6_1 + 1))) else (none))) = some r := by first | (rw [hji17] at H; exact H) | (simp only [hji17] at H ⊢; exact H)
         have hji17_ : (if 2047 < ((rd_T45 l0 x6_1).f3) then 2047 else ((rd_T45 l0 x6_1).f3)) = ji17 := hji17
         obtain ⟨ji18, hji18⟩ : ∃ j_ : Int, (mx (-1) (ji17)) = j_ := ⟨_, rfl⟩
         replace H : (if (Go.bits .and .i64 ((rd_T45 l0 x6_1).f0) 3) = (Go.bits .and .i64 ((rd_T45 l0 x6_1).f1) 3) then (phaetonlaw12_Cut.l0 kj4 l0 a1 x5_1 (wrap64 (x6_1 + 1))) else (if x5_1.length < 2932031007402 then (phaetonlaw12_Cut.l0 kj4 l0 a1 (x5_1 ++ [(⟨Go.bits .and .i64 ((rd_T45 l0 x6_1).f0) 3, Go.bits .and .i64 ((rd_T45 l0 x6_1).f1) 3, (⟨false, Go.bits .and .i64 ((rd_T45 l0 x6_1).f2.f1) 2047, Go.bits .and .i64 ((rd_T45 l0 x6_1).f2.f2) (Go.bits .and .i64 ((rd_T45 l0 x6_1).f2.f1) 2047)⟩ : S43), ji18⟩ : S45)]) (wrap64 (x6_1 + 1))) else (none))) = some r := by first | (rw [hji18] at H; exact H) | (simp only [hji18] at H ⊢; exact H)
         have hji18_ : (if (-1) < (ji17) then (ji17) else (-1)) = ji18 := hji18
         by_cases c19 : (Go.bits .and .i64 ((rd_T45 l0 x6_1).f0) 3) = (Go.bits .and .i64 ((rd_T45 l0 x6_1).f1) 3)
         ·rw [if_pos c19] at H
          have c19b0 : ((Go.bits .and .i64 ((rd_T45 l0 x6_1).f0) 3) == (Go.bits .and .i64 ((rd_T45 l0 x6_1).f1) 3)) = true := beq_iff_eq.mpr c19
          have c19b1 : ((Go.bits .and .i64 ((rd_T45 l0 x6_1).f0) 3) != (Go.bits .and .i64 ((rd_T45 l0 x6_1).f1) 3)) = false := bne_eq_false_iff_eq.mpr c19
          clear c19
          have H' := aM H
          clear H
          have p184 : 0 ≤ (x6_1 : Int) := oD (by first | (with_reducible assumption) | assumption)
          have q184 : x6_1 < (l0.length : Int) := oD (by first | (with_reducible assumption) | assumption)
          obtain ⟨ad184, e184, hx184_0, hx184_1, hx184_2, hx184_3, hx184_4, hx184_5⟩ := at_T45 HR0.out x6_1 p184 q184
          (try rw [← Nbq10.out] at hx184_2)
          cases e184
          replace hx184_0 := (HB.out.cell (wl w _ hx184_0)).trans hx184_0
          replace hx184_1 := (HB.out.cell (wl w _ hx184_1)).trans hx184_1
          replace hx184_2 := (HB.out.cell (wl w _ hx184_2)).trans hx184_2
          replace hx184_3 := (HB.out.cell (wl w _ hx184_3)).trans hx184_3
          replace hx184_4 := (HB.out.cell (wl w _ hx184_4)).trans hx184_4
          replace hx184_5 := (HB.out.cell (wl w _ hx184_5)).trans hx184_5
          replace p184 := eq_true p184
          replace q184 := eq_true q184
          go_wp2
          go_roundg kj4
          case measure => have := HK1.out; have := HJ4.out; omega
          case rel => exact ⟨(x5_1), (wrap64 (x6_1 + 1)), (by first | rfl | (simp; done) | (simp [*]; done)), H', ⟨by have := HK1.out; have := HJ4.out; omega⟩, ⟨by (with_reducible repeat (first | apply rA | apply rN | apply rW)); exact HO_5.out⟩, ⟨by repeat (first | (with_reducible first | exact HB.out | apply lA | apply lN | apply lW) | exact HB.out)⟩⟩
         ·rw [if_neg c19] at H
          have c19b0 : ((Go.bits .and .i64 ((rd_T45 l0 x6_1).f0) 3) == (Go.bits .and .i64 ((rd_T45 l0 x6_1).f1) 3)) = false := nF c19
          have c19b1 : ((Go.bits .and .i64 ((rd_T45 l0 x6_1).f0) 3) != (Go.bits .and .i64 ((rd_T45 l0 x6_1).f1) 3)) = true := nT c19
          by_cases c20 : x5_1.length < 2932031007402
          ·rw [if_pos c20] at H
           have LMc20 := aM c20
           clear c20
           obtain ⟨y188, hy188⟩ : ∃ y_ : List (S45), y_ = (x5_1 ++ [(⟨Go.bits .and .i64 ((rd_T45 l0 x6_1).f0) 3, Go.bits .and .i64 ((rd_T45 l0 x6_1).f1) 3, (⟨false, Go.bits .and .i64 ((rd_T45 l0 x6_1).f2.f1) 2047, Go.bits .and .i64 ((rd_T45 l0 x6_1).f2.f2) (Go.bits .and .i64 ((rd_T45 l0 x6_1).f2.f1) 2047)⟩ : S43), ji18⟩ : S45)]) := ⟨_, rfl⟩
           replace H : (phaetonlaw12_Cut.l0 kj4 l0 a1 y188 (wrap64 (x6_1 + 1))) = some r := by first | (rw [hy188]; with_reducible exact H) | (have H2_ := (Option.bind_some _ _).symm.trans H; rw [hy188]; with_reducible exact H2_) | (have H2_ := (Option.bind_some _ _).symm.trans H; with_reducible exact H2_) | with_reducible exact H | (rw [hy188]; exact H) | exact H
           have Ny188 := aM hy188
           clear hy188
           have H' := aM H
           clear H
           have p184 : 0 ≤ (x6_1 : Int) := oD (by first | (with_reducible assumption) | assumption)
           have q184 : x6_1 < (l0.length : Int) := oD (by first | (with_reducible assumption) | assumption)
           obtain ⟨ad184, e184, hx184_0, hx184_1, hx184_2, hx184_3, hx184_4, hx184_5⟩ := at_T45 HR0.out x6_1 p184 q184
           (try rw [← Nbq10.out] at hx184_2)
           cases e184
           replace hx184_0 := (HB.out.cell (wl w _ hx184_0)).trans hx184_0
           replace hx184_1 := (HB.out.cell (wl w _ hx184_1)).trans hx184_1
           replace hx184_2 := (HB.out.cell (wl w _ hx184_2)).trans hx184_2
           replace hx184_3 := (HB.out.cell (wl w _ hx184_3)).trans hx184_3
           replace hx184_4 := (HB.out.cell (wl w _ hx184_4)).trans hx184_4
           replace hx184_5 := (HB.out.cell (wl w _ hx184_5)).trans hx184_5
           replace p184 := eq_true p184
           replace q184 := eq_true q184
           go_wp2_with (first | ((with_reducible refine gate_builtin (b := .append) (xs := #[.tmp 63, .tmp 65]) rfl ?_); at_builtin; refine Kd.R_append k45 (w0 := w) w.heap.size rfl (.tmp 63) (.tmp 65) 22 45 (.agg #[(.int .i64 0), (.int .i64 0), (.bool false), (.int .i64 0), (.int .i64 0), (.int .i64 0)]) 48 rfl Try.underlying22 info45 rfl (by decide) (by omega) u5 x5_1 (⟨Go.bits .and .i64 ((rd_T45 l0 x6_1).f0) 3, Go.bits .and .i64 ((rd_T45 l0 x6_1).f1) 3, (⟨false, Go.bits .and .i64 ((rd_T45 l0 x6_1).f2.f1) 2047, Go.bits .and .i64 ((rd_T45 l0 x6_1).f2.f2) (Go.bits .and .i64 ((rd_T45 l0 x6_1).f2.f1) 2047)⟩ : S43), ji18⟩ : S45) [.int .i64 (Go.bits .and .i64 ((rd_T45 l0 x6_1).f0) 3), .int .i64 (Go.bits .and .i64 ((rd_T45 l0 x6_1).f1) 3), .bool false, .int .i64 (Go.bits .and .i64 ((rd_T45 l0 x6_1).f2.f1) 2047), .int .i64 (Go.bits .and .i64 ((rd_T45 l0 x6_1).f2.f2) (Go.bits .and .i64 ((rd_T45 l0 x6_1).f2.f1) 2047)), .int .i64 ji18] (fun _ => True) (fun _ => False) rfl (by first | rfl | (go_simp; done) | (go_simp; rfl)) ?aP (fun _ hk => hk.elim) ?aF ?aO ?aB ?aS ?aL ?_; (case aP => exact k45_mkM _ _ _ (⟨Go.bits .and .i64 ((rd_T45 l0 x6_1).f0) 3, Go.bits .and .i64 ((rd_T45 l0 x6_1).f1) 3, (⟨false, Go.bits .and .i64 ((rd_T45 l0 x6_1).f2.f1) 2047, Go.bits .and .i64 ((rd_T45 l0 x6_1).f2.f2) (Go.bits .and .i64 ((rd_T45 l0 x6_1).f2.f1) 2047)⟩ : S43), ji18⟩ : S45)); (case aB => exact (by repeat (first | (with_reducible first | exact HB.out | apply lA | apply lN | apply lW) | exact HB.out))); (case aF => exact (fun _ _ => trivial)); (case aO => exact (by (with_reducible repeat (first | apply rA | apply rN | apply rW)); exact HO_5.out)); (case aS => exact (lZ (by repeat (first | (with_reducible first | exact HB.out | apply lA | apply lN | apply lW) | exact HB.out)))); (case aL => have := LMc20.out; omega); intro v189 w21 ho hb hg hat; rw [← Ny188.out] at ho; have n0_ := aM (hb); have n1_ := aM (ho); clear HB; clear HO_5; have HB := n0_; have HO190 := n1_; clear n0_ n1_; clear ho hb hg hat))
           go_roundg kj4
           case measure => have := HK1.out; have := HJ4.out; omega
           case rel => exact ⟨(y188), (wrap64 (x6_1 + 1)), (by first | rfl | (simp; done) | (simp [*]; done)), H', ⟨by have := HK1.out; have := HJ4.out; omega⟩, ⟨by (with_reducible repeat (first | apply rA | apply rN | apply rW)); exact HO190.out⟩, ⟨by repeat (first | (with_reducible first | exact HB.out | apply lA | apply lN | apply lW) | exact HB.out)⟩⟩
          ·rw [if_neg c20] at H
           exact absurd H (by simp)
       ·rw [if_neg c9] at H
        exact absurd H (by simp)
      ·rw [if_neg c8] at H
       exact absurd H (by simp)
     ·replace c7 := Bool.eq_false_iff.mpr c7
      subst c7
      have H1 : (some x5_1) = some r := by rw [if_neg (show ¬ (false = true) by decide)] at H; exact H
      clear H
      have H := H1
      clear H1
      obtain rfl := Option.some.inj H
      go_wp2
      go_ret
      exact ⟨_, by first | rfl | (simp [errW_none, errW_some] <;> rfl) | (simp [*, errW_none, errW_some] <;> rfl), by (with_reducible repeat (first | apply rA | apply rN | apply rW)); exact HO_5.out, by repeat (first | (with_reducible first | exact HB.out | apply lA | apply lN | apply lW) | exact HB.out)⟩

end Go.Proofs.Ytpcabeefahldlaa.P

/- Go functions that the laws of this seat reach, each as a Lean function, and a proof that a call of the Go code comes to its answers; written by a program (the kit's print, turned in a few places). Conditions: each theorem's own premises. -/
import Derived.Test.YtcgkkjimonfhbaaPx0
import Derived.Test.YtcgkkjimonfhbaaPx3
import Derived.Test.YtcgkkjimonfhbaaGPlaces
import Derived.Test.YtcgkkjimonfhbaaGRight
namespace Go.Proofs.Ytcgkkjimonfhbaa.P
open Go.RowKit Go.Proofs.YtcgkkjimonfhbaaW.PrintWords Go.Proofs.YtcgkkjimonfhbaaW.PrintLast Go.Proofs.YtcgkkjimonfhbaaW.PrintMore
attribute [local go_sem] max2_int min2_int max_two min_two max_three min_three max_four min_four   -- for this text's walks alone
set_option linter.unusedVariables false
set_option linter.unusedSimpArgs false

/-! ### sig_Put: function 12 -/
mutual
def sig_Put.j0 : Nat → List Int → Int → Bool → Int → Int → Bool → Bool → Int → Int → Option (List Int × Bool)
 | 0, _, _, _, _, _, _, _, _, _ => none
 | k + 1, x0, x2, x22, x106000, x106001, x106002, x106003, x106004, x106005 => if x22 = true then (some (([] : List Int), false)) else ((some (([] : List Int) : List Int)).bind fun y108 => (if y108.length + x0.length < 140737488355328 then ((sig_Places.f x106000 x106001 x106002 x106003 x106004 x106005).bind fun t114 => (sig_Put.l0 k x2 (y108 ++ x0) t114 (t114.length : Int) 0)) else (none)))
def sig_Put.l0 : Nat → Int → List Int → List Int → Int → Int → Option (List Int × Bool)
 | 0, _, _, _, _, _ => none
 | k + 1, x2, x8, x26, x27, x28 => if x28 < x27 then (if 0 ≤ x28 then (if x28 < (x26.length : Int) then (if 0 ≤ (Int.tmod (rd x26 x28) 8) then (if 0 ≤ (wrap64 (Int.tdiv (rd x26 x28) 8)) then (if (wrap64 (Int.tdiv (rd x26 x28) 8)) < (x8.length : Int) then ((some (x8.set ((wrap64 (Int.tdiv (rd x26 x28) 8)) : Int).toNat (Go.bits .andNot .u8 (rd x8 (wrap64 (Int.tdiv (rd x26 x28) 8))) (shl .u8 1 (Int.tmod (rd x26 x28) 8))) : List Int)).bind fun y119 => (if (Go.bits .and .i64 (shr .i64 x2 x28) 1) = 1 then (sig_Put.l0 k x2 (y119.set ((wrap64 (Int.tdiv (rd x26 x28) 8)) : Int).toNat (Go.bits .or .u8 (rd y119 (wrap64 (Int.tdiv (rd x26 x28) 8))) (shl .u8 1 (Int.tmod (rd x26 x28) 8)))) x26 x27 (wrap64 (x28 + 1))) else (sig_Put.l0 k x2 y119 x26 x27 (wrap64 (x28 + 1))))) else (none)) else (none)) else (none)) else (none)) else (none)) else (some (x8, true))
end
def sig_Put.f (k : Nat) (l0 : List Int) (a1_0 : Int) (a1_1 : Int) (a1_2 : Bool) (a1_3 : Bool) (a1_4 : Int) (a1_5 : Int) (a2 : Int) : Option (List Int × Bool) := (sig_Right.f a1_0 a1_1 a1_2 a1_3 a1_4 a1_5 (l0.length : Int)).bind fun t106 => (if t106 = true then ((sig_fits.f a1_0 a1_1 a1_2 a1_3 a1_4 a1_5 a2).bind fun t107 => (sig_Put.j0 k l0 a2 (!t107) a1_0 a1_1 a1_2 a1_3 a1_4 a1_5)) else (sig_Put.j0 k l0 a2 true a1_0 a1_1 a1_2 a1_3 a1_4 a1_5))
theorem sig_Put.mono_l : ∀ k, (∀ y0 y1 y2 y3 y4 y5 y6 y7 y8, LeO (sig_Put.j0 k y0 y1 y2 y3 y4 y5 y6 y7 y8) (sig_Put.j0 (k + 1) y0 y1 y2 y3 y4 y5 y6 y7 y8)) ∧ (∀ y0 y1 y2 y3 y4, LeO (sig_Put.l0 k y0 y1 y2 y3 y4) (sig_Put.l0 (k + 1) y0 y1 y2 y3 y4))
 | 0 => ⟨fun _ _ _ _ _ _ _ _ _ r h => by simp [sig_Put.j0] at h, fun _ _ _ _ _ r h => by simp [sig_Put.l0] at h⟩
 | k + 1 => by
  obtain ⟨ih0, ih1⟩ := sig_Put.mono_l k
  refine ⟨?_, ?_⟩
  ·intro y0 y1 y2 y3 y4 y5 y6 y7 y8
   unfold sig_Put.j0
   repeat' first
   | (with_reducible exact ih0 _ _ _ _ _ _ _ _ _)
   | (with_reducible exact ih1 _ _ _ _ _)
   | (with_reducible exact LeO.refl _)
   | (with_reducible exact LeO.none _)
   | (with_reducible refine LeO.ite ?_ ?_)
   | (with_reducible refine LeO.bind ?_ (fun _ => ?_))
   | exact ih0 _ _ _ _ _ _ _ _ _
   | exact ih1 _ _ _ _ _
   | exact LeO.none _
   | refine LeO.ite ?_ ?_
   | refine LeO.bind ?_ (fun _ => ?_)
  ·intro y0 y1 y2 y3 y4
   unfold sig_Put.l0
   repeat' first
   | (with_reducible exact ih0 _ _ _ _ _ _ _ _ _)
   | (with_reducible exact ih1 _ _ _ _ _)
   | (with_reducible exact LeO.refl _)
   | (with_reducible exact LeO.none _)
   | (with_reducible refine LeO.ite ?_ ?_)
   | (with_reducible refine LeO.bind ?_ (fun _ => ?_))
   | exact ih0 _ _ _ _ _ _ _ _ _
   | exact ih1 _ _ _ _ _
   | exact LeO.none _
   | refine LeO.ite ?_ ?_
   | refine LeO.bind ?_ (fun _ => ?_)
theorem sig_Put.mono : ∀ a0 a1 a2 a3 a4 a5 a6 a7 k, LeO (sig_Put.f k a0 a1 a2 a3 a4 a5 a6 a7) (sig_Put.f (k + 1) a0 a1 a2 a3 a4 a5 a6 a7) := by
 intro a0 a1 a2 a3 a4 a5 a6 a7 k
 obtain ⟨ih0, ih1⟩ := sig_Put.mono_l k
 unfold sig_Put.f
 repeat' first
   | (with_reducible exact ih0 _ _ _ _ _ _ _ _ _)
   | (with_reducible exact ih1 _ _ _ _ _)
   | (with_reducible exact LeO.refl _)
   | (with_reducible exact LeO.none _)
   | (with_reducible refine LeO.ite ?_ ?_)
   | (with_reducible refine LeO.bind ?_ (fun _ => ?_))
   | exact ih0 _ _ _ _ _ _ _ _ _
   | exact ih1 _ _ _ _ _
   | exact LeO.none _
   | refine LeO.ite ?_ ?_
   | refine LeO.bind ?_ (fun _ => ?_)
set_option maxHeartbeats 8000000 in
set_option maxRecDepth 100000 in
theorem sig_Put.calls (k : Nat) (A0 : Option Addr) (c0 : Nat) (l0 : List Int) (a1_0 : Int) (a1_1 : Int) (a1_2 : Bool) (a1_3 : Bool) (a1_4 : Int) (a1_5 : Int) (a2 : Int) (r1 : List Int) (r2 : Bool) (w : World) (hr0 : Kd.C (Kd.int .u8) w A0 l0.length l0) (hc0 : l0.length ≤ c0) (h : sig_Put.f k l0 a1_0 a1_1 a1_2 a1_3 a1_4 a1_5 a2 = some (r1, r2)) :
  Calls Try.prog 12 #[.slice A0 l0.length c0, .agg #[.int .i64 a1_0, .int .i64 a1_1, .bool a1_2, .bool a1_3, .int .i64 a1_4, .int .i64 a1_5], .int .i64 a2] w fun e w' => ∃ v0_ : Value, e = .returned (.tuple #[v0_, .bool r2]) ∧ Kd.R (Kd.int .u8) 5 w' w.heap.size (fun _ => True) v0_ r1 ∧ Below w.heap.size w w' := by
 have hu23 := Try.underlying23
 have HR0 := aM hr0
 have HC0 := aM hc0
 clear hr0 hc0
 have HB := aM (Below.refl w.heap.size w)
 have H : ((sig_Right.f a1_0 a1_1 a1_2 a1_3 a1_4 a1_5 (l0.length : Int)).bind fun t106 => (if t106 = true then ((sig_fits.f a1_0 a1_1 a1_2 a1_3 a1_4 a1_5 a2).bind fun t107 => (sig_Put.j0 k l0 a2 (!t107) a1_0 a1_1 a1_2 a1_3 a1_4 a1_5)) else (sig_Put.j0 k l0 a2 true a1_0 a1_1 a1_2 a1_3 a1_4 a1_5))) = some (r1, r2) := h
 clear h
 have HC4 := aM H
 clear H
 go_enter Try.func12, Try.ntmps12
 go_upto_region 1 with (first | ((with_reducible refine gate_dst (N := 4) rfl ?_); refine box_event ?hg (N := 4) ?hd (cs := #[.int .i64 a1_0, .int .i64 a1_1, .bool a1_2, .bool a1_3, .int .i64 a1_4, .int .i64 a1_5]) (t := 23) ?hr ?_; (case hd => rfl); (case hg => rfl); (case hr => first | (go_simp; done) | (go_simp; rfl)); intro gb105 hg w5 hbox hb; have n0_ := aM (lT (by repeat (first | (with_reducible first | exact HB.out | apply lA | apply lN | apply lW) | exact HB.out)) hb); have n1_ := aM (hbox); have n2_ := aM ((by rw [hg]; exact (lZ (by repeat (first | (with_reducible first | exact HB.out | apply lA | apply lN | apply lW) | exact HB.out))) : w.heap.size ≤ gb105)); have n3_ := aM ((by rw [hg]; exact (lZ (by repeat (first | (with_reducible first | exact HB.out | apply lA | apply lN | apply lW) | exact HB.out))) : w.heap.size ≤ gb105)); clear HB; have HB := n0_; have BK105 := n1_; have GW105 := n2_; have GE105 := n3_; clear n0_ n1_ n2_ n3_; clear hb hbox hg))
 (try simp only [Act.put, sT, sZ, sS])
 go_cut [22] (fun v22 wc => ∃ (kq : Nat) (x22_3 : Bool), v22 = .bool x22_3 ∧ Aside0 (sig_Put.j0 kq l0 a2 x22_3 a1_0 a1_1 a1_2 a1_3 a1_4 a1_5 = some (r1, r2)) ∧ Aside0 (kq ≤ k) ∧ Aside0 (wc.heap[gb105]? = some (.cells #[.int .i64 a1_0, .int .i64 a1_1, .bool a1_2, .bool a1_3, .int .i64 a1_4, .int .i64 a1_5] 23 (0, 0))) ∧ Aside0 (Below w.heap.size w wc))
 case first =>
  have H := HC4.out
  clear HC4
  replace H := Option.bind_eq_some_iff.mp H
  obtain ⟨t106, A60, H⟩ := H
  replace H : (if t106 = true then ((sig_fits.f a1_0 a1_1 a1_2 a1_3 a1_4 a1_5 a2).bind fun t107 => (sig_Put.j0 k l0 a2 (!t107) a1_0 a1_1 a1_2 a1_3 a1_4 a1_5)) else (sig_Put.j0 k l0 a2 true a1_0 a1_1 a1_2 a1_3 a1_4 a1_5)) = some (r1, r2) := H
  have A6 := aM A60
  clear A60
  by_cases c7 : t106 = true
  ·subst c7
   have H1 : ((sig_fits.f a1_0 a1_1 a1_2 a1_3 a1_4 a1_5 a2).bind fun t107 => (sig_Put.j0 k l0 a2 (!t107) a1_0 a1_1 a1_2 a1_3 a1_4 a1_5)) = some (r1, r2) := by rw [if_pos rfl] at H; exact H
   clear H
   have H := H1
   clear H1
   replace H := Option.bind_eq_some_iff.mp H
   obtain ⟨t107, A80, H⟩ := H
   replace H : (sig_Put.j0 k l0 a2 (!t107) a1_0 a1_1 a1_2 a1_3 a1_4 a1_5) = some (r1, r2) := H
   have A8 := aM A80
   clear A80
   have H' := aM H
   clear H
   have hcz9_0 : w5.cell? ⟨gb105, 0, none⟩ = some (.int .i64 a1_0) := (bC BK105.out 0).trans rfl
   have hcz9_1 : w5.cell? ⟨gb105, 1, none⟩ = some (.int .i64 a1_1) := (bC BK105.out 1).trans rfl
   have hcz9_2 : w5.cell? ⟨gb105, 2, none⟩ = some (.bool a1_2) := (bC BK105.out 2).trans rfl
   have hcz9_3 : w5.cell? ⟨gb105, 3, none⟩ = some (.bool a1_3) := (bC BK105.out 3).trans rfl
   have hcz9_4 : w5.cell? ⟨gb105, 4, none⟩ = some (.int .i64 a1_4) := (bC BK105.out 4).trans rfl
   have hcz9_5 : w5.cell? ⟨gb105, 5, none⟩ = some (.int .i64 a1_5) := (bC BK105.out 5).trans rfl
   have hfz9_0 := bF BK105.out 0
   have hfz9_1 := bF BK105.out 1
   have hfz9_2 := bF BK105.out 2
   have hfz9_3 := bF BK105.out 3
   have hfz9_4 := bF BK105.out 4
   have hfz9_5 := bF BK105.out 5
   go_wp2_with (first | ((with_reducible refine gate_callee (f := 16) rfl ?_); refine goesL_ (some 15) rfl rfl Try.func16 (by kernel_rfl) rfl #[.agg #[.int .i64 a1_0, .int .i64 a1_1, .bool a1_2, .bool a1_3, .int .i64 a1_4, .int .i64 a1_5], .int .i64 (l0.length : Int)] rfl (by (try simp only [List.map_toArray, List.map_cons, List.map_nil]); first | done | rfl | (simp only [List.length_drop, List.length_take]; rfl)) ?_; (with_reducible refine (sig_Right.calls a1_0 a1_1 a1_2 a1_3 a1_4 a1_5 (l0.length : Int) true _ A6.out).mono ?_); rintro e w10 ⟨rfl, hb⟩; refine ⟨_, rfl, ?_⟩; have n0_ := aM (blk_below (g := gb105) (o := .cells #[.int .i64 a1_0, .int .i64 a1_1, .bool a1_2, .bool a1_3, .int .i64 a1_4, .int .i64 a1_5] 23 (0, 0)) (by (with_reducible repeat (first | refine bN ?_ _ | refine bW ?_ | refine bA ?_ _)); exact BK105.out) hb); have n1_ := aM (lT (by repeat (first | (with_reducible first | exact HB.out | apply lA | apply lN | apply lW | refine lS ?_ GE105.out) | exact HB.out)) hb); clear BK105; clear HB; have BK105 := n0_; have HB := n1_; clear n0_ n1_; (try clear hb); (try clear hb2); (try clear hk); (try clear hi); have hcz11_0 : w10.cell? ⟨gb105, 0, none⟩ = some (.int .i64 a1_0) := (bC BK105.out 0).trans rfl; have hcz11_1 : w10.cell? ⟨gb105, 1, none⟩ = some (.int .i64 a1_1) := (bC BK105.out 1).trans rfl; have hcz11_2 : w10.cell? ⟨gb105, 2, none⟩ = some (.bool a1_2) := (bC BK105.out 2).trans rfl; have hcz11_3 : w10.cell? ⟨gb105, 3, none⟩ = some (.bool a1_3) := (bC BK105.out 3).trans rfl; have hcz11_4 : w10.cell? ⟨gb105, 4, none⟩ = some (.int .i64 a1_4) := (bC BK105.out 4).trans rfl; have hcz11_5 : w10.cell? ⟨gb105, 5, none⟩ = some (.int .i64 a1_5) := (bC BK105.out 5).trans rfl; have hfz11_0 := bF BK105.out 0; have hfz11_1 := bF BK105.out 1; have hfz11_2 := bF BK105.out 2; have hfz11_3 := bF BK105.out 3; have hfz11_4 := bF BK105.out 4; have hfz11_5 := bF BK105.out 5) | (go_at_call 29; (with_reducible refine (sig_fits.calls a1_0 a1_1 a1_2 a1_3 a1_4 a1_5 a2 t107 _ A8.out).mono ?_); rintro e w12 ⟨rfl, hb⟩; have n0_ := aM (blk_below (g := gb105) (o := .cells #[.int .i64 a1_0, .int .i64 a1_1, .bool a1_2, .bool a1_3, .int .i64 a1_4, .int .i64 a1_5] 23 (0, 0)) (by (with_reducible repeat (first | refine bN ?_ _ | refine bW ?_ | refine bA ?_ _)); exact BK105.out) hb); have n1_ := aM (lT (by repeat (first | (with_reducible first | exact HB.out | apply lA | apply lN | apply lW | refine lS ?_ GE105.out) | exact HB.out)) hb); clear BK105; clear HB; have BK105 := n0_; have HB := n1_; clear n0_ n1_; (try clear hb); (try clear hb2); (try clear hk); (try clear hi)))
   go_meet
   case rel => exact ⟨_, (!t107), (by first | rfl | (simp; done) | (simp [*]; done)), H', ⟨by first | omega | exact Nat.le_refl _⟩, ⟨by (with_reducible repeat (first | refine bN ?_ _ | refine bW ?_ | refine bA ?_ _)); exact BK105.out⟩, ⟨by repeat (first | (with_reducible first | exact HB.out | apply lA | apply lN | apply lW | refine lS ?_ GE105.out) | exact HB.out)⟩⟩
  ·replace c7 := Bool.eq_false_iff.mpr c7
   subst c7
   have H1 : (sig_Put.j0 k l0 a2 true a1_0 a1_1 a1_2 a1_3 a1_4 a1_5) = some (r1, r2) := by rw [if_neg (show ¬ (false = true) by decide)] at H; exact H
   clear H
   have H := H1
   clear H1
   have H' := aM H
   clear H
   have hcz13_0 : w5.cell? ⟨gb105, 0, none⟩ = some (.int .i64 a1_0) := (bC BK105.out 0).trans rfl
   have hcz13_1 : w5.cell? ⟨gb105, 1, none⟩ = some (.int .i64 a1_1) := (bC BK105.out 1).trans rfl
   have hcz13_2 : w5.cell? ⟨gb105, 2, none⟩ = some (.bool a1_2) := (bC BK105.out 2).trans rfl
   have hcz13_3 : w5.cell? ⟨gb105, 3, none⟩ = some (.bool a1_3) := (bC BK105.out 3).trans rfl
   have hcz13_4 : w5.cell? ⟨gb105, 4, none⟩ = some (.int .i64 a1_4) := (bC BK105.out 4).trans rfl
   have hcz13_5 : w5.cell? ⟨gb105, 5, none⟩ = some (.int .i64 a1_5) := (bC BK105.out 5).trans rfl
   have hfz13_0 := bF BK105.out 0
   have hfz13_1 := bF BK105.out 1
   have hfz13_2 := bF BK105.out 2
   have hfz13_3 := bF BK105.out 3
   have hfz13_4 := bF BK105.out 4
   have hfz13_5 := bF BK105.out 5
   go_wp2_with (first | ((with_reducible refine gate_callee (f := 16) rfl ?_); refine goesL_ (some 15) rfl rfl Try.func16 (by kernel_rfl) rfl #[.agg #[.int .i64 a1_0, .int .i64 a1_1, .bool a1_2, .bool a1_3, .int .i64 a1_4, .int .i64 a1_5], .int .i64 (l0.length : Int)] rfl (by (try simp only [List.map_toArray, List.map_cons, List.map_nil]); first | done | rfl | (simp only [List.length_drop, List.length_take]; rfl)) ?_; (with_reducible refine (sig_Right.calls a1_0 a1_1 a1_2 a1_3 a1_4 a1_5 (l0.length : Int) false _ A6.out).mono ?_); rintro e w14 ⟨rfl, hb⟩; refine ⟨_, rfl, ?_⟩; have n0_ := aM (blk_below (g := gb105) (o := .cells #[.int .i64 a1_0, .int .i64 a1_1, .bool a1_2, .bool a1_3, .int .i64 a1_4, .int .i64 a1_5] 23 (0, 0)) (by (with_reducible repeat (first | refine bN ?_ _ | refine bW ?_ | refine bA ?_ _)); exact BK105.out) hb); have n1_ := aM (lT (by repeat (first | (with_reducible first | exact HB.out | apply lA | apply lN | apply lW | refine lS ?_ GE105.out) | exact HB.out)) hb); clear BK105; clear HB; have BK105 := n0_; have HB := n1_; clear n0_ n1_; (try clear hb); (try clear hb2); (try clear hk); (try clear hi)))
   go_meet
   case rel => exact ⟨_, (true), (by first | rfl | (simp; done) | (simp [*]; done)), H', ⟨by first | omega | exact Nat.le_refl _⟩, ⟨by (with_reducible repeat (first | refine bN ?_ _ | refine bW ?_ | refine bA ?_ _)); exact BK105.out⟩, ⟨by repeat (first | (with_reducible first | exact HB.out | apply lA | apply lN | apply lW | refine lS ?_ GE105.out) | exact HB.out)⟩⟩
 case rest =>
  clear HC4
  try clear c1
  try clear p2
  try clear c7
  try clear c12
  try clear hcz11_0
  try clear hcz11_1
  try clear hcz11_2
  try clear hcz11_3
  try clear hcz11_4
  try clear hcz11_5
  try clear hcz13_0
  try clear hcz13_1
  try clear hcz13_2
  try clear hcz13_3
  try clear hcz13_4
  try clear hcz13_5
  try clear hcz9_0
  try clear hcz9_1
  try clear hcz9_2
  try clear hcz9_3
  try clear hcz9_4
  try clear hcz9_5
  try clear hfz11_0
  try clear hfz11_1
  try clear hfz11_2
  try clear hfz11_3
  try clear hfz11_4
  try clear hfz11_5
  try clear hfz13_0
  try clear hfz13_1
  try clear hfz13_2
  try clear hfz13_3
  try clear hfz13_4
  try clear hfz13_5
  try clear hfz9_0
  try clear hfz9_1
  try clear hfz9_2
  try clear hfz9_3
  try clear hfz9_4
  try clear hfz9_5
  obtain ⟨kq, x22_3, rfl, HA, HJ3, BK105, HB⟩ := hcut
  cases kq with
  | zero => exact absurd HA.out (by simp [sig_Put.j0])
  | succ kj3 =>
   have H := HA.out
   clear HA
   simp only [sig_Put.j0] at H
   by_cases c15 : x22_3 = true
   ·subst c15
    have H1 : (some (([] : List Int), false)) = some (r1, r2) := by rw [if_pos rfl] at H; exact H
    clear H
    have H := H1
    clear H1
    simp only [Option.some.injEq, Prod.mk.injEq] at H
    obtain ⟨rfl, rfl⟩ := H
    go_wp2
    go_ret2
    exact ⟨_, by first | rfl | (simp [errW_none, errW_some] <;> rfl) | (simp [*, errW_none, errW_some] <;> rfl), by first | exact Kd.R_nil _ _ _ _ _ | exact Kd.N_nil _ _ _ _ _ | exact Kd.V_nil _ _ _ _ _ | exact Kd.Q_nil _ _ _ _ _ | exact Kd.S_nil _ _ _ _ _, by repeat (first | (with_reducible first | exact HB.out | apply lA | apply lN | apply lW | refine lS ?_ GE105.out) | exact HB.out)⟩
   ·replace c15 := Bool.eq_false_iff.mpr c15
    subst c15
    have H1 : ((some (([] : List Int) : List Int)).bind fun y108 => (if y108.length + l0.length < 140737488355328 then ((sig_Places.f a1_0 a1_1 a1_2 a1_3 a1_4 a1_5).bind fun t114 => (sig_Put.l0 kj3 a2 (y108 ++ l0) t114 (t114.length : Int) 0)) else (none))) = some (r1, r2) := by rw [if_neg (show ¬ (false = true) by decide)] at H; exact H
    clear H
    have H := H1
    clear H1
    obtain ⟨y108, hy108⟩ : ∃ y_ : List Int, y_ = (([] : List Int)) := ⟨_, rfl⟩
    replace H : (if y108.length + l0.length < 140737488355328 then ((sig_Places.f a1_0 a1_1 a1_2 a1_3 a1_4 a1_5).bind fun t114 => (sig_Put.l0 kj3 a2 (y108 ++ l0) t114 (t114.length : Int) 0)) else (none)) = some (r1, r2) := by first | (rw [hy108]; with_reducible exact H) | (have H2_ := (Option.bind_some _ _).symm.trans H; rw [hy108]; with_reducible exact H2_) | (have H2_ := (Option.bind_some _ _).symm.trans H; with_reducible exact H2_) | with_reducible exact H | (rw [hy108]; exact H) | exact H
    have Ny108 := aM hy108
    clear hy108
    by_cases c16 : y108.length + l0.length < 140737488355328
    ·rw [if_pos c16] at H
     have LMc16 := aM c16
     clear c16
     obtain ⟨y111, hy111⟩ : ∃ y_ : List Int, y_ = (y108 ++ l0) := ⟨_, rfl⟩
     replace H : ((sig_Places.f a1_0 a1_1 a1_2 a1_3 a1_4 a1_5).bind fun t114 => (sig_Put.l0 kj3 a2 y111 t114 (t114.length : Int) 0)) = some (r1, r2) := by first | (rw [hy111]; with_reducible exact H) | (have H2_ := (Option.bind_some _ _).symm.trans H; rw [hy111]; with_reducible exact H2_) | (have H2_ := (Option.bind_some _ _).symm.trans H; with_reducible exact H2_) | with_reducible exact H | (rw [hy111]; exact H) | exact H
     have Ny111 := aM hy111
     clear hy111
     replace H := Option.bind_eq_some_iff.mp H
     obtain ⟨t114, A170, H⟩ := H
     replace H : (sig_Put.l0 kj3 a2 y111 t114 (t114.length : Int) 0) = some (r1, r2) := H
     have A17 := aM A170
     clear A170
     have H' := aM H
     clear H
     go_wp2_with (first | ((with_reducible refine gate_builtin (b := .append) (xs := #[.const (.slice none 0 0), .tmp 23]) rfl ?_); at_builtin; refine Kd.R_append_rows (Kd.int .u8) (w0 := w) w.heap.size rfl (.const (.slice none 0 0)) (.tmp 23) 24 5 (.int .u8 0) 1 rfl Try.underlying24 info5 rfl (by decide) (by omega) (.slice none 0 0) y108 l0 _ _ _ (fun _ => True) (fun _ => False) rfl rfl ?aO ?aR (fun _ _ h => h) (fun _ h => h.elim) ?aF ?aB ?aS ?aL ?_; (case aR => repeat (first | exact (Kd.C_below HR0.out HB.out) | (with_reducible refine Kd.C_alloc ?_ _) | (with_reducible refine Kd.C_drewN ?_ _) | (with_reducible refine Kd.C_drew ?_))); (case aB => exact (by repeat (first | (with_reducible first | exact HB.out | apply lA | apply lN | apply lW | refine lS ?_ GE105.out) | exact HB.out))); (case aF => exact (fun _ _ => trivial)); (case aO => exact (by rw [Ny108.out]; exact Kd.R_nil _ _ _ _ _)); (case aS => exact (lZ (by repeat (first | (with_reducible first | exact HB.out | apply lA | apply lN | apply lW | refine lS ?_ GE105.out) | exact HB.out)))); (case aL => have := LMc16.out; omega); intro v112 w20 ho hb hg hat; rw [← Ny111.out] at ho; have n0_ := aM (blk_grown (g := gb105) (o := .cells #[.int .i64 a1_0, .int .i64 a1_1, .bool a1_2, .bool a1_3, .int .i64 a1_4, .int .i64 a1_5] 23 (0, 0)) (by (with_reducible repeat (first | refine bN ?_ _ | refine bW ?_ | refine bA ?_ _)); exact BK105.out) hg (by simp [Value.ownBlock])); have n1_ := aM (hb); have n2_ := aM (ho); clear BK105; clear HB; have BK105 := n0_; have HB := n1_; have HO113 := n2_; clear n0_ n1_ n2_; clear ho hb hg hat; have hcz21_0 : w20.cell? ⟨gb105, 0, none⟩ = some (.int .i64 a1_0) := (bC BK105.out 0).trans rfl; have hcz21_1 : w20.cell? ⟨gb105, 1, none⟩ = some (.int .i64 a1_1) := (bC BK105.out 1).trans rfl; have hcz21_2 : w20.cell? ⟨gb105, 2, none⟩ = some (.bool a1_2) := (bC BK105.out 2).trans rfl; have hcz21_3 : w20.cell? ⟨gb105, 3, none⟩ = some (.bool a1_3) := (bC BK105.out 3).trans rfl; have hcz21_4 : w20.cell? ⟨gb105, 4, none⟩ = some (.int .i64 a1_4) := (bC BK105.out 4).trans rfl; have hcz21_5 : w20.cell? ⟨gb105, 5, none⟩ = some (.int .i64 a1_5) := (bC BK105.out 5).trans rfl; have hfz21_0 := bF BK105.out 0; have hfz21_1 := bF BK105.out 1; have hfz21_2 := bF BK105.out 2; have hfz21_3 := bF BK105.out 3; have hfz21_4 := bF BK105.out 4; have hfz21_5 := bF BK105.out 5) | ((with_reducible refine gate_callee (f := 19) rfl ?_); refine goesL_ (some 26) rfl rfl Try.func19 (by kernel_rfl) rfl #[.agg #[.int .i64 a1_0, .int .i64 a1_1, .bool a1_2, .bool a1_3, .int .i64 a1_4, .int .i64 a1_5]] rfl (by (try simp only [List.map_toArray, List.map_cons, List.map_nil]); first | done | rfl | (simp only [List.length_drop, List.length_take]; rfl)) ?_; (with_reducible refine (sig_Places.calls a1_0 a1_1 a1_2 a1_3 a1_4 a1_5 t114 _ A17.out).mono ?_); rintro e w22 ⟨v115, rfl, ho0, hb⟩; refine ⟨_, rfl, ?_⟩; have n0_ := aM (Kd.R_below (by (with_reducible repeat (first | apply rA | apply rN | apply rW)); exact HO113.out) hb); have n1_ := aM (Kd.R_lower ho0 (lZ (by repeat (first | (with_reducible first | exact HB.out | apply lA | apply lN | apply lW | refine lS ?_ GE105.out) | exact HB.out)))); have n2_ := aM (blk_below (g := gb105) (o := .cells #[.int .i64 a1_0, .int .i64 a1_1, .bool a1_2, .bool a1_3, .int .i64 a1_4, .int .i64 a1_5] 23 (0, 0)) (by (with_reducible repeat (first | refine bN ?_ _ | refine bW ?_ | refine bA ?_ _)); exact BK105.out) hb); have n3_ := aM (lT (by repeat (first | (with_reducible first | exact HB.out | apply lA | apply lN | apply lW | refine lS ?_ GE105.out) | exact HB.out)) hb); clear HO113; clear BK105; clear HB; have HO113 := n0_; have HO116 := n1_; have BK105 := n2_; have HB := n3_; clear n0_ n1_ n2_ n3_; (try clear hb); (try clear hb2); (try clear hk); (try clear hi); (try clear ho0); obtain ⟨Ao23, co23, eo23⟩ := Kd.R_slice HO116.out; subst eo23))
     go_loopg [28] kj3 (fun kq v28 w' => ∃ (x8_2 : List Int) (x28_2 : Int), v28 = .int .i64 x28_2 ∧ Aside0 (sig_Put.l0 kq a2 x8_2 t114 (t114.length : Int) x28_2 = some (r1, r2)) ∧ Aside0 (kq ≤ kj3) ∧ Aside0 (Kd.R (Kd.int .u8) 5 w' w.heap.size (fun _ => True) v112 x8_2) ∧ Aside0 (Kd.R (Kd.int .i64) 3 w' w.heap.size (fun _ => True) (.slice Ao23 t114.length co23) t114) ∧ Aside0 (w'.heap[gb105]? = some (.cells #[.int .i64 a1_0, .int .i64 a1_1, .bool a1_2, .bool a1_3, .int .i64 a1_4, .int .i64 a1_5] 23 (0, 0))) ∧ Aside0 (Below w.heap.size w w'))
     case atStart => exact ⟨(y111), (0), (by first | rfl | (simp; done) | (simp [*]; done)), H', ⟨Nat.le_refl _⟩, ⟨by (with_reducible repeat (first | apply rA | apply rN | apply rW)); exact HO113.out⟩, ⟨by (with_reducible repeat (first | apply rA | apply rN | apply rW)); exact HO116.out⟩, ⟨by (with_reducible repeat (first | refine bN ?_ _ | refine bW ?_ | refine bA ?_ _)); exact BK105.out⟩, ⟨by repeat (first | (with_reducible first | exact HB.out | apply lA | apply lN | apply lW | refine lS ?_ GE105.out) | exact HB.out)⟩⟩
     case round =>
      clear H'
      try clear c1
      try clear p2
      try clear c7
      try clear c12
      try clear c15
      try clear c16
      try clear c19
      try clear hcz11_0
      try clear hcz11_1
      try clear hcz11_2
      try clear hcz11_3
      try clear hcz11_4
      try clear hcz11_5
      try clear hcz13_0
      try clear hcz13_1
      try clear hcz13_2
      try clear hcz13_3
      try clear hcz13_4
      try clear hcz13_5
      try clear hcz21_0
      try clear hcz21_1
      try clear hcz21_2
      try clear hcz21_3
      try clear hcz21_4
      try clear hcz21_5
      try clear hcz9_0
      try clear hcz9_1
      try clear hcz9_2
      try clear hcz9_3
      try clear hcz9_4
      try clear hcz9_5
      try clear hfz11_0
      try clear hfz11_1
      try clear hfz11_2
      try clear hfz11_3
      try clear hfz11_4
      try clear hfz11_5
      try clear hfz13_0
      try clear hfz13_1
      try clear hfz13_2
      try clear hfz13_3
      try clear hfz13_4
      try clear hfz13_5
      try clear hfz21_0
      try clear hfz21_1
      try clear hfz21_2
      try clear hfz21_3
      try clear hfz21_4
      try clear hfz21_5
      try clear hfz9_0
      try clear hfz9_1
      try clear hfz9_2
      try clear hfz9_3
      try clear hfz9_4
      try clear hfz9_5
      try clear p2
      obtain ⟨x8_2, x28_2, rfl, HA, HK2, HO_8, HO_26, BK105, HB⟩ := hrel
      cases gk with
      | zero => exact absurd HA.out (by simp [sig_Put.l0])
      | succ k2 =>
       have H := HA.out
       clear HA
       simp only [sig_Put.l0] at H
       by_cases c24 : x28_2 < (t114.length : Int)
       ·rw [if_pos c24] at H
        have c24b0 : decide (x28_2 < (t114.length : Int)) = true := decide_eq_true c24
        clear c24
        by_cases c25 : 0 ≤ x28_2
        ·rw [if_pos c25] at H
         have c25b0 : decide (0 ≤ x28_2) = true := decide_eq_true c25
         clear c25
         by_cases c26 : x28_2 < (t114.length : Int)
         ·rw [if_pos c26] at H
          have c26b0 : decide (x28_2 < (t114.length : Int)) = true := decide_eq_true c26
          clear c26
          obtain ⟨ji27, hji27⟩ : ∃ j_ : Int, (Int.tmod (rd t114 x28_2) 8) = j_ := ⟨_, rfl⟩
          replace H : (if 0 ≤ (ji27) then (if 0 ≤ (wrap64 (Int.tdiv (rd t114 x28_2) 8)) then (if (wrap64 (Int.tdiv (rd t114 x28_2) 8)) < (x8_2.length : Int) then ((some (x8_2.set ((wrap64 (Int.tdiv (rd t114 x28_2) 8)) : Int).toNat (Go.bits .andNot .u8 (rd x8_2 (wrap64 (Int.tdiv (rd t114 x28_2) 8))) (shl .u8 1 (ji27))) : List Int)).bind fun y119 => (if (Go.bits .and .i64 (shr .i64 a2 x28_2) 1) = 1 then (sig_Put.l0 k2 a2 (y119.set ((wrap64 (Int.tdiv (rd t114 x28_2) 8)) : Int).toNat (Go.bits .or .u8 (rd y119 (wrap64 (Int.tdiv (rd t114 x28_2) 8))) (shl .u8 1 (ji27)))) t114 (t114.length : Int) (wrap64 (x28_2 + 1))) else (sig_Put.l0 k2 a2 y119 t114 (t114.length : Int) (wrap64 (x28_2 + 1))))) else (none)) else (none)) else (none)) = some (r1, r2) := by first | (rw [hji27] at H; exact H) | (simp only [hji27] at H ⊢; exact H)
          by_cases c28 : 0 ≤ (ji27)
          ·rw [if_pos c28] at H
           have c28b0 := eq_true c28
           have c28b1 : decide (0 ≤ (ji27)) = true := decide_eq_true c28
           clear c28
           obtain ⟨ji29, hji29⟩ : ∃ j_ : Int, (shl .u8 1 (ji27)) = j_ := ⟨_, rfl⟩
           replace H : (if 0 ≤ (wrap64 (Int.tdiv (rd t114 x28_2) 8)) then (if (wrap64 (Int.tdiv (rd t114 x28_2) 8)) < (x8_2.length : Int) then ((some (x8_2.set ((wrap64 (Int.tdiv (rd t114 x28_2) 8)) : Int).toNat (Go.bits .andNot .u8 (rd x8_2 (wrap64 (Int.tdiv (rd t114 x28_2) 8))) (ji29)) : List Int)).bind fun y119 => (if (Go.bits .and .i64 (shr .i64 a2 x28_2) 1) = 1 then (sig_Put.l0 k2 a2 (y119.set ((wrap64 (Int.tdiv (rd t114 x28_2) 8)) : Int).toNat (Go.bits .or .u8 (rd y119 (wrap64 (Int.tdiv (rd t114 x28_2) 8))) (ji29))) t114 (t114.length : Int) (wrap64 (x28_2 + 1))) else (sig_Put.l0 k2 a2 y119 t114 (t114.length : Int) (wrap64 (x28_2 + 1))))) else (none)) else (none)) = some (r1, r2) := by first | (rw [hji29] at H; exact H) | (simp only [hji29] at H ⊢; exact H)
           have hji29_ : (IntKind.u8.wrap (1 * 2 ^ min (ji27).toNat 8)) = ji29 := hji29
           have hji29z : (ji27) ≤ 8 → (IntKind.u8.wrap (1 * 2 ^ (ji27).toNat)) = ji29 := shl_small hji29
           have hji29u : (IntKind.u8.wrap (2 ^ min (ji27).toNat 8)) = ji29 := by have h_ := hji29_; rw [Int.one_mul] at h_; exact h_
           have hji29v : (ji27) ≤ 8 → (IntKind.u8.wrap (2 ^ (ji27).toNat)) = ji29 := fun hle_ => by have h_ := hji29z hle_; rw [Int.one_mul] at h_; exact h_
           obtain ⟨ji30, hji30⟩ : ∃ j_ : Int, (wrap64 (Int.tdiv (rd t114 x28_2) 8)) = j_ := ⟨_, rfl⟩
           replace H : (if 0 ≤ (ji30) then (if (ji30) < (x8_2.length : Int) then ((some (x8_2.set ((ji30) : Int).toNat (Go.bits .andNot .u8 (rd x8_2 (ji30)) (ji29)) : List Int)).bind fun y119 => (if (Go.bits .and .i64 (shr .i64 a2 x28_2) 1) = 1 then (sig_Put.l0 k2 a2 (y119.set ((ji30) : Int).toNat (Go.bits .or .u8 (rd y119 (ji30)) (ji29))) t114 (t114.length : Int) (wrap64 (x28_2 + 1))) else (sig_Put.l0 k2 a2 y119 t114 (t114.length : Int) (wrap64 (x28_2 + 1))))) else (none)) else (none)) = some (r1, r2) := by first | (rw [hji30] at H; exact H) | (simp only [hji30] at H ⊢; exact H)
           have hji30w : (IntKind.i64.wrap (Int.tdiv (rd t114 x28_2) 8)) = ji30 := (i64_w _).trans hji30
           by_cases c31 : 0 ≤ (ji30)
           ·rw [if_pos c31] at H
            have c31b0 : decide (0 ≤ (ji30)) = true := decide_eq_true c31
            clear c31
            by_cases c32 : (ji30) < (x8_2.length : Int)
            ·rw [if_pos c32] at H
             have c32b0 : decide ((ji30) < (x8_2.length : Int)) = true := decide_eq_true c32
             clear c32
             obtain ⟨y119, hy119⟩ : ∃ y_ : List Int, y_ = (x8_2.set ((ji30) : Int).toNat (Go.bits .andNot .u8 (rd x8_2 (ji30)) (ji29))) := ⟨_, rfl⟩
             replace H : (if (Go.bits .and .i64 (shr .i64 a2 x28_2) 1) = 1 then (sig_Put.l0 k2 a2 (y119.set ((ji30) : Int).toNat (Go.bits .or .u8 (rd y119 (ji30)) (ji29))) t114 (t114.length : Int) (wrap64 (x28_2 + 1))) else (sig_Put.l0 k2 a2 y119 t114 (t114.length : Int) (wrap64 (x28_2 + 1)))) = some (r1, r2) := by first | (rw [hy119]; with_reducible exact H) | (have H2_ := (Option.bind_some _ _).symm.trans H; rw [hy119]; with_reducible exact H2_) | (have H2_ := (Option.bind_some _ _).symm.trans H; with_reducible exact H2_) | with_reducible exact H | (rw [hy119]; exact H) | exact H
             have Ny119 := aM hy119
             clear hy119
             have c34b0 := eq_true (oD (by first | (with_reducible assumption) | assumption) : 0 ≤ x28_2)
             obtain ⟨ji35, hji35⟩ : ∃ j_ : Int, (shr .i64 a2 x28_2) = j_ := ⟨_, rfl⟩
             replace H : (if (Go.bits .and .i64 (ji35) 1) = 1 then (sig_Put.l0 k2 a2 (y119.set ((ji30) : Int).toNat (Go.bits .or .u8 (rd y119 (ji30)) (ji29))) t114 (t114.length : Int) (wrap64 (x28_2 + 1))) else (sig_Put.l0 k2 a2 y119 t114 (t114.length : Int) (wrap64 (x28_2 + 1)))) = some (r1, r2) := by first | (rw [hji35] at H; exact H) | (simp only [hji35] at H ⊢; exact H)
             have hji35_ : (a2 / 2 ^ min x28_2.toNat 64) = ji35 := hji35
             have hji35z : x28_2 ≤ 64 → (a2 / 2 ^ x28_2.toNat) = ji35 := shr_small hji35
             by_cases c36 : (Go.bits .and .i64 (ji35) 1) = 1
             ·rw [if_pos c36] at H
              have c36b0 : ((Go.bits .and .i64 (ji35) 1) == 1) = true := beq_iff_eq.mpr c36
              have c36b1 : ((Go.bits .and .i64 (ji35) 1) != 1) = false := bne_eq_false_iff_eq.mpr c36
              clear c36
              obtain ⟨y121, hy121⟩ : ∃ y_ : List Int, y_ = (y119.set ((ji30) : Int).toNat (Go.bits .or .u8 (rd y119 (ji30)) (ji29))) := ⟨_, rfl⟩
              replace H : (sig_Put.l0 k2 a2 y121 t114 (t114.length : Int) (wrap64 (x28_2 + 1))) = some (r1, r2) := by first | (rw [hy121]; with_reducible exact H) | (have H2_ := (Option.bind_some _ _).symm.trans H; rw [hy121]; with_reducible exact H2_) | (have H2_ := (Option.bind_some _ _).symm.trans H; with_reducible exact H2_) | with_reducible exact H | (rw [hy121]; exact H) | exact H
              have Ny121 := aM hy121
              clear hy121
              have H' := aM H
              clear H
              have p117 : 0 ≤ (x28_2 : Int) := oD (by first | (with_reducible assumption) | assumption)
              have q117 : x28_2 < (t114.length : Int) := oD (by first | (with_reducible assumption) | assumption)
              obtain ⟨ad117, e117, hx117_0⟩ := Kd.at_int (Kd.R_reads' HO_26.out).2.2 x28_2 p117 q117
              cases e117
              replace p117 := eq_true p117
              replace q117 := eq_true q117
              obtain ⟨Ao38, co38, eo38⟩ := Kd.R_slice HO_8.out
              subst eo38
              have p118 : 0 ≤ ((ji30) : Int) := oD (by first | (with_reducible assumption) | assumption)
              have q118 : (ji30) < (x8_2.length : Int) := oD (by first | (with_reducible assumption) | assumption)
              obtain ⟨ad118, e118, hx118_0⟩ := Kd.at_int (Kd.R_reads' HO_8.out).2.2 (ji30) p118 q118
              cases e118
              replace p118 := eq_true p118
              replace q118 := eq_true q118
              have p33 : 0 ≤ ((ji30) : Int) := oD (by first | (with_reducible assumption) | assumption)
              have q33 : ((ji30) : Int) < ((x8_2.length : Int) : Int) := oD (by first | (with_reducible assumption) | assumption)
              obtain ⟨go33, co33, eo33, gb33, gl33, cl33, HG33⟩ := Kd.R_form HO_8.out (by omega)
              (first | cases eo33 | (injection eo33 with ea_ en_ ec_; (first | subst ea_ | (injection ea_ with ea_; subst ea_)); subst ec_; clear en_))
              have GB33 := aM gb33
              have GG33 := aM HG33
              clear gb33 gl33 HG33
              (first | simp only [add_plain] at hx118_0 | skip)
              obtain ⟨hx33_0, hf33_0⟩ := Kd.R_celln 0 HO_8.out ((ji30) : Int) p33 q33
              replace p33 := eq_true p33
              replace q33 := eq_true q33
              have HP39 := Kd.R_putg HO_8.out ((ji30) : Int) (Go.bits .andNot .u8 (rd x8_2 (ji30)) (ji29))
              go_wp2_with (first | ((with_reducible refine gate_store (t := 5) (p := 43) rfl ?_); refine store_event (t := 5) (p := 43) (v := ?vo_w40) (w1 := (wr.setCell ⟨go33, ((ji30) : Int).toNat, none⟩ (.int .u8 (Go.bits .andNot .u8 (rd x8_2 (ji30)) (ji29))))) ?hg ?ho ?hn ?hr ?_; (case ho => rfl); (case hg => rfl); (case hn => rfl); (case hr => first | (go_simp; done) | (go_simp; rfl)); intro w40 hw; have hg : wr.grownBy w40 (some go33) := (by rw [hw]; exact HP39.2); have hp_ : Kd.R (Kd.int .u8) 5 w40 w.heap.size (fun _ => True) (.slice (some ⟨go33, 0, none⟩) x8_2.length co38) y119 := (by rw [hw, Ny119.out]; exact HP39.1); clear HP39; have n0_ := aM (hp_); have n1_ := aM (Kd.R_over' (v := (.slice (some ⟨go33, 0, none⟩) x8_2.length co38)) (by (with_reducible repeat (first | apply rA | apply rN | apply rW)); exact HO_26.out) (Kd.R_typed HO_8.out) (by decide) hg); have n2_ := aM (blk_grown (g := gb105) (o := .cells #[.int .i64 a1_0, .int .i64 a1_1, .bool a1_2, .bool a1_3, .int .i64 a1_4, .int .i64 a1_5] 23 (0, 0)) (by (with_reducible repeat (first | refine bN ?_ _ | refine bW ?_ | refine bA ?_ _)); exact BK105.out) hg (Kd.R_ne HO_8.out BK105.out (by decide))); have n3_ := aM ((by rw [hw]; exact lS (HB.out) GB33.out : Below w.heap.size w w40)); clear HO_8; clear HO_26; clear BK105; clear HB; have HO_8 := n0_; have HO_26 := n1_; have BK105 := n2_; have HB := n3_; clear n0_ n1_ n2_ n3_; clear hg hw hp_; have p120 : 0 ≤ ((ji30) : Int) := oD (by first | (with_reducible assumption) | assumption); have q120 : (ji30) < (y119.length : Int) := (by have h_ : ((ji30) : Int) < ((x8_2.length : Int) : Int) := oD (by first | (with_reducible assumption) | assumption); first | (have e_ := (Kd.R_reads' HO_8.out).1; omega) | simpa only [Ny119.out, List.length_set] using h_); have ql120 : (((ji30) : Int) < ((x8_2.length : Int) : Int)) = True := eq_true (oD (by first | (with_reducible assumption) | assumption)); obtain ⟨ad120, e120, hx120_0⟩ := Kd.at_int (Kd.R_reads' HO_8.out).2.2 (ji30) p120 q120; obtain rfl : (⟨go33, 0, none⟩ : Addr) = ad120 := (by injection e120); (first | simp only [add_plain] at hx120_0 | simp only [add_at] at hx120_0 | simp only [Addr.add, Nat.zero_add] at hx120_0 | skip); replace p120 := eq_true p120; replace q120 := eq_true q120; have p37 : 0 ≤ ((ji30) : Int) := oD (by first | (with_reducible assumption) | assumption); have q37 : ((ji30) : Int) < ((x8_2.length : Int) : Int) := oD (by first | (with_reducible assumption) | assumption); obtain ⟨hx37_0, hf37_0⟩ := Kd.R_celln 0 HO_8.out ((ji30) : Int) p37 q37; replace p37 := eq_true p37; replace q37 := eq_true q37; obtain ⟨hy41_, hz41_⟩ := Kd.R_celln 0 HO_8.out ((ji30) : Int) (oD (by first | (with_reducible assumption) | assumption)) (oD (by first | (with_reducible assumption) | assumption)); have HP41 := Kd.R_putg HO_8.out ((ji30) : Int) (Go.bits .or .u8 (rd y119 (ji30)) (ji29))) | ((with_reducible refine gate_store (t := 5) (p := 56) rfl ?_); refine store_event (t := 5) (p := 56) (v := ?vo_w42) (w1 := (w40.setCell ⟨go33, ((ji30) : Int).toNat, none⟩ (.int .u8 (Go.bits .or .u8 (rd y119 (ji30)) (ji29))))) ?hg ?ho ?hn ?hr ?_; (case ho => rfl); (case hg => rfl); (case hn => rfl); (case hr => first | (go_simp; done) | (go_simp; rfl)); intro w42 hw; have hg : w40.grownBy w42 (some go33) := (by rw [hw]; exact HP41.2); have hp_ : Kd.R (Kd.int .u8) 5 w42 w.heap.size (fun _ => True) (.slice (some ⟨go33, 0, none⟩) x8_2.length co38) y121 := (by rw [hw, Ny121.out]; exact HP41.1); clear HP41; have n0_ := aM (hp_); have n1_ := aM (Kd.R_over' (v := (.slice (some ⟨go33, 0, none⟩) x8_2.length co38)) (by (with_reducible repeat (first | apply rA | apply rN | apply rW)); exact HO_26.out) (Kd.R_typed HO_8.out) (by decide) hg); have n2_ := aM (blk_grown (g := gb105) (o := .cells #[.int .i64 a1_0, .int .i64 a1_1, .bool a1_2, .bool a1_3, .int .i64 a1_4, .int .i64 a1_5] 23 (0, 0)) (by (with_reducible repeat (first | refine bN ?_ _ | refine bW ?_ | refine bA ?_ _)); exact BK105.out) hg (Kd.R_ne HO_8.out BK105.out (by decide))); have n3_ := aM ((by rw [hw]; exact lS (HB.out) GB33.out : Below w.heap.size w w42)); clear HO_8; clear HO_26; clear BK105; clear HB; have HO_8 := n0_; have HO_26 := n1_; have BK105 := n2_; have HB := n3_; clear n0_ n1_ n2_ n3_; clear hg hw hp_))
              go_roundg k2
              case measure => have := HJ3.out; have := HK2.out; omega
              case rel => exact ⟨(y121), (wrap64 (x28_2 + 1)), (by first | rfl | (simp; done) | (simp [*]; done)), H', ⟨by have := HJ3.out; have := HK2.out; omega⟩, ⟨by (with_reducible repeat (first | apply rA | apply rN | apply rW)); exact HO_8.out⟩, ⟨by (with_reducible repeat (first | apply rA | apply rN | apply rW)); exact HO_26.out⟩, ⟨by (with_reducible repeat (first | refine bN ?_ _ | refine bW ?_ | refine bA ?_ _)); exact BK105.out⟩, ⟨by repeat (first | (with_reducible first | exact HB.out | apply lA | apply lN | apply lW | refine lS ?_ GE105.out) | exact HB.out)⟩⟩
             ·rw [if_neg c36] at H
              have c36b0 : ((Go.bits .and .i64 (ji35) 1) == 1) = false := nF c36
              have c36b1 : ((Go.bits .and .i64 (ji35) 1) != 1) = true := nT c36
              have H' := aM H
              clear H
              have p117 : 0 ≤ (x28_2 : Int) := oD (by first | (with_reducible assumption) | assumption)
              have q117 : x28_2 < (t114.length : Int) := oD (by first | (with_reducible assumption) | assumption)
              obtain ⟨ad117, e117, hx117_0⟩ := Kd.at_int (Kd.R_reads' HO_26.out).2.2 x28_2 p117 q117
              cases e117
              replace p117 := eq_true p117
              replace q117 := eq_true q117
              obtain ⟨Ao43, co43, eo43⟩ := Kd.R_slice HO_8.out
              subst eo43
              have p118 : 0 ≤ ((ji30) : Int) := oD (by first | (with_reducible assumption) | assumption)
              have q118 : (ji30) < (x8_2.length : Int) := oD (by first | (with_reducible assumption) | assumption)
              obtain ⟨ad118, e118, hx118_0⟩ := Kd.at_int (Kd.R_reads' HO_8.out).2.2 (ji30) p118 q118
              cases e118
              replace p118 := eq_true p118
              replace q118 := eq_true q118
              have p33 : 0 ≤ ((ji30) : Int) := oD (by first | (with_reducible assumption) | assumption)
              have q33 : ((ji30) : Int) < ((x8_2.length : Int) : Int) := oD (by first | (with_reducible assumption) | assumption)
              obtain ⟨go33, co33, eo33, gb33, gl33, cl33, HG33⟩ := Kd.R_form HO_8.out (by omega)
              (first | cases eo33 | (injection eo33 with ea_ en_ ec_; (first | subst ea_ | (injection ea_ with ea_; subst ea_)); subst ec_; clear en_))
              have GB33 := aM gb33
              have GG33 := aM HG33
              clear gb33 gl33 HG33
              (first | simp only [add_plain] at hx118_0 | skip)
              obtain ⟨hx33_0, hf33_0⟩ := Kd.R_celln 0 HO_8.out ((ji30) : Int) p33 q33
              replace p33 := eq_true p33
              replace q33 := eq_true q33
              have HP44 := Kd.R_putg HO_8.out ((ji30) : Int) (Go.bits .andNot .u8 (rd x8_2 (ji30)) (ji29))
              go_wp2_with (first | ((with_reducible refine gate_store (t := 5) (p := 43) rfl ?_); refine store_event (t := 5) (p := 43) (v := ?vo_w45) (w1 := (wr.setCell ⟨go33, ((ji30) : Int).toNat, none⟩ (.int .u8 (Go.bits .andNot .u8 (rd x8_2 (ji30)) (ji29))))) ?hg ?ho ?hn ?hr ?_; (case ho => rfl); (case hg => rfl); (case hn => rfl); (case hr => first | (go_simp; done) | (go_simp; rfl)); intro w45 hw; have hg : wr.grownBy w45 (some go33) := (by rw [hw]; exact HP44.2); have hp_ : Kd.R (Kd.int .u8) 5 w45 w.heap.size (fun _ => True) (.slice (some ⟨go33, 0, none⟩) x8_2.length co43) y119 := (by rw [hw, Ny119.out]; exact HP44.1); clear HP44; have n0_ := aM (hp_); have n1_ := aM (Kd.R_over' (v := (.slice (some ⟨go33, 0, none⟩) x8_2.length co43)) (by (with_reducible repeat (first | apply rA | apply rN | apply rW)); exact HO_26.out) (Kd.R_typed HO_8.out) (by decide) hg); have n2_ := aM (blk_grown (g := gb105) (o := .cells #[.int .i64 a1_0, .int .i64 a1_1, .bool a1_2, .bool a1_3, .int .i64 a1_4, .int .i64 a1_5] 23 (0, 0)) (by (with_reducible repeat (first | refine bN ?_ _ | refine bW ?_ | refine bA ?_ _)); exact BK105.out) hg (Kd.R_ne HO_8.out BK105.out (by decide))); have n3_ := aM ((by rw [hw]; exact lS (HB.out) GB33.out : Below w.heap.size w w45)); clear HO_8; clear HO_26; clear BK105; clear HB; have HO_8 := n0_; have HO_26 := n1_; have BK105 := n2_; have HB := n3_; clear n0_ n1_ n2_ n3_; clear hg hw hp_))
              go_roundg k2
              case measure => have := HJ3.out; have := HK2.out; omega
              case rel => exact ⟨(y119), (wrap64 (x28_2 + 1)), (by first | rfl | (simp; done) | (simp [*]; done)), H', ⟨by have := HJ3.out; have := HK2.out; omega⟩, ⟨by (with_reducible repeat (first | apply rA | apply rN | apply rW)); exact HO_8.out⟩, ⟨by (with_reducible repeat (first | apply rA | apply rN | apply rW)); exact HO_26.out⟩, ⟨by (with_reducible repeat (first | refine bN ?_ _ | refine bW ?_ | refine bA ?_ _)); exact BK105.out⟩, ⟨by repeat (first | (with_reducible first | exact HB.out | apply lA | apply lN | apply lW | refine lS ?_ GE105.out) | exact HB.out)⟩⟩
            ·rw [if_neg c32] at H
             exact absurd H (by simp)
           ·rw [if_neg c31] at H
            exact absurd H (by simp)
          ·rw [if_neg c28] at H
           exact absurd H (by simp)
         ·rw [if_neg c26] at H
          exact absurd H (by simp)
        ·rw [if_neg c25] at H
         exact absurd H (by simp)
       ·rw [if_neg c24] at H
        have c24b0 : decide (x28_2 < (t114.length : Int)) = false := decide_eq_false c24
        clear c24
        simp only [Option.some.injEq, Prod.mk.injEq] at H
        obtain ⟨rfl, rfl⟩ := H
        go_wp2
        go_ret2
        exact ⟨_, by first | rfl | (simp [errW_none, errW_some] <;> rfl) | (simp [*, errW_none, errW_some] <;> rfl), by (with_reducible repeat (first | apply rA | apply rN | apply rW)); exact HO_8.out, by repeat (first | (with_reducible first | exact HB.out | apply lA | apply lN | apply lW | refine lS ?_ GE105.out) | exact HB.out)⟩
    ·rw [if_neg c16] at H
     exact absurd H (by simp)

end Go.Proofs.Ytcgkkjimonfhbaa.P

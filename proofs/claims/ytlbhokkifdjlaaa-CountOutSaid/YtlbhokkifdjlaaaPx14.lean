/- Go functions that the laws of this seat reach, each as a Lean function, and a proof that a call of the Go code comes to its answers; written by a program (the kit's print, turned in a few places). Conditions: each theorem's own premises. -/
import Derived.Test.YtlbhokkifdjlaaaPx0
import Derived.Test.YtlbhokkifdjlaaaPx1
import Derived.Test.YtlbhokkifdjlaaaPx4
import Derived.Test.YtlbhokkifdjlaaaGCount
namespace Go.Proofs.Ytlbhokkifdjlaaa.P
open Go.RowKit Go.Proofs.YtlbhokkifdjlaaaW.PrintWords Go.Proofs.YtlbhokkifdjlaaaW.PrintLast Go.Proofs.YtlbhokkifdjlaaaW.PrintMore
attribute [local go_sem] max2_int min2_int max_two min_two max_three min_three max_four min_four   -- for this text's walks alone
set_option linter.unusedVariables false
set_option linter.unusedSimpArgs false

attribute [local go_sem high] eqA23
/-! ### phaetonlaw08_CountOut: function 9 -/
def phaetonlaw08_CountOut.j0 : Nat → Bool → Bool → Int → Int → Int → Int → Option (Bool)
 | 0, _, _, _, _, _, _ => none
 | k + 1, x3, x16, x356000, x356001, x356002, x356003 => if x16 = true then (some x3) else ((phaetonlaw08_times.f k 3 (wrap64 (Int.tdiv (wrap64 ((wrap64 (256 - x356000)) + 7)) 8))).bind fun t358 => ((count_Steps.f k x356000 x356001 x356002 x356003 t358).bind fun bt361 => ((phaetonlaw08_times.f k 3 (wrap64 ((wrap64 (Int.tdiv (wrap64 ((wrap64 (256 - x356000)) + 7)) 8)) - 1))).bind fun t366 => ((count_Steps.f k x356000 x356001 x356002 x356003 t366).bind fun bt369 => ((count_Step.f x356000 x356001 x356002 x356003 3).bind fun bt374 => ((count_Step.f bt374.1 bt374.2.1 bt374.2.2.1 bt374.2.2.2 1).bind fun bt378 => (if x3 = true then (if (bt361.1 == 256 && (bt361.2.1 == 0 && (bt361.2.2.1 == 3 && (bt361.2.2.2 == 0)))) = true then (if bt369.2.2.1 = 3 then (none) else (if bt369.1 = (wrap64 (x356000 + (wrap64 (8 * (wrap64 ((wrap64 (Int.tdiv (wrap64 ((wrap64 (256 - x356000)) + 7)) 8)) - 1)))))) then (if bt369.2.1 = x356001 then (if (wrap64 (Int.tdiv (wrap64 ((wrap64 (256 - x356000)) + 7)) 8)) = 1 then (if bt378.2.2.1 = 3 then (some true) else (some (bt378.1 == (wrap64 (x356000 + 7))))) else (some (bt378.1 == (wrap64 (x356000 + 7))))) else (none)) else (none))) else (none)) else (none))))))))
def phaetonlaw08_CountOut.f (k : Nat) (a0_0 : Int) (a0_1 : Int) (a0_2 : Int) (a0_3 : Int) : Option (Bool) := (phaetonlaw08_head.f k).bind fun t356 => ((count_Right.f a0_0 a0_1 a0_2 a0_3).bind fun t357 => (if t357 = true then (phaetonlaw08_CountOut.j0 k t356 (a0_2 == 3) a0_0 a0_1 a0_2 a0_3) else (phaetonlaw08_CountOut.j0 k t356 true a0_0 a0_1 a0_2 a0_3)))
theorem phaetonlaw08_CountOut.mono_l : ∀ k, (∀ y0 y1 y2 y3 y4 y5, LeO (phaetonlaw08_CountOut.j0 k y0 y1 y2 y3 y4 y5) (phaetonlaw08_CountOut.j0 (k + 1) y0 y1 y2 y3 y4 y5))
 | 0 => fun _ _ _ _ _ _ r h => by simp [phaetonlaw08_CountOut.j0] at h
 | k + 1 => by
  have ih0 := phaetonlaw08_CountOut.mono_l k
  ·intro y0 y1 y2 y3 y4 y5
   unfold phaetonlaw08_CountOut.j0
   repeat' first
   | (with_reducible exact ih0 _ _ _ _ _ _)
   | (with_reducible exact count_Steps.mono _ _ _ _ _ _)
   | (with_reducible exact phaetonlaw08_head.mono _)
   | (with_reducible exact phaetonlaw08_times.mono _ _ _)
   | (with_reducible exact LeO.refl _)
   | (with_reducible exact LeO.none _)
   | (with_reducible refine LeO.ite ?_ ?_)
   | (with_reducible refine LeO.bind ?_ (fun _ => ?_))
   | exact ih0 _ _ _ _ _ _
   | exact count_Steps.mono _ _ _ _ _ _
   | exact phaetonlaw08_head.mono _
   | exact phaetonlaw08_times.mono _ _ _
   | exact LeO.none _
   | refine LeO.ite ?_ ?_
   | refine LeO.bind ?_ (fun _ => ?_)
theorem phaetonlaw08_CountOut.mono : ∀ a0 a1 a2 a3 k, LeO (phaetonlaw08_CountOut.f k a0 a1 a2 a3) (phaetonlaw08_CountOut.f (k + 1) a0 a1 a2 a3) := by
 intro a0 a1 a2 a3 k
 have ih0 := phaetonlaw08_CountOut.mono_l k
 unfold phaetonlaw08_CountOut.f
 repeat' first
   | (with_reducible exact ih0 _ _ _ _ _ _)
   | (with_reducible exact count_Steps.mono _ _ _ _ _ _)
   | (with_reducible exact phaetonlaw08_head.mono _)
   | (with_reducible exact phaetonlaw08_times.mono _ _ _)
   | (with_reducible exact LeO.refl _)
   | (with_reducible exact LeO.none _)
   | (with_reducible refine LeO.ite ?_ ?_)
   | (with_reducible refine LeO.bind ?_ (fun _ => ?_))
   | exact ih0 _ _ _ _ _ _
   | exact count_Steps.mono _ _ _ _ _ _
   | exact phaetonlaw08_head.mono _
   | exact phaetonlaw08_times.mono _ _ _
   | exact LeO.none _
   | refine LeO.ite ?_ ?_
   | refine LeO.bind ?_ (fun _ => ?_)
set_option maxHeartbeats 8000000 in
set_option maxRecDepth 100000 in
theorem phaetonlaw08_CountOut.calls (k : Nat) (a0_0 : Int) (a0_1 : Int) (a0_2 : Int) (a0_3 : Int) (r : Bool) (w : World) (h : phaetonlaw08_CountOut.f k a0_0 a0_1 a0_2 a0_3 = some r) :
  Calls Try.prog 9 #[.agg #[.int .i64 a0_0, .int .i64 a0_1, .int .i64 a0_2, .int .i64 a0_3]] w fun e w' => e = .returned (.bool r) ∧ Below w.heap.size w w' := by
 have hu23 := Try.underlying23
 have HB := aM (Below.refl w.heap.size w)
 have H : ((phaetonlaw08_head.f k).bind fun t356 => ((count_Right.f a0_0 a0_1 a0_2 a0_3).bind fun t357 => (if t357 = true then (phaetonlaw08_CountOut.j0 k t356 (a0_2 == 3) a0_0 a0_1 a0_2 a0_3) else (phaetonlaw08_CountOut.j0 k t356 true a0_0 a0_1 a0_2 a0_3)))) = some r := h
 clear h
 replace H := Option.bind_eq_some_iff.mp H
 obtain ⟨t356, A20, H⟩ := H
 replace H : ((count_Right.f a0_0 a0_1 a0_2 a0_3).bind fun t357 => (if t357 = true then (phaetonlaw08_CountOut.j0 k t356 (a0_2 == 3) a0_0 a0_1 a0_2 a0_3) else (phaetonlaw08_CountOut.j0 k t356 true a0_0 a0_1 a0_2 a0_3))) = some r := H
 have A2 := aM A20
 clear A20
 have HC3 := aM H
 clear H
 go_enter Try.func9, Try.ntmps9
 go_upto_region 2 with (first | ((with_reducible refine gate_dst (N := 1) rfl ?_); refine box_event ?hg (N := 1) ?hd (cs := #[.int .i64 a0_0, .int .i64 a0_1, .int .i64 a0_2, .int .i64 a0_3]) (t := 23) ?hr ?_; (case hd => rfl); (case hg => rfl); (case hr => first | (go_simp; done) | (go_simp; rfl)); intro gb355 hg w4 hbox hb; have n0_ := aM (below_step (by repeat (first | (with_reducible first | exact HB.out | apply lA | apply lN | apply lW) | exact HB.out)) hb); have n1_ := aM (hbox); have n2_ := aM ((by rw [hg]; exact (below_size (by repeat (first | (with_reducible first | exact HB.out | apply lA | apply lN | apply lW) | exact HB.out))) : w.heap.size ≤ gb355)); have n3_ := aM ((by rw [hg]; exact (below_size (by repeat (first | (with_reducible first | exact HB.out | apply lA | apply lN | apply lW) | exact HB.out))) : w.heap.size ≤ gb355)); clear HB; have HB := n0_; have BK355 := n1_; have GW355 := n2_; have GE355 := n3_; clear n0_ n1_ n2_ n3_; clear hb hbox hg) | ((with_reducible refine gate_callee (f := 10) rfl ?_); refine goesL_ (some 8) rfl rfl Try.func10 (by kernel_rfl) rfl #[] rfl (by (try simp only [List.map_toArray, List.map_cons, List.map_nil]); first | done | rfl | (simp only [List.length_drop, List.length_take]; rfl)) ?_; (with_reducible refine (phaetonlaw08_head.calls k  t356 _ A2.out).mono ?_); rintro e w5 ⟨rfl, hb⟩; refine ⟨_, rfl, ?_⟩; have n0_ := aM (blk_below (g := gb355) (o := .cells #[.int .i64 a0_0, .int .i64 a0_1, .int .i64 a0_2, .int .i64 a0_3] 23 (0, 0)) (by (with_reducible repeat (first | refine bN ?_ _ | refine bW ?_ | refine bA ?_ _)); exact BK355.out) hb); have n1_ := aM (below_step (by repeat (first | (with_reducible first | exact HB.out | apply lA | apply lN | apply lW | refine lS ?_ GE355.out) | exact HB.out)) hb); clear BK355; clear HB; have BK355 := n0_; have HB := n1_; clear n0_ n1_; (try clear hb); (try clear hb2); (try clear hk); (try clear hi)))
 (try simp only [Act.put, sT, sZ, sS])
 go_cut [16] (fun v16 wc => ∃ (kq : Nat) (x16_2 : Bool), v16 = .bool x16_2 ∧ Aside0 (phaetonlaw08_CountOut.j0 kq t356 x16_2 a0_0 a0_1 a0_2 a0_3 = some r) ∧ Aside0 (kq ≤ k) ∧ Aside0 (wc.heap[gb355]? = some (.cells #[.int .i64 a0_0, .int .i64 a0_1, .int .i64 a0_2, .int .i64 a0_3] 23 (0, 0))) ∧ Aside0 (Below w.heap.size w wc))
 case first =>
  have H := HC3.out
  clear HC3
  replace H := Option.bind_eq_some_iff.mp H
  obtain ⟨t357, A60, H⟩ := H
  replace H : (if t357 = true then (phaetonlaw08_CountOut.j0 k t356 (a0_2 == 3) a0_0 a0_1 a0_2 a0_3) else (phaetonlaw08_CountOut.j0 k t356 true a0_0 a0_1 a0_2 a0_3)) = some r := H
  have A6 := aM A60
  clear A60
  by_cases c7 : t357 = true
  ·subst c7
   have H1 : (phaetonlaw08_CountOut.j0 k t356 (a0_2 == 3) a0_0 a0_1 a0_2 a0_3) = some r := by rw [if_pos rfl] at H; exact H
   clear H
   have H := H1
   clear H1
   have H' := aM H
   clear H
   have hcz8_0 : w5.cell? ⟨gb355, 0, none⟩ = some (.int .i64 a0_0) := (blk_cell BK355.out 0).trans rfl
   have hcz8_1 : w5.cell? ⟨gb355, 1, none⟩ = some (.int .i64 a0_1) := (blk_cell BK355.out 1).trans rfl
   have hcz8_2 : w5.cell? ⟨gb355, 2, none⟩ = some (.int .i64 a0_2) := (blk_cell BK355.out 2).trans rfl
   have hcz8_3 : w5.cell? ⟨gb355, 3, none⟩ = some (.int .i64 a0_3) := (blk_cell BK355.out 3).trans rfl
   have hfz8_0 := blk_frozen BK355.out 0
   have hfz8_1 := blk_frozen BK355.out 1
   have hfz8_2 := blk_frozen BK355.out 2
   have hfz8_3 := blk_frozen BK355.out 3
   go_wp2_with (first | ((with_reducible refine gate_callee (f := 11) rfl ?_); refine goesL_ (some 10) rfl rfl Try.func11 (by kernel_rfl) rfl #[.agg #[.int .i64 a0_0, .int .i64 a0_1, .int .i64 a0_2, .int .i64 a0_3]] rfl (by (try simp only [List.map_toArray, List.map_cons, List.map_nil]); first | done | rfl | (simp only [List.length_drop, List.length_take]; rfl)) ?_; (with_reducible refine (count_Right.calls a0_0 a0_1 a0_2 a0_3 true _ A6.out).mono ?_); rintro e w9 ⟨rfl, hb⟩; refine ⟨_, rfl, ?_⟩; have n0_ := aM (blk_below (g := gb355) (o := .cells #[.int .i64 a0_0, .int .i64 a0_1, .int .i64 a0_2, .int .i64 a0_3] 23 (0, 0)) (by (with_reducible repeat (first | refine bN ?_ _ | refine bW ?_ | refine bA ?_ _)); exact BK355.out) hb); have n1_ := aM (below_step (by repeat (first | (with_reducible first | exact HB.out | apply lA | apply lN | apply lW | refine lS ?_ GE355.out) | exact HB.out)) hb); clear BK355; clear HB; have BK355 := n0_; have HB := n1_; clear n0_ n1_; (try clear hb); (try clear hb2); (try clear hk); (try clear hi); have hcz10_0 : w9.cell? ⟨gb355, 0, none⟩ = some (.int .i64 a0_0) := (blk_cell BK355.out 0).trans rfl; have hcz10_1 : w9.cell? ⟨gb355, 1, none⟩ = some (.int .i64 a0_1) := (blk_cell BK355.out 1).trans rfl; have hcz10_2 : w9.cell? ⟨gb355, 2, none⟩ = some (.int .i64 a0_2) := (blk_cell BK355.out 2).trans rfl; have hcz10_3 : w9.cell? ⟨gb355, 3, none⟩ = some (.int .i64 a0_3) := (blk_cell BK355.out 3).trans rfl; have hfz10_0 := blk_frozen BK355.out 0; have hfz10_1 := blk_frozen BK355.out 1; have hfz10_2 := blk_frozen BK355.out 2; have hfz10_3 := blk_frozen BK355.out 3))
   go_meet
   case rel => exact ⟨_, ((a0_2 == 3)), (by first | rfl | (simp; done) | (simp [*]; done)), H', ⟨by first | omega | exact Nat.le_refl _⟩, ⟨by (with_reducible repeat (first | refine bN ?_ _ | refine bW ?_ | refine bA ?_ _)); exact BK355.out⟩, ⟨by repeat (first | (with_reducible first | exact HB.out | apply lA | apply lN | apply lW | refine lS ?_ GE355.out) | exact HB.out)⟩⟩
  ·replace c7 := Bool.eq_false_iff.mpr c7
   subst c7
   have H1 : (phaetonlaw08_CountOut.j0 k t356 true a0_0 a0_1 a0_2 a0_3) = some r := by rw [if_neg (show ¬ (false = true) by decide)] at H; exact H
   clear H
   have H := H1
   clear H1
   have H' := aM H
   clear H
   have hcz11_0 : w5.cell? ⟨gb355, 0, none⟩ = some (.int .i64 a0_0) := (blk_cell BK355.out 0).trans rfl
   have hcz11_1 : w5.cell? ⟨gb355, 1, none⟩ = some (.int .i64 a0_1) := (blk_cell BK355.out 1).trans rfl
   have hcz11_2 : w5.cell? ⟨gb355, 2, none⟩ = some (.int .i64 a0_2) := (blk_cell BK355.out 2).trans rfl
   have hcz11_3 : w5.cell? ⟨gb355, 3, none⟩ = some (.int .i64 a0_3) := (blk_cell BK355.out 3).trans rfl
   have hfz11_0 := blk_frozen BK355.out 0
   have hfz11_1 := blk_frozen BK355.out 1
   have hfz11_2 := blk_frozen BK355.out 2
   have hfz11_3 := blk_frozen BK355.out 3
   go_wp2_with (first | ((with_reducible refine gate_callee (f := 11) rfl ?_); refine goesL_ (some 10) rfl rfl Try.func11 (by kernel_rfl) rfl #[.agg #[.int .i64 a0_0, .int .i64 a0_1, .int .i64 a0_2, .int .i64 a0_3]] rfl (by (try simp only [List.map_toArray, List.map_cons, List.map_nil]); first | done | rfl | (simp only [List.length_drop, List.length_take]; rfl)) ?_; (with_reducible refine (count_Right.calls a0_0 a0_1 a0_2 a0_3 false _ A6.out).mono ?_); rintro e w12 ⟨rfl, hb⟩; refine ⟨_, rfl, ?_⟩; have n0_ := aM (blk_below (g := gb355) (o := .cells #[.int .i64 a0_0, .int .i64 a0_1, .int .i64 a0_2, .int .i64 a0_3] 23 (0, 0)) (by (with_reducible repeat (first | refine bN ?_ _ | refine bW ?_ | refine bA ?_ _)); exact BK355.out) hb); have n1_ := aM (below_step (by repeat (first | (with_reducible first | exact HB.out | apply lA | apply lN | apply lW | refine lS ?_ GE355.out) | exact HB.out)) hb); clear BK355; clear HB; have BK355 := n0_; have HB := n1_; clear n0_ n1_; (try clear hb); (try clear hb2); (try clear hk); (try clear hi)))
   go_meet
   case rel => exact ⟨_, (true), (by first | rfl | (simp; done) | (simp [*]; done)), H', ⟨by first | omega | exact Nat.le_refl _⟩, ⟨by (with_reducible repeat (first | refine bN ?_ _ | refine bW ?_ | refine bA ?_ _)); exact BK355.out⟩, ⟨by repeat (first | (with_reducible first | exact HB.out | apply lA | apply lN | apply lW | refine lS ?_ GE355.out) | exact HB.out)⟩⟩
 case rest =>
  clear HC3
  try clear c1
  try clear p2
  try clear c7
  try clear c9
  try clear c10
  try clear c11
  try clear hcz10_0
  try clear hcz10_1
  try clear hcz10_2
  try clear hcz10_3
  try clear hcz11_0
  try clear hcz11_1
  try clear hcz11_2
  try clear hcz11_3
  try clear hcz8_0
  try clear hcz8_1
  try clear hcz8_2
  try clear hcz8_3
  try clear hfz10_0
  try clear hfz10_1
  try clear hfz10_2
  try clear hfz10_3
  try clear hfz11_0
  try clear hfz11_1
  try clear hfz11_2
  try clear hfz11_3
  try clear hfz8_0
  try clear hfz8_1
  try clear hfz8_2
  try clear hfz8_3
  obtain ⟨kq, x16_2, rfl, HA, HJ2, BK355, HB⟩ := hcut
  cases kq with
  | zero => exact absurd HA.out (by simp [phaetonlaw08_CountOut.j0])
  | succ kj2 =>
   have H := HA.out
   clear HA
   simp only [phaetonlaw08_CountOut.j0] at H
   by_cases c13 : x16_2 = true
   ·subst c13
    have H1 : (some t356) = some r := by rw [if_pos rfl] at H; exact H
    clear H
    have H := H1
    clear H1
    obtain rfl := Option.some.inj H
    go_wp2
    go_ret
    exact ⟨by first | rfl | (simp [errW_none, errW_some] <;> rfl) | (simp [*, errW_none, errW_some] <;> rfl), by repeat (first | (with_reducible first | exact HB.out | apply lA | apply lN | apply lW | refine lS ?_ GE355.out) | exact HB.out)⟩
   ·replace c13 := Bool.eq_false_iff.mpr c13
    subst c13
    have H1 : ((phaetonlaw08_times.f kj2 3 (wrap64 (Int.tdiv (wrap64 ((wrap64 (256 - a0_0)) + 7)) 8))).bind fun t358 => ((count_Steps.f kj2 a0_0 a0_1 a0_2 a0_3 t358).bind fun bt361 => ((phaetonlaw08_times.f kj2 3 (wrap64 ((wrap64 (Int.tdiv (wrap64 ((wrap64 (256 - a0_0)) + 7)) 8)) - 1))).bind fun t366 => ((count_Steps.f kj2 a0_0 a0_1 a0_2 a0_3 t366).bind fun bt369 => ((count_Step.f a0_0 a0_1 a0_2 a0_3 3).bind fun bt374 => ((count_Step.f bt374.1 bt374.2.1 bt374.2.2.1 bt374.2.2.2 1).bind fun bt378 => (if t356 = true then (if (bt361.1 == 256 && (bt361.2.1 == 0 && (bt361.2.2.1 == 3 && (bt361.2.2.2 == 0)))) = true then (if bt369.2.2.1 = 3 then (none) else (if bt369.1 = (wrap64 (a0_0 + (wrap64 (8 * (wrap64 ((wrap64 (Int.tdiv (wrap64 ((wrap64 (256 - a0_0)) + 7)) 8)) - 1)))))) then (if bt369.2.1 = a0_1 then (if (wrap64 (Int.tdiv (wrap64 ((wrap64 (256 - a0_0)) + 7)) 8)) = 1 then (if bt378.2.2.1 = 3 then (some true) else (some (bt378.1 == (wrap64 (a0_0 + 7))))) else (some (bt378.1 == (wrap64 (a0_0 + 7))))) else (none)) else (none))) else (none)) else (none)))))))) = some r := by rw [if_neg (show ¬ (false = true) by decide)] at H; exact H
    clear H
    have H := H1
    clear H1
    replace H := Option.bind_eq_some_iff.mp H
    obtain ⟨t358, A140, H⟩ := H
    replace H : ((count_Steps.f kj2 a0_0 a0_1 a0_2 a0_3 t358).bind fun bt361 => ((phaetonlaw08_times.f kj2 3 (wrap64 ((wrap64 (Int.tdiv (wrap64 ((wrap64 (256 - a0_0)) + 7)) 8)) - 1))).bind fun t366 => ((count_Steps.f kj2 a0_0 a0_1 a0_2 a0_3 t366).bind fun bt369 => ((count_Step.f a0_0 a0_1 a0_2 a0_3 3).bind fun bt374 => ((count_Step.f bt374.1 bt374.2.1 bt374.2.2.1 bt374.2.2.2 1).bind fun bt378 => (if t356 = true then (if (bt361.1 == 256 && (bt361.2.1 == 0 && (bt361.2.2.1 == 3 && (bt361.2.2.2 == 0)))) = true then (if bt369.2.2.1 = 3 then (none) else (if bt369.1 = (wrap64 (a0_0 + (wrap64 (8 * (wrap64 ((wrap64 (Int.tdiv (wrap64 ((wrap64 (256 - a0_0)) + 7)) 8)) - 1)))))) then (if bt369.2.1 = a0_1 then (if (wrap64 (Int.tdiv (wrap64 ((wrap64 (256 - a0_0)) + 7)) 8)) = 1 then (if bt378.2.2.1 = 3 then (some true) else (some (bt378.1 == (wrap64 (a0_0 + 7))))) else (some (bt378.1 == (wrap64 (a0_0 + 7))))) else (none)) else (none))) else (none)) else (none))))))) = some r := H
    have A14 := aM A140
    clear A140
    replace H := Option.bind_eq_some_iff.mp H
    obtain ⟨⟨t361, t362, t363, t364⟩, A150, H⟩ := H
    replace H : ((phaetonlaw08_times.f kj2 3 (wrap64 ((wrap64 (Int.tdiv (wrap64 ((wrap64 (256 - a0_0)) + 7)) 8)) - 1))).bind fun t366 => ((count_Steps.f kj2 a0_0 a0_1 a0_2 a0_3 t366).bind fun bt369 => ((count_Step.f a0_0 a0_1 a0_2 a0_3 3).bind fun bt374 => ((count_Step.f bt374.1 bt374.2.1 bt374.2.2.1 bt374.2.2.2 1).bind fun bt378 => (if t356 = true then (if (t361 == 256 && (t362 == 0 && (t363 == 3 && (t364 == 0)))) = true then (if bt369.2.2.1 = 3 then (none) else (if bt369.1 = (wrap64 (a0_0 + (wrap64 (8 * (wrap64 ((wrap64 (Int.tdiv (wrap64 ((wrap64 (256 - a0_0)) + 7)) 8)) - 1)))))) then (if bt369.2.1 = a0_1 then (if (wrap64 (Int.tdiv (wrap64 ((wrap64 (256 - a0_0)) + 7)) 8)) = 1 then (if bt378.2.2.1 = 3 then (some true) else (some (bt378.1 == (wrap64 (a0_0 + 7))))) else (some (bt378.1 == (wrap64 (a0_0 + 7))))) else (none)) else (none))) else (none)) else (none)))))) = some r := H
    have A15 := aM A150
    clear A150
    replace H := Option.bind_eq_some_iff.mp H
    obtain ⟨t366, A160, H⟩ := H
    replace H : ((count_Steps.f kj2 a0_0 a0_1 a0_2 a0_3 t366).bind fun bt369 => ((count_Step.f a0_0 a0_1 a0_2 a0_3 3).bind fun bt374 => ((count_Step.f bt374.1 bt374.2.1 bt374.2.2.1 bt374.2.2.2 1).bind fun bt378 => (if t356 = true then (if (t361 == 256 && (t362 == 0 && (t363 == 3 && (t364 == 0)))) = true then (if bt369.2.2.1 = 3 then (none) else (if bt369.1 = (wrap64 (a0_0 + (wrap64 (8 * (wrap64 ((wrap64 (Int.tdiv (wrap64 ((wrap64 (256 - a0_0)) + 7)) 8)) - 1)))))) then (if bt369.2.1 = a0_1 then (if (wrap64 (Int.tdiv (wrap64 ((wrap64 (256 - a0_0)) + 7)) 8)) = 1 then (if bt378.2.2.1 = 3 then (some true) else (some (bt378.1 == (wrap64 (a0_0 + 7))))) else (some (bt378.1 == (wrap64 (a0_0 + 7))))) else (none)) else (none))) else (none)) else (none))))) = some r := H
    have A16 := aM A160
    clear A160
    replace H := Option.bind_eq_some_iff.mp H
    obtain ⟨⟨t369, t370, t371, t372⟩, A170, H⟩ := H
    replace H : ((count_Step.f a0_0 a0_1 a0_2 a0_3 3).bind fun bt374 => ((count_Step.f bt374.1 bt374.2.1 bt374.2.2.1 bt374.2.2.2 1).bind fun bt378 => (if t356 = true then (if (t361 == 256 && (t362 == 0 && (t363 == 3 && (t364 == 0)))) = true then (if t371 = 3 then (none) else (if t369 = (wrap64 (a0_0 + (wrap64 (8 * (wrap64 ((wrap64 (Int.tdiv (wrap64 ((wrap64 (256 - a0_0)) + 7)) 8)) - 1)))))) then (if t370 = a0_1 then (if (wrap64 (Int.tdiv (wrap64 ((wrap64 (256 - a0_0)) + 7)) 8)) = 1 then (if bt378.2.2.1 = 3 then (some true) else (some (bt378.1 == (wrap64 (a0_0 + 7))))) else (some (bt378.1 == (wrap64 (a0_0 + 7))))) else (none)) else (none))) else (none)) else (none)))) = some r := H
    have A17 := aM A170
    clear A170
    replace H := Option.bind_eq_some_iff.mp H
    obtain ⟨⟨t374, t375, t376, t377⟩, A180, H⟩ := H
    replace H : ((count_Step.f t374 t375 t376 t377 1).bind fun bt378 => (if t356 = true then (if (t361 == 256 && (t362 == 0 && (t363 == 3 && (t364 == 0)))) = true then (if t371 = 3 then (none) else (if t369 = (wrap64 (a0_0 + (wrap64 (8 * (wrap64 ((wrap64 (Int.tdiv (wrap64 ((wrap64 (256 - a0_0)) + 7)) 8)) - 1)))))) then (if t370 = a0_1 then (if (wrap64 (Int.tdiv (wrap64 ((wrap64 (256 - a0_0)) + 7)) 8)) = 1 then (if bt378.2.2.1 = 3 then (some true) else (some (bt378.1 == (wrap64 (a0_0 + 7))))) else (some (bt378.1 == (wrap64 (a0_0 + 7))))) else (none)) else (none))) else (none)) else (none))) = some r := H
    have A18 := aM A180
    clear A180
    replace H := Option.bind_eq_some_iff.mp H
    obtain ⟨⟨t378, t379, t380, t381⟩, A190, H⟩ := H
    replace H : (if t356 = true then (if (t361 == 256 && (t362 == 0 && (t363 == 3 && (t364 == 0)))) = true then (if t371 = 3 then (none) else (if t369 = (wrap64 (a0_0 + (wrap64 (8 * (wrap64 ((wrap64 (Int.tdiv (wrap64 ((wrap64 (256 - a0_0)) + 7)) 8)) - 1)))))) then (if t370 = a0_1 then (if (wrap64 (Int.tdiv (wrap64 ((wrap64 (256 - a0_0)) + 7)) 8)) = 1 then (if t380 = 3 then (some true) else (some (t378 == (wrap64 (a0_0 + 7))))) else (some (t378 == (wrap64 (a0_0 + 7))))) else (none)) else (none))) else (none)) else (none)) = some r := H
    have A19 := aM A190
    clear A190
    by_cases c20 : t356 = true
    ·subst c20
     have H1 : (if (t361 == 256 && (t362 == 0 && (t363 == 3 && (t364 == 0)))) = true then (if t371 = 3 then (none) else (if t369 = (wrap64 (a0_0 + (wrap64 (8 * (wrap64 ((wrap64 (Int.tdiv (wrap64 ((wrap64 (256 - a0_0)) + 7)) 8)) - 1)))))) then (if t370 = a0_1 then (if (wrap64 (Int.tdiv (wrap64 ((wrap64 (256 - a0_0)) + 7)) 8)) = 1 then (if t380 = 3 then (some true) else (some (t378 == (wrap64 (a0_0 + 7))))) else (some (t378 == (wrap64 (a0_0 + 7))))) else (none)) else (none))) else (none)) = some r := by rw [if_pos rfl] at H; exact H
     clear H
     have H := H1
     clear H1
     by_cases c21 : (t361 == 256 && (t362 == 0 && (t363 == 3 && (t364 == 0)))) = true
     ·rw [if_pos c21] at H
      have c21b0 : (t361 == 256 && (t362 == 0 && (t363 == 3 && (t364 == 0)))) = true := c21
      (try (have c21b1 : decide (t361 = 256 && (t362 == 0 && (t363 == 3 && (t364 == 0)))) = true := by simpa using c21))
      (try (have c21b2 : (t361 == 256 && (t362 == 0 && (t363 == 3 && (t364 == 0)))) = true := by simpa using c21))
      clear c21
      by_cases c22 : t371 = 3
      ·rw [if_pos c22] at H
       exact absurd H (by simp)
      ·rw [if_neg c22] at H
       have c22b0 : (t371 == 3) = false := beq_eq_false_iff_ne.mpr c22
       have c22b1 : (t371 != 3) = true := bne_iff_ne.mpr c22
       by_cases c23 : t369 = (wrap64 (a0_0 + (wrap64 (8 * (wrap64 ((wrap64 (Int.tdiv (wrap64 ((wrap64 (256 - a0_0)) + 7)) 8)) - 1))))))
       ·rw [if_pos c23] at H
        have c23b0 : (t369 == (wrap64 (a0_0 + (wrap64 (8 * (wrap64 ((wrap64 (Int.tdiv (wrap64 ((wrap64 (256 - a0_0)) + 7)) 8)) - 1))))))) = true := beq_iff_eq.mpr c23
        have c23b1 : (t369 != (wrap64 (a0_0 + (wrap64 (8 * (wrap64 ((wrap64 (Int.tdiv (wrap64 ((wrap64 (256 - a0_0)) + 7)) 8)) - 1))))))) = false := bne_eq_false_iff_eq.mpr c23
        clear c23
        by_cases c24 : t370 = a0_1
        ·rw [if_pos c24] at H
         have c24b0 : (t370 == a0_1) = true := beq_iff_eq.mpr c24
         have c24b1 : (t370 != a0_1) = false := bne_eq_false_iff_eq.mpr c24
         clear c24
         by_cases c25 : (wrap64 (Int.tdiv (wrap64 ((wrap64 (256 - a0_0)) + 7)) 8)) = 1
         ·rw [if_pos c25] at H
          have c25b0 : ((wrap64 (Int.tdiv (wrap64 ((wrap64 (256 - a0_0)) + 7)) 8)) == 1) = true := beq_iff_eq.mpr c25
          have c25b1 : ((wrap64 (Int.tdiv (wrap64 ((wrap64 (256 - a0_0)) + 7)) 8)) != 1) = false := bne_eq_false_iff_eq.mpr c25
          clear c25
          by_cases c26 : t380 = 3
          ·rw [if_pos c26] at H
           have c26b0 : (t380 == 3) = true := beq_iff_eq.mpr c26
           have c26b1 : (t380 != 3) = false := bne_eq_false_iff_eq.mpr c26
           clear c26
           obtain rfl := Option.some.inj H
           have hcz27_0 : wc.cell? ⟨gb355, 0, none⟩ = some (.int .i64 a0_0) := (blk_cell BK355.out 0).trans rfl
           have hcz27_1 : wc.cell? ⟨gb355, 1, none⟩ = some (.int .i64 a0_1) := (blk_cell BK355.out 1).trans rfl
           have hcz27_2 : wc.cell? ⟨gb355, 2, none⟩ = some (.int .i64 a0_2) := (blk_cell BK355.out 2).trans rfl
           have hcz27_3 : wc.cell? ⟨gb355, 3, none⟩ = some (.int .i64 a0_3) := (blk_cell BK355.out 3).trans rfl
           have hfz27_0 := blk_frozen BK355.out 0
           have hfz27_1 := blk_frozen BK355.out 1
           have hfz27_2 := blk_frozen BK355.out 2
           have hfz27_3 := blk_frozen BK355.out 3
           try go_wp2
           have n0_ := aM (bW BK355.out)
           have n1_ := aM (lW HB.out)
           clear BK355
           clear HB
           have BK355 := n0_
           have HB := n1_
           clear n0_ n1_
           refine start_ (n := 6) (S := fun w' => w'.cell? ⟨gb355, 0, none⟩ = some (.int .i64 a0_0) ∧ w'.cell? ⟨gb355, 1, none⟩ = some (.int .i64 a0_1) ∧ w'.cell? ⟨gb355, 2, none⟩ = some (.int .i64 a0_2) ∧ w'.cell? ⟨gb355, 3, none⟩ = some (.int .i64 a0_3)) (ds := []) #[false, false, false, false, false, false] (by kernel_rfl) rfl rfl ⟨(blk_cell BK355.out 0).trans rfl, (blk_cell BK355.out 1).trans rfl, (blk_cell BK355.out 2).trans rfl, (blk_cell BK355.out 3).trans rfl⟩ (fun hHeld => ?_)
           generalize wc.drew = w28 at BK355 HB hHeld ⊢
           refine pure_ (i := 1) (N := some 24) (v := ?_) (a' := ?_) #[false, true, false, false, false, false] rfl rfl (by kernel_rfl) (fun _ _ _ h => h) (Or.inl ⟨by rfl, ?_⟩) ?_ ?_
           rotate_left
           ·intro w'
            go_simp
            with_reducible rfl
           rotate_left
           ·simp only [Act.put, sT, sZ, sS, i64_w, i32_w]
            rfl
           refine take_ (i := 0) (N := some 23) (v := ?_) (a' := ?_) #[true, true, false, false, false, false] rfl rfl (by kernel_rfl) (fun _ _ _ h => h) (Or.inl ⟨by rfl, ?_⟩) hHeld ?_ ?_
           rotate_left
           ·rintro w' ⟨s0, s1, s2, s3⟩
            go_simp
            with_reducible rfl
           rotate_left
           ·simp only [Act.put, sT, sZ, sS, i64_w, i32_w]
            rfl
           refine join_ (σ := Value × Nat) 1 #[true, true, true, true, true, false] (fun s_ => [(25, s_.1), (26, .agg #[.int .i64 t361, .int .i64 t362, .int .i64 t363, .int .i64 t364]), (5, .pointer (some ⟨s_.2, 0, none⟩))]) (fun s_ w' => (w'.cell? ⟨gb355, 0, none⟩ = some (.int .i64 a0_0) ∧ w'.cell? ⟨gb355, 1, none⟩ = some (.int .i64 a0_1) ∧ w'.cell? ⟨gb355, 2, none⟩ = some (.int .i64 a0_2) ∧ w'.cell? ⟨gb355, 3, none⟩ = some (.int .i64 a0_3)) ∧ (Kd.R (Kd.int .i64) 3 w' w.heap.size (fun _ => True) s_.1 t358) ∧ (w'.heap[gb355]? = some (.cells #[.int .i64 a0_0, .int .i64 a0_1, .int .i64 a0_2, .int .i64 a0_3] 23 (0, 0))) ∧ (w'.heap[s_.2]? = some (.cells #[.int .i64 0, .int .i64 0, .int .i64 0, .int .i64 0] 23 (0, 0))) ∧ (w.heap.size ≤ s_.2) ∧ (w.heap.size ≤ s_.2) ∧ (gb355 ≠ s_.2) ∧ (s_.2 ≠ gb355) ∧ (Below w.heap.size w w')) ?_ ?_
           rotate_left
           ·intro hCont
            refine two_ (i := 2) (j := 4) (Ni := some 25) (Nj := some 5) #[true, true, true, false, false, false] #[true, true, false, false, true, false] rfl rfl rfl rfl (by kernel_rfl) (by decide) (by decide) (fun K hK => ?_) (fun K hK => ?_)
            ·skip
             refine goes_ Try.func19 (by kernel_rfl) rfl #[.int .i64 3, .int .i64 (wrap64 (Int.tdiv (wrap64 ((wrap64 (256 - a0_0)) + 7)) 8))] (by rfl) rfl rfl (by (try simp only [List.map_toArray, List.map_cons, List.map_nil]); first | done | rfl | (simp only [List.length_drop, List.length_take]; rfl)) ?_
             with_reducible refine (phaetonlaw08_times.calls kj2 3 (wrap64 (Int.tdiv (wrap64 ((wrap64 (256 - a0_0)) + 7)) 8)) t358 _ A14.out).mono ?_
             rintro e w29 ⟨v359, rfl, ho0, hb⟩
             refine ⟨_, rfl, ?_⟩
             have n0_ := aM (Kd.R_lower ho0 (below_size (by repeat (first | (with_reducible first | exact HB.out | apply lA | apply lN | apply lW | refine lS ?_ GE355.out) | exact HB.out))))
             have n1_ := aM (blk_below (g := gb355) (o := .cells #[.int .i64 a0_0, .int .i64 a0_1, .int .i64 a0_2, .int .i64 a0_3] 23 (0, 0)) (by (with_reducible repeat (first | refine bN ?_ _ | refine bW ?_ | refine bA ?_ _)); exact BK355.out) hb)
             have n2_ := aM (below_step (by repeat (first | (with_reducible first | exact HB.out | apply lA | apply lN | apply lW | refine lS ?_ GE355.out) | exact HB.out)) hb)
             clear BK355
             clear HB
             have HO360 := n0_
             have BK355 := n1_
             have HB := n2_
             clear n0_ n1_ n2_
             (try clear hb)
             (try clear hb2)
             (try clear hk)
             (try clear hi)
             (try clear ho0)
             obtain ⟨Ao30, co30, eo30⟩ := Kd.R_slice HO360.out
             (first | subst eo30 | (injection eo30 with f1_ f2_ f3_; have f4_ := f1_.symm; have f5_ := f3_.symm; clear f1_ f2_ f3_; subst f4_; subst f5_))
             refine hK.out _ _ ⟨(blk_cell BK355.out 0).trans rfl, (blk_cell BK355.out 1).trans rfl, (blk_cell BK355.out 2).trans rfl, (blk_cell BK355.out 3).trans rfl⟩ (fun hHeld => ?_)
             clear hK K
             refine norm_ (a' := ?_) ?_ ?_
             rotate_left
             ·show Act.put _ (some 25) _ = _
              simp only [Act.put, sT, sZ, sS, i64_w, i32_w]
              rfl
             refine two_ (i := 3) (j := 4) (Ni := some 26) (Nj := some 5) #[true, true, true, true, false, false] #[true, true, true, false, true, false] rfl rfl rfl rfl (by kernel_rfl) (by decide) (by decide) (fun K hK => ?_) (fun K hK => ?_)
             ·skip
              refine goes_ Try.func17 (by kernel_rfl) rfl #[.agg #[.int .i64 a0_0, .int .i64 a0_1, .int .i64 a0_2, .int .i64 a0_3], .slice Ao30 t358.length co30] (by rfl) rfl rfl (by (try simp only [List.map_toArray, List.map_cons, List.map_nil]); first | done | rfl | (simp only [List.length_drop, List.length_take]; rfl)) ?_
              with_reducible refine (count_Steps.calls kj2 a0_0 a0_1 a0_2 a0_3 _ _ t358 t361 t362 t363 t364 _ ?side1 ?side2 A15.out).mono ?_
              (case side1 => repeat (first | exact (Kd.R_reads' HO360.out).2.2 | (with_reducible refine Kd.C_alloc ?_ _) | (with_reducible refine Kd.C_drewN ?_ _) | (with_reducible refine Kd.C_drew ?_)))
              (case side2 => exact (Kd.R_reads' HO360.out).2.1)
              rintro e w31 ⟨rfl, hb⟩
              refine ⟨_, rfl, ?_⟩
              have n0_ := aM (Kd.R_below (by (with_reducible repeat (first | apply rA | apply rN | apply rW)); exact HO360.out) hb)
              have n1_ := aM (blk_below (g := gb355) (o := .cells #[.int .i64 a0_0, .int .i64 a0_1, .int .i64 a0_2, .int .i64 a0_3] 23 (0, 0)) (by (with_reducible repeat (first | refine bN ?_ _ | refine bW ?_ | refine bA ?_ _)); exact BK355.out) hb)
              have n2_ := aM (below_step (by repeat (first | (with_reducible first | exact HB.out | apply lA | apply lN | apply lW | refine lS ?_ GE355.out) | exact HB.out)) hb)
              clear HO360
              clear BK355
              clear HB
              have HO360 := n0_
              have BK355 := n1_
              have HB := n2_
              clear n0_ n1_ n2_
              (try clear hb)
              (try clear hb2)
              (try clear hk)
              (try clear hi)
              refine hK.out _ _ ⟨(blk_cell BK355.out 0).trans rfl, (blk_cell BK355.out 1).trans rfl, (blk_cell BK355.out 2).trans rfl, (blk_cell BK355.out 3).trans rfl⟩ (fun hHeld => ?_)
              clear hK K
              refine norm_ (a' := ?_) ?_ ?_
              rotate_left
              ·show Act.put _ (some 26) _ = _
               simp only [Act.put, sT, sZ, sS, i64_w, i32_w]
               rfl
              refine one_ (i := 4) (N := some 5) #[true, true, true, true, true, false] rfl rfl (by kernel_rfl) (by decide) (fun K hK => ?_)
              refine box_step ?hg (N := 5) ?hd (cs := #[.int .i64 0, .int .i64 0, .int .i64 0, .int .i64 0]) (t := 23) ?hr ?_; (case hd => rfl); (case hg => rfl); (case hr => first | (go_simp; done) | (go_simp; rfl))
              intro gb365 hg w32 hbox hb
              have n0_ := aM (Kd.R_below (by (with_reducible repeat (first | apply rA | apply rN | apply rW)); exact HO360.out) hb)
              have n1_ := aM (blk_below (g := gb355) (o := .cells #[.int .i64 a0_0, .int .i64 a0_1, .int .i64 a0_2, .int .i64 a0_3] 23 (0, 0)) (by (with_reducible repeat (first | refine bN ?_ _ | refine bW ?_ | refine bA ?_ _)); exact BK355.out) hb)
              have n2_ := aM (below_step (by repeat (first | (with_reducible first | exact HB.out | apply lA | apply lN | apply lW | refine lS ?_ GE355.out) | exact HB.out)) hb)
              have n3_ := aM (hbox)
              have n4_ := aM ((by rw [hg]; exact (below_size (by repeat (first | (with_reducible first | exact HB.out | apply lA | apply lN | apply lW | refine lS ?_ GE355.out) | exact HB.out))) : w.heap.size ≤ gb365))
              have n5_ := aM ((by rw [hg]; exact (below_size (by repeat (first | (with_reducible first | exact HB.out | apply lA | apply lN | apply lW | refine lS ?_ GE355.out) | exact HB.out))) : w.heap.size ≤ gb365))
              have n6_ := aM ((by rw [hg]; exact Nat.ne_of_lt (blk_lt (g := gb355) (o := .cells #[.int .i64 a0_0, .int .i64 a0_1, .int .i64 a0_2, .int .i64 a0_3] 23 (0, 0)) (by (with_reducible repeat (first | refine bN ?_ _ | refine bW ?_ | refine bA ?_ _)); exact BK355.out)) : gb355 ≠ gb365))
              have n7_ := aM ((by rw [hg]; exact Nat.ne_of_gt (blk_lt (g := gb355) (o := .cells #[.int .i64 a0_0, .int .i64 a0_1, .int .i64 a0_2, .int .i64 a0_3] 23 (0, 0)) (by (with_reducible repeat (first | refine bN ?_ _ | refine bW ?_ | refine bA ?_ _)); exact BK355.out)) : gb365 ≠ gb355))
              clear HO360
              clear BK355
              clear HB
              have HO360 := n0_
              have BK355 := n1_
              have HB := n2_
              have BK365 := n3_
              have GW365 := n4_
              have GE365 := n5_
              have NB355_365 := n6_
              have NB365_355 := n7_
              clear n0_ n1_ n2_ n3_ n4_ n5_ n6_ n7_
              clear hb hbox hg
              refine hK.out _ _ ⟨(blk_cell BK355.out 0).trans rfl, (blk_cell BK355.out 1).trans rfl, (blk_cell BK355.out 2).trans rfl, (blk_cell BK355.out 3).trans rfl⟩ (fun hHeld => ?_)
              clear hK K
              refine norm_ (a' := ?_) ?_ ?_
              rotate_left
              ·show Act.put _ (some 5) _ = _
               simp only [Act.put, sT, sZ, sS, i64_w, i32_w]
               rfl
              exact norm_ (by simp only [putAll, Act.put, sT, sZ, sS]) (hCont (.slice Ao30 t358.length co30, gb365) _ ⟨hHeld, (by (with_reducible repeat (first | apply rA | apply rN | apply rW)); exact HO360.out), (by (with_reducible repeat (first | refine bN ?_ _ | refine bW ?_ | refine bA ?_ _)); exact BK355.out), (by (with_reducible repeat (first | refine bN ?_ _ | refine bW ?_ | refine bA ?_ _)); exact BK365.out), GW365.out, GE365.out, NB355_365.out, NB365_355.out, (by repeat (first | (with_reducible first | exact HB.out | apply lA | apply lN | apply lW | refine lS ?_ GE355.out | refine lS ?_ GE365.out) | exact HB.out))⟩)
             ·skip
              refine box_step ?hg (N := 5) ?hd (cs := #[.int .i64 0, .int .i64 0, .int .i64 0, .int .i64 0]) (t := 23) ?hr ?_; (case hd => rfl); (case hg => rfl); (case hr => first | (go_simp; done) | (go_simp; rfl))
              intro gb365 hg w30 hbox hb
              have n0_ := aM (Kd.R_below (by (with_reducible repeat (first | apply rA | apply rN | apply rW)); exact HO360.out) hb)
              have n1_ := aM (blk_below (g := gb355) (o := .cells #[.int .i64 a0_0, .int .i64 a0_1, .int .i64 a0_2, .int .i64 a0_3] 23 (0, 0)) (by (with_reducible repeat (first | refine bN ?_ _ | refine bW ?_ | refine bA ?_ _)); exact BK355.out) hb)
              have n2_ := aM (below_step (by repeat (first | (with_reducible first | exact HB.out | apply lA | apply lN | apply lW | refine lS ?_ GE355.out) | exact HB.out)) hb)
              have n3_ := aM (hbox)
              have n4_ := aM ((by rw [hg]; exact (below_size (by repeat (first | (with_reducible first | exact HB.out | apply lA | apply lN | apply lW | refine lS ?_ GE355.out) | exact HB.out))) : w.heap.size ≤ gb365))
              have n5_ := aM ((by rw [hg]; exact (below_size (by repeat (first | (with_reducible first | exact HB.out | apply lA | apply lN | apply lW | refine lS ?_ GE355.out) | exact HB.out))) : w.heap.size ≤ gb365))
              have n6_ := aM ((by rw [hg]; exact Nat.ne_of_lt (blk_lt (g := gb355) (o := .cells #[.int .i64 a0_0, .int .i64 a0_1, .int .i64 a0_2, .int .i64 a0_3] 23 (0, 0)) (by (with_reducible repeat (first | refine bN ?_ _ | refine bW ?_ | refine bA ?_ _)); exact BK355.out)) : gb355 ≠ gb365))
              have n7_ := aM ((by rw [hg]; exact Nat.ne_of_gt (blk_lt (g := gb355) (o := .cells #[.int .i64 a0_0, .int .i64 a0_1, .int .i64 a0_2, .int .i64 a0_3] 23 (0, 0)) (by (with_reducible repeat (first | refine bN ?_ _ | refine bW ?_ | refine bA ?_ _)); exact BK355.out)) : gb365 ≠ gb355))
              clear HO360
              clear BK355
              clear HB
              have HO360 := n0_
              have BK355 := n1_
              have HB := n2_
              have BK365 := n3_
              have GW365 := n4_
              have GE365 := n5_
              have NB355_365 := n6_
              have NB365_355 := n7_
              clear n0_ n1_ n2_ n3_ n4_ n5_ n6_ n7_
              clear hb hbox hg
              obtain ⟨Ao31, co31, eo31⟩ := Kd.R_slice HO360.out
              (first | subst eo31 | (injection eo31 with f1_ f2_ f3_; have f4_ := f1_.symm; have f5_ := f3_.symm; clear f1_ f2_ f3_; subst f4_; subst f5_))
              refine hK.out _ _ ⟨(blk_cell BK355.out 0).trans rfl, (blk_cell BK355.out 1).trans rfl, (blk_cell BK355.out 2).trans rfl, (blk_cell BK355.out 3).trans rfl⟩ (fun hHeld => ?_)
              clear hK K
              refine norm_ (a' := ?_) ?_ ?_
              rotate_left
              ·show Act.put _ (some 5) _ = _
               simp only [Act.put, sT, sZ, sS, i64_w, i32_w]
               rfl
              refine one_ (i := 3) (N := some 26) #[true, true, true, true, true, false] rfl rfl (by kernel_rfl) (by decide) (fun K hK => ?_)
              refine goes_ Try.func17 (by kernel_rfl) rfl #[.agg #[.int .i64 a0_0, .int .i64 a0_1, .int .i64 a0_2, .int .i64 a0_3], .slice Ao31 t358.length co31] (by rfl) rfl rfl (by (try simp only [List.map_toArray, List.map_cons, List.map_nil]); first | done | rfl | (simp only [List.length_drop, List.length_take]; rfl)) ?_
              with_reducible refine (count_Steps.calls kj2 a0_0 a0_1 a0_2 a0_3 _ _ t358 t361 t362 t363 t364 _ ?side1 ?side2 A15.out).mono ?_
              (case side1 => repeat (first | exact (Kd.R_reads' HO360.out).2.2 | (with_reducible refine Kd.C_alloc ?_ _) | (with_reducible refine Kd.C_drewN ?_ _) | (with_reducible refine Kd.C_drew ?_)))
              (case side2 => exact (Kd.R_reads' HO360.out).2.1)
              rintro e w32 ⟨rfl, hb⟩
              refine ⟨_, rfl, ?_⟩
              have n0_ := aM (Kd.R_below (by (with_reducible repeat (first | apply rA | apply rN | apply rW)); exact HO360.out) hb)
              have n1_ := aM (blk_below (g := gb355) (o := .cells #[.int .i64 a0_0, .int .i64 a0_1, .int .i64 a0_2, .int .i64 a0_3] 23 (0, 0)) (by (with_reducible repeat (first | refine bN ?_ _ | refine bW ?_ | refine bA ?_ _)); exact BK355.out) hb)
              have n2_ := aM (blk_below (g := gb365) (o := .cells #[.int .i64 0, .int .i64 0, .int .i64 0, .int .i64 0] 23 (0, 0)) (by (with_reducible repeat (first | refine bN ?_ _ | refine bW ?_ | refine bA ?_ _)); exact BK365.out) hb)
              have n3_ := aM (below_step (by repeat (first | (with_reducible first | exact HB.out | apply lA | apply lN | apply lW | refine lS ?_ GE355.out | refine lS ?_ GE365.out) | exact HB.out)) hb)
              clear HO360
              clear BK355
              clear BK365
              clear HB
              have HO360 := n0_
              have BK355 := n1_
              have BK365 := n2_
              have HB := n3_
              clear n0_ n1_ n2_ n3_
              (try clear hb)
              (try clear hb2)
              (try clear hk)
              (try clear hi)
              refine hK.out _ _ ⟨(blk_cell BK355.out 0).trans rfl, (blk_cell BK355.out 1).trans rfl, (blk_cell BK355.out 2).trans rfl, (blk_cell BK355.out 3).trans rfl⟩ (fun hHeld => ?_)
              clear hK K
              refine norm_ (a' := ?_) ?_ ?_
              rotate_left
              ·show Act.put _ (some 26) _ = _
               simp only [Act.put, sT, sZ, sS, i64_w, i32_w]
               rfl
              exact norm_ (by simp only [putAll, Act.put, sT, sZ, sS]) (hCont (.slice Ao31 t358.length co31, gb365) _ ⟨hHeld, (by (with_reducible repeat (first | apply rA | apply rN | apply rW)); exact HO360.out), (by (with_reducible repeat (first | refine bN ?_ _ | refine bW ?_ | refine bA ?_ _)); exact BK355.out), (by (with_reducible repeat (first | refine bN ?_ _ | refine bW ?_ | refine bA ?_ _)); exact BK365.out), GW365.out, GE365.out, NB355_365.out, NB365_355.out, (by repeat (first | (with_reducible first | exact HB.out | apply lA | apply lN | apply lW | refine lS ?_ GE355.out | refine lS ?_ GE365.out) | exact HB.out))⟩)
            ·skip
             refine box_step ?hg (N := 5) ?hd (cs := #[.int .i64 0, .int .i64 0, .int .i64 0, .int .i64 0]) (t := 23) ?hr ?_; (case hd => rfl); (case hg => rfl); (case hr => first | (go_simp; done) | (go_simp; rfl))
             intro gb365 hg w29 hbox hb
             have n0_ := aM (blk_below (g := gb355) (o := .cells #[.int .i64 a0_0, .int .i64 a0_1, .int .i64 a0_2, .int .i64 a0_3] 23 (0, 0)) (by (with_reducible repeat (first | refine bN ?_ _ | refine bW ?_ | refine bA ?_ _)); exact BK355.out) hb)
             have n1_ := aM (below_step (by repeat (first | (with_reducible first | exact HB.out | apply lA | apply lN | apply lW | refine lS ?_ GE355.out) | exact HB.out)) hb)
             have n2_ := aM (hbox)
             have n3_ := aM ((by rw [hg]; exact (below_size (by repeat (first | (with_reducible first | exact HB.out | apply lA | apply lN | apply lW | refine lS ?_ GE355.out) | exact HB.out))) : w.heap.size ≤ gb365))
             have n4_ := aM ((by rw [hg]; exact (below_size (by repeat (first | (with_reducible first | exact HB.out | apply lA | apply lN | apply lW | refine lS ?_ GE355.out) | exact HB.out))) : w.heap.size ≤ gb365))
             have n5_ := aM ((by rw [hg]; exact Nat.ne_of_lt (blk_lt (g := gb355) (o := .cells #[.int .i64 a0_0, .int .i64 a0_1, .int .i64 a0_2, .int .i64 a0_3] 23 (0, 0)) (by (with_reducible repeat (first | refine bN ?_ _ | refine bW ?_ | refine bA ?_ _)); exact BK355.out)) : gb355 ≠ gb365))
             have n6_ := aM ((by rw [hg]; exact Nat.ne_of_gt (blk_lt (g := gb355) (o := .cells #[.int .i64 a0_0, .int .i64 a0_1, .int .i64 a0_2, .int .i64 a0_3] 23 (0, 0)) (by (with_reducible repeat (first | refine bN ?_ _ | refine bW ?_ | refine bA ?_ _)); exact BK355.out)) : gb365 ≠ gb355))
             clear BK355
             clear HB
             have BK355 := n0_
             have HB := n1_
             have BK365 := n2_
             have GW365 := n3_
             have GE365 := n4_
             have NB355_365 := n5_
             have NB365_355 := n6_
             clear n0_ n1_ n2_ n3_ n4_ n5_ n6_
             clear hb hbox hg
             refine hK.out _ _ ⟨(blk_cell BK355.out 0).trans rfl, (blk_cell BK355.out 1).trans rfl, (blk_cell BK355.out 2).trans rfl, (blk_cell BK355.out 3).trans rfl⟩ (fun hHeld => ?_)
             clear hK K
             refine norm_ (a' := ?_) ?_ ?_
             rotate_left
             ·show Act.put _ (some 5) _ = _
              simp only [Act.put, sT, sZ, sS, i64_w, i32_w]
              rfl
             refine one_ (i := 2) (N := some 25) #[true, true, true, false, true, false] rfl rfl (by kernel_rfl) (by decide) (fun K hK => ?_)
             refine goes_ Try.func19 (by kernel_rfl) rfl #[.int .i64 3, .int .i64 (wrap64 (Int.tdiv (wrap64 ((wrap64 (256 - a0_0)) + 7)) 8))] (by rfl) rfl rfl (by (try simp only [List.map_toArray, List.map_cons, List.map_nil]); first | done | rfl | (simp only [List.length_drop, List.length_take]; rfl)) ?_
             with_reducible refine (phaetonlaw08_times.calls kj2 3 (wrap64 (Int.tdiv (wrap64 ((wrap64 (256 - a0_0)) + 7)) 8)) t358 _ A14.out).mono ?_
             rintro e w30 ⟨v359, rfl, ho0, hb⟩
             refine ⟨_, rfl, ?_⟩
             have n0_ := aM (Kd.R_lower ho0 (below_size (by repeat (first | (with_reducible first | exact HB.out | apply lA | apply lN | apply lW | refine lS ?_ GE355.out | refine lS ?_ GE365.out) | exact HB.out))))
             have n1_ := aM (blk_below (g := gb355) (o := .cells #[.int .i64 a0_0, .int .i64 a0_1, .int .i64 a0_2, .int .i64 a0_3] 23 (0, 0)) (by (with_reducible repeat (first | refine bN ?_ _ | refine bW ?_ | refine bA ?_ _)); exact BK355.out) hb)
             have n2_ := aM (blk_below (g := gb365) (o := .cells #[.int .i64 0, .int .i64 0, .int .i64 0, .int .i64 0] 23 (0, 0)) (by (with_reducible repeat (first | refine bN ?_ _ | refine bW ?_ | refine bA ?_ _)); exact BK365.out) hb)
             have n3_ := aM (below_step (by repeat (first | (with_reducible first | exact HB.out | apply lA | apply lN | apply lW | refine lS ?_ GE355.out | refine lS ?_ GE365.out) | exact HB.out)) hb)
             clear BK355
             clear BK365
             clear HB
             have HO360 := n0_
             have BK355 := n1_
             have BK365 := n2_
             have HB := n3_
             clear n0_ n1_ n2_ n3_
             (try clear hb)
             (try clear hb2)
             (try clear hk)
             (try clear hi)
             (try clear ho0)
             obtain ⟨Ao31, co31, eo31⟩ := Kd.R_slice HO360.out
             (first | subst eo31 | (injection eo31 with f1_ f2_ f3_; have f4_ := f1_.symm; have f5_ := f3_.symm; clear f1_ f2_ f3_; subst f4_; subst f5_))
             refine hK.out _ _ ⟨(blk_cell BK355.out 0).trans rfl, (blk_cell BK355.out 1).trans rfl, (blk_cell BK355.out 2).trans rfl, (blk_cell BK355.out 3).trans rfl⟩ (fun hHeld => ?_)
             clear hK K
             refine norm_ (a' := ?_) ?_ ?_
             rotate_left
             ·show Act.put _ (some 25) _ = _
              simp only [Act.put, sT, sZ, sS, i64_w, i32_w]
              rfl
             refine one_ (i := 3) (N := some 26) #[true, true, true, true, true, false] rfl rfl (by kernel_rfl) (by decide) (fun K hK => ?_)
             refine goes_ Try.func17 (by kernel_rfl) rfl #[.agg #[.int .i64 a0_0, .int .i64 a0_1, .int .i64 a0_2, .int .i64 a0_3], .slice Ao31 t358.length co31] (by rfl) rfl rfl (by (try simp only [List.map_toArray, List.map_cons, List.map_nil]); first | done | rfl | (simp only [List.length_drop, List.length_take]; rfl)) ?_
             with_reducible refine (count_Steps.calls kj2 a0_0 a0_1 a0_2 a0_3 _ _ t358 t361 t362 t363 t364 _ ?side1 ?side2 A15.out).mono ?_
             (case side1 => repeat (first | exact (Kd.R_reads' HO360.out).2.2 | (with_reducible refine Kd.C_alloc ?_ _) | (with_reducible refine Kd.C_drewN ?_ _) | (with_reducible refine Kd.C_drew ?_)))
             (case side2 => exact (Kd.R_reads' HO360.out).2.1)
             rintro e w32 ⟨rfl, hb⟩
             refine ⟨_, rfl, ?_⟩
             have n0_ := aM (Kd.R_below (by (with_reducible repeat (first | apply rA | apply rN | apply rW)); exact HO360.out) hb)
             have n1_ := aM (blk_below (g := gb355) (o := .cells #[.int .i64 a0_0, .int .i64 a0_1, .int .i64 a0_2, .int .i64 a0_3] 23 (0, 0)) (by (with_reducible repeat (first | refine bN ?_ _ | refine bW ?_ | refine bA ?_ _)); exact BK355.out) hb)
             have n2_ := aM (blk_below (g := gb365) (o := .cells #[.int .i64 0, .int .i64 0, .int .i64 0, .int .i64 0] 23 (0, 0)) (by (with_reducible repeat (first | refine bN ?_ _ | refine bW ?_ | refine bA ?_ _)); exact BK365.out) hb)
             have n3_ := aM (below_step (by repeat (first | (with_reducible first | exact HB.out | apply lA | apply lN | apply lW | refine lS ?_ GE355.out | refine lS ?_ GE365.out) | exact HB.out)) hb)
             clear HO360
             clear BK355
             clear BK365
             clear HB
             have HO360 := n0_
             have BK355 := n1_
             have BK365 := n2_
             have HB := n3_
             clear n0_ n1_ n2_ n3_
             (try clear hb)
             (try clear hb2)
             (try clear hk)
             (try clear hi)
             refine hK.out _ _ ⟨(blk_cell BK355.out 0).trans rfl, (blk_cell BK355.out 1).trans rfl, (blk_cell BK355.out 2).trans rfl, (blk_cell BK355.out 3).trans rfl⟩ (fun hHeld => ?_)
             clear hK K
             refine norm_ (a' := ?_) ?_ ?_
             rotate_left
             ·show Act.put _ (some 26) _ = _
              simp only [Act.put, sT, sZ, sS, i64_w, i32_w]
              rfl
             exact norm_ (by simp only [putAll, Act.put, sT, sZ, sS]) (hCont (.slice Ao31 t358.length co31, gb365) _ ⟨hHeld, (by (with_reducible repeat (first | apply rA | apply rN | apply rW)); exact HO360.out), (by (with_reducible repeat (first | refine bN ?_ _ | refine bW ?_ | refine bA ?_ _)); exact BK355.out), (by (with_reducible repeat (first | refine bN ?_ _ | refine bW ?_ | refine bA ?_ _)); exact BK365.out), GW365.out, GE365.out, NB355_365.out, NB365_355.out, (by repeat (first | (with_reducible first | exact HB.out | apply lA | apply lN | apply lW | refine lS ?_ GE355.out | refine lS ?_ GE365.out) | exact HB.out))⟩)
           rintro ⟨v359, gb365⟩ w33 ⟨hS_, h0_, h1_, h2_, h3_, h4_, h5_, h6_, h7_⟩
           have n0_ : Aside0 (Kd.R (Kd.int .i64) 3 w33 w.heap.size (fun _ => True) v359 t358) := ⟨h0_⟩
           have n1_ : Aside0 (w33.heap[gb355]? = some (.cells #[.int .i64 a0_0, .int .i64 a0_1, .int .i64 a0_2, .int .i64 a0_3] 23 (0, 0))) := ⟨h1_⟩
           have n2_ : Aside0 (w33.heap[gb365]? = some (.cells #[.int .i64 0, .int .i64 0, .int .i64 0, .int .i64 0] 23 (0, 0))) := ⟨h2_⟩
           have n3_ : Aside0 (w.heap.size ≤ gb365) := ⟨h3_⟩
           have n4_ : Aside0 (w.heap.size ≤ gb365) := ⟨h4_⟩
           have n5_ : Aside0 (gb355 ≠ gb365) := ⟨h5_⟩
           have n6_ : Aside0 (gb365 ≠ gb355) := ⟨h6_⟩
           have n7_ : Aside0 (Below w.heap.size w w33) := ⟨h7_⟩
           clear BK355
           clear HB
           clear h0_ h1_ h2_ h3_ h4_ h5_ h6_ h7_
           have HO360 := n0_
           have BK355 := n1_
           have BK365 := n2_
           have GW365 := n3_
           have GE365 := n4_
           have NB355_365 := n5_
           have NB365_355 := n6_
           have HB := n7_
           clear n0_ n1_ n2_ n3_ n4_ n5_ n6_ n7_
           have hHeld : w33.cell? ⟨gb355, 0, none⟩ = some (.int .i64 a0_0) ∧ w33.cell? ⟨gb355, 1, none⟩ = some (.int .i64 a0_1) ∧ w33.cell? ⟨gb355, 2, none⟩ = some (.int .i64 a0_2) ∧ w33.cell? ⟨gb355, 3, none⟩ = some (.int .i64 a0_3) := hS_
           refine norm_ (a' := ?_) ?_ ?_
           rotate_left
           ·simp only [putAll, Act.put, sT, sZ, sS]
            rfl
           refine one_ (i := 5) (N := none) #[true, true, true, true, true, true] rfl rfl (by kernel_rfl) (by decide) (fun K hK => ?_)
           have hs34 : w33.cell? ⟨gb365, 0, none⟩ = some (.int .i64 0) := (blk_cell BK365.out 0).trans rfl
           have hfs34 := blk_frozen BK365.out 0
           have hns34_0 := NB355_365.out
           have hms34_0 := NB365_355.out
           have hs35 : w33.cell? ⟨gb365, 1, none⟩ = some (.int .i64 0) := (blk_cell BK365.out 1).trans rfl
           have hfs35 := blk_frozen BK365.out 1
           have hns35_0 := NB355_365.out
           have hms35_0 := NB365_355.out
           have hs36 : w33.cell? ⟨gb365, 2, none⟩ = some (.int .i64 0) := (blk_cell BK365.out 2).trans rfl
           have hfs36 := blk_frozen BK365.out 2
           have hns36_0 := NB355_365.out
           have hms36_0 := NB365_355.out
           have hs37 : w33.cell? ⟨gb365, 3, none⟩ = some (.int .i64 0) := (blk_cell BK365.out 3).trans rfl
           have hfs37 := blk_frozen BK365.out 3
           have hns37_0 := NB355_365.out
           have hms37_0 := NB365_355.out
           refine skip_ (w1 := ?_) (by rfl) rfl ?_ ?_
           rotate_left
           ·go_simp
            rfl
           refine hK.out _ _ ⟨((cell_far (p := ⟨gb365, _, none⟩) NB355_365.out _).trans (((cell_far (p := ⟨gb365, _, none⟩) NB355_365.out _).trans (((cell_far (p := ⟨gb365, _, none⟩) NB355_365.out _).trans (((cell_far (p := ⟨gb365, _, none⟩) NB355_365.out _).trans (hHeld.1)))))))), ((cell_far (p := ⟨gb365, _, none⟩) NB355_365.out _).trans (((cell_far (p := ⟨gb365, _, none⟩) NB355_365.out _).trans (((cell_far (p := ⟨gb365, _, none⟩) NB355_365.out _).trans (((cell_far (p := ⟨gb365, _, none⟩) NB355_365.out _).trans (hHeld.2.1)))))))), ((cell_far (p := ⟨gb365, _, none⟩) NB355_365.out _).trans (((cell_far (p := ⟨gb365, _, none⟩) NB355_365.out _).trans (((cell_far (p := ⟨gb365, _, none⟩) NB355_365.out _).trans (((cell_far (p := ⟨gb365, _, none⟩) NB355_365.out _).trans (hHeld.2.2.1)))))))), ((cell_far (p := ⟨gb365, _, none⟩) NB355_365.out _).trans (((cell_far (p := ⟨gb365, _, none⟩) NB355_365.out _).trans (((cell_far (p := ⟨gb365, _, none⟩) NB355_365.out _).trans (((cell_far (p := ⟨gb365, _, none⟩) NB355_365.out _).trans (hHeld.2.2.2))))))))⟩ (fun hHeld => ?_)
           clear hK K
           refine done_ (by kernel_rfl) ?_
           try go_wp2
           have n0_ : Aside0 (Kd.R (Kd.int .i64) 3 ((((w33.setCell ⟨gb365, 0, none⟩ (.int .i64 t361)).setCell ⟨gb365, 1, none⟩ (.int .i64 t362)).setCell ⟨gb365, 2, none⟩ (.int .i64 t363)).setCell ⟨gb365, 3, none⟩ (.int .i64 t364)) w.heap.size (fun _ => True) v359 t358) := ⟨by (with_reducible repeat (first | apply rA | apply rN | apply rW)); exact Kd.R_mono (Kd.R_far (p := ⟨gb365, 3, none⟩) (Kd.R_far (p := ⟨gb365, 2, none⟩) (Kd.R_far (p := ⟨gb365, 1, none⟩) (Kd.R_far (p := ⟨gb365, 0, none⟩) (Kd.R_types HO360.out BK365.out (by decide)) (fun _ hk => hk.2) (.int .i64 t361)) (fun _ hk => hk.2) (.int .i64 t362)) (fun _ hk => hk.2) (.int .i64 t363)) (fun _ hk => hk.2) (.int .i64 t364)) (fun _ hk => trivial)⟩
           have n1_ : Aside0 (((((w33.setCell ⟨gb365, 0, none⟩ (.int .i64 t361)).setCell ⟨gb365, 1, none⟩ (.int .i64 t362)).setCell ⟨gb365, 2, none⟩ (.int .i64 t363)).setCell ⟨gb365, 3, none⟩ (.int .i64 t364)).heap[gb355]? = some (.cells #[.int .i64 a0_0, .int .i64 a0_1, .int .i64 a0_2, .int .i64 a0_3] 23 (0, 0))) := ⟨by (with_reducible repeat (first | refine bN ?_ _ | refine bW ?_ | refine bA ?_ _)); refine blk_far ?_ NB355_365.out _; (with_reducible repeat (first | refine bN ?_ _ | refine bW ?_ | refine bA ?_ _)); refine blk_far ?_ NB355_365.out _; (with_reducible repeat (first | refine bN ?_ _ | refine bW ?_ | refine bA ?_ _)); refine blk_far ?_ NB355_365.out _; (with_reducible repeat (first | refine bN ?_ _ | refine bW ?_ | refine bA ?_ _)); refine blk_far ?_ NB355_365.out _; (with_reducible repeat (first | refine bN ?_ _ | refine bW ?_ | refine bA ?_ _)); exact BK355.out⟩
           have n2_ : Aside0 (((((w33.setCell ⟨gb365, 0, none⟩ (.int .i64 t361)).setCell ⟨gb365, 1, none⟩ (.int .i64 t362)).setCell ⟨gb365, 2, none⟩ (.int .i64 t363)).setCell ⟨gb365, 3, none⟩ (.int .i64 t364)).heap[gb365]? = some (.cells #[.int .i64 t361, .int .i64 t362, .int .i64 t363, .int .i64 t364] 23 (0, 0))) := ⟨by (with_reducible repeat (first | refine bN ?_ _ | refine bW ?_ | refine bA ?_ _)); refine blk_put (cs := #[.int .i64 t361, .int .i64 t362, .int .i64 t363, .int .i64 0]) ?_ 3 _ rfl; (with_reducible repeat (first | refine bN ?_ _ | refine bW ?_ | refine bA ?_ _)); refine blk_put (cs := #[.int .i64 t361, .int .i64 t362, .int .i64 0, .int .i64 0]) ?_ 2 _ rfl; (with_reducible repeat (first | refine bN ?_ _ | refine bW ?_ | refine bA ?_ _)); refine blk_put (cs := #[.int .i64 t361, .int .i64 0, .int .i64 0, .int .i64 0]) ?_ 1 _ rfl; (with_reducible repeat (first | refine bN ?_ _ | refine bW ?_ | refine bA ?_ _)); refine blk_put (cs := #[.int .i64 0, .int .i64 0, .int .i64 0, .int .i64 0]) ?_ 0 _ rfl; (with_reducible repeat (first | refine bN ?_ _ | refine bW ?_ | refine bA ?_ _)); exact BK365.out⟩
           have n3_ : Aside0 (Below w.heap.size w ((((w33.setCell ⟨gb365, 0, none⟩ (.int .i64 t361)).setCell ⟨gb365, 1, none⟩ (.int .i64 t362)).setCell ⟨gb365, 2, none⟩ (.int .i64 t363)).setCell ⟨gb365, 3, none⟩ (.int .i64 t364))) := ⟨by repeat (first | (with_reducible first | exact HB.out | apply lA | apply lN | apply lW | refine lS ?_ GE355.out | refine lS ?_ GE365.out) | exact HB.out)⟩
           (try clear HO360)
           (try clear BK355)
           (try clear BK365)
           (try clear HB)
           generalize ((((w33.setCell ⟨gb365, 0, none⟩ (.int .i64 t361)).setCell ⟨gb365, 1, none⟩ (.int .i64 t362)).setCell ⟨gb365, 2, none⟩ (.int .i64 t363)).setCell ⟨gb365, 3, none⟩ (.int .i64 t364)) = w38 at n0_ n1_ n2_ n3_ ⊢
           have HO360 := n0_
           have BK355 := n1_
           have BK365 := n2_
           have HB := n3_
           clear n0_ n1_ n2_ n3_
           have n0_ := aM (rW HO360.out)
           have n1_ := aM (bW BK355.out)
           have n2_ := aM (bW BK365.out)
           have n3_ := aM (lW HB.out)
           clear HO360
           clear BK355
           clear BK365
           clear HB
           have HO360 := n0_
           have BK355 := n1_
           have BK365 := n2_
           have HB := n3_
           clear n0_ n1_ n2_ n3_
           refine start_ (n := 7) (S := fun w' => w'.cell? ⟨gb355, 0, none⟩ = some (.int .i64 a0_0) ∧ w'.cell? ⟨gb355, 1, none⟩ = some (.int .i64 a0_1) ∧ w'.cell? ⟨gb355, 2, none⟩ = some (.int .i64 a0_2) ∧ w'.cell? ⟨gb355, 3, none⟩ = some (.int .i64 a0_3)) (ds := []) #[false, false, false, false, false, false, false] (by kernel_rfl) rfl rfl ⟨(blk_cell BK355.out 0).trans rfl, (blk_cell BK355.out 1).trans rfl, (blk_cell BK355.out 2).trans rfl, (blk_cell BK355.out 3).trans rfl⟩ (fun hHeld => ?_)
           generalize w38.drew = w39 at HO360 BK355 BK365 HB hHeld ⊢
           refine pure_ (i := 1) (N := some 28) (v := ?_) (a' := ?_) #[false, true, false, false, false, false, false] rfl rfl (by kernel_rfl) (fun _ _ _ h => h) (Or.inl ⟨by rfl, ?_⟩) ?_ ?_
           rotate_left
           ·intro w'
            go_simp
            with_reducible rfl
           rotate_left
           ·simp only [Act.put, sT, sZ, sS, i64_w, i32_w]
            rfl
           refine pure_ (i := 2) (N := some 29) (v := ?_) (a' := ?_) #[false, true, true, false, false, false, false] rfl rfl (by kernel_rfl) (fun _ _ _ h => h) (Or.inl ⟨by rfl, ?_⟩) ?_ ?_
           rotate_left
           ·intro w'
            go_simp
            with_reducible rfl
           rotate_left
           ·simp only [Act.put, sT, sZ, sS, i64_w, i32_w]
            rfl
           refine take_ (i := 0) (N := some 27) (v := ?_) (a' := ?_) #[true, true, true, false, false, false, false] rfl rfl (by kernel_rfl) (fun _ _ _ h => h) (Or.inl ⟨by rfl, ?_⟩) hHeld ?_ ?_
           rotate_left
           ·rintro w' ⟨s0, s1, s2, s3⟩
            go_simp
            with_reducible rfl
           rotate_left
           ·simp only [Act.put, sT, sZ, sS, i64_w, i32_w]
            rfl
           refine join_ (σ := Value × Nat) 1 #[true, true, true, true, true, true, false] (fun s_ => [(30, s_.1), (31, .agg #[.int .i64 t369, .int .i64 t370, .int .i64 t371, .int .i64 t372]), (6, .pointer (some ⟨s_.2, 0, none⟩))]) (fun s_ w' => (w'.cell? ⟨gb355, 0, none⟩ = some (.int .i64 a0_0) ∧ w'.cell? ⟨gb355, 1, none⟩ = some (.int .i64 a0_1) ∧ w'.cell? ⟨gb355, 2, none⟩ = some (.int .i64 a0_2) ∧ w'.cell? ⟨gb355, 3, none⟩ = some (.int .i64 a0_3)) ∧ (Kd.R (Kd.int .i64) 3 w' w.heap.size (fun k_ => some k_ ≠ (s_.1 : Value).ownBlock) v359 t358) ∧ (Kd.R (Kd.int .i64) 3 w' w.heap.size (fun k_ => some k_ ≠ (v359 : Value).ownBlock) s_.1 t366) ∧ (w'.heap[gb355]? = some (.cells #[.int .i64 a0_0, .int .i64 a0_1, .int .i64 a0_2, .int .i64 a0_3] 23 (0, 0))) ∧ (w'.heap[gb365]? = some (.cells #[.int .i64 t361, .int .i64 t362, .int .i64 t363, .int .i64 t364] 23 (0, 0))) ∧ (w'.heap[s_.2]? = some (.cells #[.int .i64 0, .int .i64 0, .int .i64 0, .int .i64 0] 23 (0, 0))) ∧ (w.heap.size ≤ s_.2) ∧ (w.heap.size ≤ s_.2) ∧ (gb355 ≠ s_.2) ∧ (s_.2 ≠ gb355) ∧ (gb365 ≠ s_.2) ∧ (s_.2 ≠ gb365) ∧ (Below w.heap.size w w')) ?_ ?_
           rotate_left
           ·intro hCont
            refine two_ (i := 3) (j := 5) (Ni := some 30) (Nj := some 6) #[true, true, true, true, false, false, false] #[true, true, true, false, false, true, false] rfl rfl rfl rfl (by kernel_rfl) (by decide) (by decide) (fun K hK => ?_) (fun K hK => ?_)
            ·skip
             refine goes_ Try.func19 (by kernel_rfl) rfl #[.int .i64 3, .int .i64 (wrap64 ((wrap64 (Int.tdiv (wrap64 ((wrap64 (256 - a0_0)) + 7)) 8)) - 1))] (by rfl) rfl rfl (by (try simp only [List.map_toArray, List.map_cons, List.map_nil]); first | done | rfl | (simp only [List.length_drop, List.length_take]; rfl)) ?_
             with_reducible refine (phaetonlaw08_times.calls kj2 3 (wrap64 ((wrap64 (Int.tdiv (wrap64 ((wrap64 (256 - a0_0)) + 7)) 8)) - 1)) t366 _ A16.out).mono ?_
             rintro e w40 ⟨v367, rfl, ho0, hb⟩
             refine ⟨_, rfl, ?_⟩
             have n0_ := aM (Kd.R_elder' (by (with_reducible repeat (first | apply rA | apply rN | apply rW)); exact HO360.out) (Kd.R_base ho0) hb)
             have n1_ := aM (Kd.R_lower (Kd.R_new' ho0 (Kd.R_lt (by (with_reducible repeat (first | apply rA | apply rN | apply rW)); exact HO360.out))) (below_size (by repeat (first | (with_reducible first | exact HB.out | apply lA | apply lN | apply lW | refine lS ?_ GE355.out | refine lS ?_ GE365.out) | exact HB.out))))
             have n2_ := aM (blk_below (g := gb355) (o := .cells #[.int .i64 a0_0, .int .i64 a0_1, .int .i64 a0_2, .int .i64 a0_3] 23 (0, 0)) (by (with_reducible repeat (first | refine bN ?_ _ | refine bW ?_ | refine bA ?_ _)); exact BK355.out) hb)
             have n3_ := aM (blk_below (g := gb365) (o := .cells #[.int .i64 t361, .int .i64 t362, .int .i64 t363, .int .i64 t364] 23 (0, 0)) (by (with_reducible repeat (first | refine bN ?_ _ | refine bW ?_ | refine bA ?_ _)); exact BK365.out) hb)
             have n4_ := aM (below_step (by repeat (first | (with_reducible first | exact HB.out | apply lA | apply lN | apply lW | refine lS ?_ GE355.out | refine lS ?_ GE365.out) | exact HB.out)) hb)
             clear HO360
             clear BK355
             clear BK365
             clear HB
             have HO360 := n0_
             have HO368 := n1_
             have BK355 := n2_
             have BK365 := n3_
             have HB := n4_
             clear n0_ n1_ n2_ n3_ n4_
             (try clear hb)
             (try clear hb2)
             (try clear hk)
             (try clear hi)
             (try clear ho0)
             obtain ⟨Ao41, co41, eo41⟩ := Kd.R_slice HO368.out
             (first | subst eo41 | (injection eo41 with f1_ f2_ f3_; have f4_ := f1_.symm; have f5_ := f3_.symm; clear f1_ f2_ f3_; subst f4_; subst f5_))
             refine hK.out _ _ ⟨(blk_cell BK355.out 0).trans rfl, (blk_cell BK355.out 1).trans rfl, (blk_cell BK355.out 2).trans rfl, (blk_cell BK355.out 3).trans rfl⟩ (fun hHeld => ?_)
             clear hK K
             refine norm_ (a' := ?_) ?_ ?_
             rotate_left
             ·show Act.put _ (some 30) _ = _
              simp only [Act.put, sT, sZ, sS, i64_w, i32_w]
              rfl
             refine two_ (i := 4) (j := 5) (Ni := some 31) (Nj := some 6) #[true, true, true, true, true, false, false] #[true, true, true, true, false, true, false] rfl rfl rfl rfl (by kernel_rfl) (by decide) (by decide) (fun K hK => ?_) (fun K hK => ?_)
             ·skip
              refine goes_ Try.func17 (by kernel_rfl) rfl #[.agg #[.int .i64 a0_0, .int .i64 a0_1, .int .i64 a0_2, .int .i64 a0_3], .slice Ao41 t366.length co41] (by rfl) rfl rfl (by (try simp only [List.map_toArray, List.map_cons, List.map_nil]); first | done | rfl | (simp only [List.length_drop, List.length_take]; rfl)) ?_
              with_reducible refine (count_Steps.calls kj2 a0_0 a0_1 a0_2 a0_3 _ _ t366 t369 t370 t371 t372 _ ?side1 ?side2 A17.out).mono ?_
              (case side1 => repeat (first | exact (Kd.R_reads' HO368.out).2.2 | (with_reducible refine Kd.C_alloc ?_ _) | (with_reducible refine Kd.C_drewN ?_ _) | (with_reducible refine Kd.C_drew ?_)))
              (case side2 => exact (Kd.R_reads' HO368.out).2.1)
              rintro e w42 ⟨rfl, hb⟩
              refine ⟨_, rfl, ?_⟩
              have n0_ := aM (Kd.R_below (by (with_reducible repeat (first | apply rA | apply rN | apply rW)); exact HO360.out) hb)
              have n1_ := aM (Kd.R_below (by (with_reducible repeat (first | apply rA | apply rN | apply rW)); exact HO368.out) hb)
              have n2_ := aM (blk_below (g := gb355) (o := .cells #[.int .i64 a0_0, .int .i64 a0_1, .int .i64 a0_2, .int .i64 a0_3] 23 (0, 0)) (by (with_reducible repeat (first | refine bN ?_ _ | refine bW ?_ | refine bA ?_ _)); exact BK355.out) hb)
              have n3_ := aM (blk_below (g := gb365) (o := .cells #[.int .i64 t361, .int .i64 t362, .int .i64 t363, .int .i64 t364] 23 (0, 0)) (by (with_reducible repeat (first | refine bN ?_ _ | refine bW ?_ | refine bA ?_ _)); exact BK365.out) hb)
              have n4_ := aM (below_step (by repeat (first | (with_reducible first | exact HB.out | apply lA | apply lN | apply lW | refine lS ?_ GE355.out | refine lS ?_ GE365.out) | exact HB.out)) hb)
              clear HO360
              clear HO368
              clear BK355
              clear BK365
              clear HB
              have HO360 := n0_
              have HO368 := n1_
              have BK355 := n2_
              have BK365 := n3_
              have HB := n4_
              clear n0_ n1_ n2_ n3_ n4_
              (try clear hb)
              (try clear hb2)
              (try clear hk)
              (try clear hi)
              refine hK.out _ _ ⟨(blk_cell BK355.out 0).trans rfl, (blk_cell BK355.out 1).trans rfl, (blk_cell BK355.out 2).trans rfl, (blk_cell BK355.out 3).trans rfl⟩ (fun hHeld => ?_)
              clear hK K
              refine norm_ (a' := ?_) ?_ ?_
              rotate_left
              ·show Act.put _ (some 31) _ = _
               simp only [Act.put, sT, sZ, sS, i64_w, i32_w]
               rfl
              refine one_ (i := 5) (N := some 6) #[true, true, true, true, true, true, false] rfl rfl (by kernel_rfl) (by decide) (fun K hK => ?_)
              refine box_step ?hg (N := 6) ?hd (cs := #[.int .i64 0, .int .i64 0, .int .i64 0, .int .i64 0]) (t := 23) ?hr ?_; (case hd => rfl); (case hg => rfl); (case hr => first | (go_simp; done) | (go_simp; rfl))
              intro gb373 hg w43 hbox hb
              have n0_ := aM (Kd.R_below (by (with_reducible repeat (first | apply rA | apply rN | apply rW)); exact HO360.out) hb)
              have n1_ := aM (Kd.R_below (by (with_reducible repeat (first | apply rA | apply rN | apply rW)); exact HO368.out) hb)
              have n2_ := aM (blk_below (g := gb355) (o := .cells #[.int .i64 a0_0, .int .i64 a0_1, .int .i64 a0_2, .int .i64 a0_3] 23 (0, 0)) (by (with_reducible repeat (first | refine bN ?_ _ | refine bW ?_ | refine bA ?_ _)); exact BK355.out) hb)
              have n3_ := aM (blk_below (g := gb365) (o := .cells #[.int .i64 t361, .int .i64 t362, .int .i64 t363, .int .i64 t364] 23 (0, 0)) (by (with_reducible repeat (first | refine bN ?_ _ | refine bW ?_ | refine bA ?_ _)); exact BK365.out) hb)
              have n4_ := aM (below_step (by repeat (first | (with_reducible first | exact HB.out | apply lA | apply lN | apply lW | refine lS ?_ GE355.out | refine lS ?_ GE365.out) | exact HB.out)) hb)
              have n5_ := aM (hbox)
              have n6_ := aM ((by rw [hg]; exact (below_size (by repeat (first | (with_reducible first | exact HB.out | apply lA | apply lN | apply lW | refine lS ?_ GE355.out | refine lS ?_ GE365.out) | exact HB.out))) : w.heap.size ≤ gb373))
              have n7_ := aM ((by rw [hg]; exact (below_size (by repeat (first | (with_reducible first | exact HB.out | apply lA | apply lN | apply lW | refine lS ?_ GE355.out | refine lS ?_ GE365.out) | exact HB.out))) : w.heap.size ≤ gb373))
              have n8_ := aM ((by rw [hg]; exact Nat.ne_of_lt (blk_lt (g := gb355) (o := .cells #[.int .i64 a0_0, .int .i64 a0_1, .int .i64 a0_2, .int .i64 a0_3] 23 (0, 0)) (by (with_reducible repeat (first | refine bN ?_ _ | refine bW ?_ | refine bA ?_ _)); exact BK355.out)) : gb355 ≠ gb373))
              have n9_ := aM ((by rw [hg]; exact Nat.ne_of_gt (blk_lt (g := gb355) (o := .cells #[.int .i64 a0_0, .int .i64 a0_1, .int .i64 a0_2, .int .i64 a0_3] 23 (0, 0)) (by (with_reducible repeat (first | refine bN ?_ _ | refine bW ?_ | refine bA ?_ _)); exact BK355.out)) : gb373 ≠ gb355))
              have n10_ := aM ((by rw [hg]; exact Nat.ne_of_lt (blk_lt (g := gb365) (o := .cells #[.int .i64 t361, .int .i64 t362, .int .i64 t363, .int .i64 t364] 23 (0, 0)) (by (with_reducible repeat (first | refine bN ?_ _ | refine bW ?_ | refine bA ?_ _)); exact BK365.out)) : gb365 ≠ gb373))
              have n11_ := aM ((by rw [hg]; exact Nat.ne_of_gt (blk_lt (g := gb365) (o := .cells #[.int .i64 t361, .int .i64 t362, .int .i64 t363, .int .i64 t364] 23 (0, 0)) (by (with_reducible repeat (first | refine bN ?_ _ | refine bW ?_ | refine bA ?_ _)); exact BK365.out)) : gb373 ≠ gb365))
              clear HO360
              clear HO368
              clear BK355
              clear BK365
              clear HB
              have HO360 := n0_
              have HO368 := n1_
              have BK355 := n2_
              have BK365 := n3_
              have HB := n4_
              have BK373 := n5_
              have GW373 := n6_
              have GE373 := n7_
              have NB355_373 := n8_
              have NB373_355 := n9_
              have NB365_373 := n10_
              have NB373_365 := n11_
              clear n0_ n1_ n2_ n3_ n4_ n5_ n6_ n7_ n8_ n9_ n10_ n11_
              clear hb hbox hg
              refine hK.out _ _ ⟨(blk_cell BK355.out 0).trans rfl, (blk_cell BK355.out 1).trans rfl, (blk_cell BK355.out 2).trans rfl, (blk_cell BK355.out 3).trans rfl⟩ (fun hHeld => ?_)
              clear hK K
              refine norm_ (a' := ?_) ?_ ?_
              rotate_left
              ·show Act.put _ (some 6) _ = _
               simp only [Act.put, sT, sZ, sS, i64_w, i32_w]
               rfl
              exact norm_ (by simp only [putAll, Act.put, sT, sZ, sS]) (hCont (.slice Ao41 t366.length co41, gb373) _ ⟨hHeld, (by (with_reducible repeat (first | apply rA | apply rN | apply rW)); exact Kd.R_mono HO360.out (fun _ hk => hk.2)), (by (with_reducible repeat (first | apply rA | apply rN | apply rW)); exact Kd.R_mono HO368.out (fun _ hk => hk.2)), (by (with_reducible repeat (first | refine bN ?_ _ | refine bW ?_ | refine bA ?_ _)); exact BK355.out), (by (with_reducible repeat (first | refine bN ?_ _ | refine bW ?_ | refine bA ?_ _)); exact BK365.out), (by (with_reducible repeat (first | refine bN ?_ _ | refine bW ?_ | refine bA ?_ _)); exact BK373.out), GW373.out, GE373.out, NB355_373.out, NB373_355.out, NB365_373.out, NB373_365.out, (by repeat (first | (with_reducible first | exact HB.out | apply lA | apply lN | apply lW | refine lS ?_ GE355.out | refine lS ?_ GE365.out | refine lS ?_ GE373.out) | exact HB.out))⟩)
             ·skip
              refine box_step ?hg (N := 6) ?hd (cs := #[.int .i64 0, .int .i64 0, .int .i64 0, .int .i64 0]) (t := 23) ?hr ?_; (case hd => rfl); (case hg => rfl); (case hr => first | (go_simp; done) | (go_simp; rfl))
              intro gb373 hg w41 hbox hb
              have n0_ := aM (Kd.R_below (by (with_reducible repeat (first | apply rA | apply rN | apply rW)); exact HO360.out) hb)
              have n1_ := aM (Kd.R_below (by (with_reducible repeat (first | apply rA | apply rN | apply rW)); exact HO368.out) hb)
              have n2_ := aM (blk_below (g := gb355) (o := .cells #[.int .i64 a0_0, .int .i64 a0_1, .int .i64 a0_2, .int .i64 a0_3] 23 (0, 0)) (by (with_reducible repeat (first | refine bN ?_ _ | refine bW ?_ | refine bA ?_ _)); exact BK355.out) hb)
              have n3_ := aM (blk_below (g := gb365) (o := .cells #[.int .i64 t361, .int .i64 t362, .int .i64 t363, .int .i64 t364] 23 (0, 0)) (by (with_reducible repeat (first | refine bN ?_ _ | refine bW ?_ | refine bA ?_ _)); exact BK365.out) hb)
              have n4_ := aM (below_step (by repeat (first | (with_reducible first | exact HB.out | apply lA | apply lN | apply lW | refine lS ?_ GE355.out | refine lS ?_ GE365.out) | exact HB.out)) hb)
              have n5_ := aM (hbox)
              have n6_ := aM ((by rw [hg]; exact (below_size (by repeat (first | (with_reducible first | exact HB.out | apply lA | apply lN | apply lW | refine lS ?_ GE355.out | refine lS ?_ GE365.out) | exact HB.out))) : w.heap.size ≤ gb373))
              have n7_ := aM ((by rw [hg]; exact (below_size (by repeat (first | (with_reducible first | exact HB.out | apply lA | apply lN | apply lW | refine lS ?_ GE355.out | refine lS ?_ GE365.out) | exact HB.out))) : w.heap.size ≤ gb373))
              have n8_ := aM ((by rw [hg]; exact Nat.ne_of_lt (blk_lt (g := gb355) (o := .cells #[.int .i64 a0_0, .int .i64 a0_1, .int .i64 a0_2, .int .i64 a0_3] 23 (0, 0)) (by (with_reducible repeat (first | refine bN ?_ _ | refine bW ?_ | refine bA ?_ _)); exact BK355.out)) : gb355 ≠ gb373))
              have n9_ := aM ((by rw [hg]; exact Nat.ne_of_gt (blk_lt (g := gb355) (o := .cells #[.int .i64 a0_0, .int .i64 a0_1, .int .i64 a0_2, .int .i64 a0_3] 23 (0, 0)) (by (with_reducible repeat (first | refine bN ?_ _ | refine bW ?_ | refine bA ?_ _)); exact BK355.out)) : gb373 ≠ gb355))
              have n10_ := aM ((by rw [hg]; exact Nat.ne_of_lt (blk_lt (g := gb365) (o := .cells #[.int .i64 t361, .int .i64 t362, .int .i64 t363, .int .i64 t364] 23 (0, 0)) (by (with_reducible repeat (first | refine bN ?_ _ | refine bW ?_ | refine bA ?_ _)); exact BK365.out)) : gb365 ≠ gb373))
              have n11_ := aM ((by rw [hg]; exact Nat.ne_of_gt (blk_lt (g := gb365) (o := .cells #[.int .i64 t361, .int .i64 t362, .int .i64 t363, .int .i64 t364] 23 (0, 0)) (by (with_reducible repeat (first | refine bN ?_ _ | refine bW ?_ | refine bA ?_ _)); exact BK365.out)) : gb373 ≠ gb365))
              clear HO360
              clear HO368
              clear BK355
              clear BK365
              clear HB
              have HO360 := n0_
              have HO368 := n1_
              have BK355 := n2_
              have BK365 := n3_
              have HB := n4_
              have BK373 := n5_
              have GW373 := n6_
              have GE373 := n7_
              have NB355_373 := n8_
              have NB373_355 := n9_
              have NB365_373 := n10_
              have NB373_365 := n11_
              clear n0_ n1_ n2_ n3_ n4_ n5_ n6_ n7_ n8_ n9_ n10_ n11_
              clear hb hbox hg
              obtain ⟨Ao42, co42, eo42⟩ := Kd.R_slice HO368.out
              (first | subst eo42 | (injection eo42 with f1_ f2_ f3_; have f4_ := f1_.symm; have f5_ := f3_.symm; clear f1_ f2_ f3_; subst f4_; subst f5_))
              refine hK.out _ _ ⟨(blk_cell BK355.out 0).trans rfl, (blk_cell BK355.out 1).trans rfl, (blk_cell BK355.out 2).trans rfl, (blk_cell BK355.out 3).trans rfl⟩ (fun hHeld => ?_)
              clear hK K
              refine norm_ (a' := ?_) ?_ ?_
              rotate_left
              ·show Act.put _ (some 6) _ = _
               simp only [Act.put, sT, sZ, sS, i64_w, i32_w]
               rfl
              refine one_ (i := 4) (N := some 31) #[true, true, true, true, true, true, false] rfl rfl (by kernel_rfl) (by decide) (fun K hK => ?_)
              refine goes_ Try.func17 (by kernel_rfl) rfl #[.agg #[.int .i64 a0_0, .int .i64 a0_1, .int .i64 a0_2, .int .i64 a0_3], .slice Ao42 t366.length co42] (by rfl) rfl rfl (by (try simp only [List.map_toArray, List.map_cons, List.map_nil]); first | done | rfl | (simp only [List.length_drop, List.length_take]; rfl)) ?_
              with_reducible refine (count_Steps.calls kj2 a0_0 a0_1 a0_2 a0_3 _ _ t366 t369 t370 t371 t372 _ ?side1 ?side2 A17.out).mono ?_
              (case side1 => repeat (first | exact (Kd.R_reads' HO368.out).2.2 | (with_reducible refine Kd.C_alloc ?_ _) | (with_reducible refine Kd.C_drewN ?_ _) | (with_reducible refine Kd.C_drew ?_)))
              (case side2 => exact (Kd.R_reads' HO368.out).2.1)
              rintro e w43 ⟨rfl, hb⟩
              refine ⟨_, rfl, ?_⟩
              have n0_ := aM (Kd.R_below (by (with_reducible repeat (first | apply rA | apply rN | apply rW)); exact HO360.out) hb)
              have n1_ := aM (Kd.R_below (by (with_reducible repeat (first | apply rA | apply rN | apply rW)); exact HO368.out) hb)
              have n2_ := aM (blk_below (g := gb355) (o := .cells #[.int .i64 a0_0, .int .i64 a0_1, .int .i64 a0_2, .int .i64 a0_3] 23 (0, 0)) (by (with_reducible repeat (first | refine bN ?_ _ | refine bW ?_ | refine bA ?_ _)); exact BK355.out) hb)
              have n3_ := aM (blk_below (g := gb365) (o := .cells #[.int .i64 t361, .int .i64 t362, .int .i64 t363, .int .i64 t364] 23 (0, 0)) (by (with_reducible repeat (first | refine bN ?_ _ | refine bW ?_ | refine bA ?_ _)); exact BK365.out) hb)
              have n4_ := aM (blk_below (g := gb373) (o := .cells #[.int .i64 0, .int .i64 0, .int .i64 0, .int .i64 0] 23 (0, 0)) (by (with_reducible repeat (first | refine bN ?_ _ | refine bW ?_ | refine bA ?_ _)); exact BK373.out) hb)
              have n5_ := aM (below_step (by repeat (first | (with_reducible first | exact HB.out | apply lA | apply lN | apply lW | refine lS ?_ GE355.out | refine lS ?_ GE365.out | refine lS ?_ GE373.out) | exact HB.out)) hb)
              clear HO360
              clear HO368
              clear BK355
              clear BK365
              clear BK373
              clear HB
              have HO360 := n0_
              have HO368 := n1_
              have BK355 := n2_
              have BK365 := n3_
              have BK373 := n4_
              have HB := n5_
              clear n0_ n1_ n2_ n3_ n4_ n5_
              (try clear hb)
              (try clear hb2)
              (try clear hk)
              (try clear hi)
              refine hK.out _ _ ⟨(blk_cell BK355.out 0).trans rfl, (blk_cell BK355.out 1).trans rfl, (blk_cell BK355.out 2).trans rfl, (blk_cell BK355.out 3).trans rfl⟩ (fun hHeld => ?_)
              clear hK K
              refine norm_ (a' := ?_) ?_ ?_
              rotate_left
              ·show Act.put _ (some 31) _ = _
               simp only [Act.put, sT, sZ, sS, i64_w, i32_w]
               rfl
              exact norm_ (by simp only [putAll, Act.put, sT, sZ, sS]) (hCont (.slice Ao42 t366.length co42, gb373) _ ⟨hHeld, (by (with_reducible repeat (first | apply rA | apply rN | apply rW)); exact Kd.R_mono HO360.out (fun _ hk => hk.2)), (by (with_reducible repeat (first | apply rA | apply rN | apply rW)); exact Kd.R_mono HO368.out (fun _ hk => hk.2)), (by (with_reducible repeat (first | refine bN ?_ _ | refine bW ?_ | refine bA ?_ _)); exact BK355.out), (by (with_reducible repeat (first | refine bN ?_ _ | refine bW ?_ | refine bA ?_ _)); exact BK365.out), (by (with_reducible repeat (first | refine bN ?_ _ | refine bW ?_ | refine bA ?_ _)); exact BK373.out), GW373.out, GE373.out, NB355_373.out, NB373_355.out, NB365_373.out, NB373_365.out, (by repeat (first | (with_reducible first | exact HB.out | apply lA | apply lN | apply lW | refine lS ?_ GE355.out | refine lS ?_ GE365.out | refine lS ?_ GE373.out) | exact HB.out))⟩)
            ·skip
             refine box_step ?hg (N := 6) ?hd (cs := #[.int .i64 0, .int .i64 0, .int .i64 0, .int .i64 0]) (t := 23) ?hr ?_; (case hd => rfl); (case hg => rfl); (case hr => first | (go_simp; done) | (go_simp; rfl))
             intro gb373 hg w40 hbox hb
             have n0_ := aM (Kd.R_below (by (with_reducible repeat (first | apply rA | apply rN | apply rW)); exact HO360.out) hb)
             have n1_ := aM (blk_below (g := gb355) (o := .cells #[.int .i64 a0_0, .int .i64 a0_1, .int .i64 a0_2, .int .i64 a0_3] 23 (0, 0)) (by (with_reducible repeat (first | refine bN ?_ _ | refine bW ?_ | refine bA ?_ _)); exact BK355.out) hb)
             have n2_ := aM (blk_below (g := gb365) (o := .cells #[.int .i64 t361, .int .i64 t362, .int .i64 t363, .int .i64 t364] 23 (0, 0)) (by (with_reducible repeat (first | refine bN ?_ _ | refine bW ?_ | refine bA ?_ _)); exact BK365.out) hb)
             have n3_ := aM (below_step (by repeat (first | (with_reducible first | exact HB.out | apply lA | apply lN | apply lW | refine lS ?_ GE355.out | refine lS ?_ GE365.out) | exact HB.out)) hb)
             have n4_ := aM (hbox)
             have n5_ := aM ((by rw [hg]; exact (below_size (by repeat (first | (with_reducible first | exact HB.out | apply lA | apply lN | apply lW | refine lS ?_ GE355.out | refine lS ?_ GE365.out) | exact HB.out))) : w.heap.size ≤ gb373))
             have n6_ := aM ((by rw [hg]; exact (below_size (by repeat (first | (with_reducible first | exact HB.out | apply lA | apply lN | apply lW | refine lS ?_ GE355.out | refine lS ?_ GE365.out) | exact HB.out))) : w.heap.size ≤ gb373))
             have n7_ := aM ((by rw [hg]; exact Nat.ne_of_lt (blk_lt (g := gb355) (o := .cells #[.int .i64 a0_0, .int .i64 a0_1, .int .i64 a0_2, .int .i64 a0_3] 23 (0, 0)) (by (with_reducible repeat (first | refine bN ?_ _ | refine bW ?_ | refine bA ?_ _)); exact BK355.out)) : gb355 ≠ gb373))
             have n8_ := aM ((by rw [hg]; exact Nat.ne_of_gt (blk_lt (g := gb355) (o := .cells #[.int .i64 a0_0, .int .i64 a0_1, .int .i64 a0_2, .int .i64 a0_3] 23 (0, 0)) (by (with_reducible repeat (first | refine bN ?_ _ | refine bW ?_ | refine bA ?_ _)); exact BK355.out)) : gb373 ≠ gb355))
             have n9_ := aM ((by rw [hg]; exact Nat.ne_of_lt (blk_lt (g := gb365) (o := .cells #[.int .i64 t361, .int .i64 t362, .int .i64 t363, .int .i64 t364] 23 (0, 0)) (by (with_reducible repeat (first | refine bN ?_ _ | refine bW ?_ | refine bA ?_ _)); exact BK365.out)) : gb365 ≠ gb373))
             have n10_ := aM ((by rw [hg]; exact Nat.ne_of_gt (blk_lt (g := gb365) (o := .cells #[.int .i64 t361, .int .i64 t362, .int .i64 t363, .int .i64 t364] 23 (0, 0)) (by (with_reducible repeat (first | refine bN ?_ _ | refine bW ?_ | refine bA ?_ _)); exact BK365.out)) : gb373 ≠ gb365))
             clear HO360
             clear BK355
             clear BK365
             clear HB
             have HO360 := n0_
             have BK355 := n1_
             have BK365 := n2_
             have HB := n3_
             have BK373 := n4_
             have GW373 := n5_
             have GE373 := n6_
             have NB355_373 := n7_
             have NB373_355 := n8_
             have NB365_373 := n9_
             have NB373_365 := n10_
             clear n0_ n1_ n2_ n3_ n4_ n5_ n6_ n7_ n8_ n9_ n10_
             clear hb hbox hg
             refine hK.out _ _ ⟨(blk_cell BK355.out 0).trans rfl, (blk_cell BK355.out 1).trans rfl, (blk_cell BK355.out 2).trans rfl, (blk_cell BK355.out 3).trans rfl⟩ (fun hHeld => ?_)
             clear hK K
             refine norm_ (a' := ?_) ?_ ?_
             rotate_left
             ·show Act.put _ (some 6) _ = _
              simp only [Act.put, sT, sZ, sS, i64_w, i32_w]
              rfl
             refine one_ (i := 3) (N := some 30) #[true, true, true, true, false, true, false] rfl rfl (by kernel_rfl) (by decide) (fun K hK => ?_)
             refine goes_ Try.func19 (by kernel_rfl) rfl #[.int .i64 3, .int .i64 (wrap64 ((wrap64 (Int.tdiv (wrap64 ((wrap64 (256 - a0_0)) + 7)) 8)) - 1))] (by rfl) rfl rfl (by (try simp only [List.map_toArray, List.map_cons, List.map_nil]); first | done | rfl | (simp only [List.length_drop, List.length_take]; rfl)) ?_
             with_reducible refine (phaetonlaw08_times.calls kj2 3 (wrap64 ((wrap64 (Int.tdiv (wrap64 ((wrap64 (256 - a0_0)) + 7)) 8)) - 1)) t366 _ A16.out).mono ?_
             rintro e w41 ⟨v367, rfl, ho0, hb⟩
             refine ⟨_, rfl, ?_⟩
             have n0_ := aM (Kd.R_elder' (by (with_reducible repeat (first | apply rA | apply rN | apply rW)); exact HO360.out) (Kd.R_base ho0) hb)
             have n1_ := aM (Kd.R_lower (Kd.R_new' ho0 (Kd.R_lt (by (with_reducible repeat (first | apply rA | apply rN | apply rW)); exact HO360.out))) (below_size (by repeat (first | (with_reducible first | exact HB.out | apply lA | apply lN | apply lW | refine lS ?_ GE355.out | refine lS ?_ GE365.out | refine lS ?_ GE373.out) | exact HB.out))))
             have n2_ := aM (blk_below (g := gb355) (o := .cells #[.int .i64 a0_0, .int .i64 a0_1, .int .i64 a0_2, .int .i64 a0_3] 23 (0, 0)) (by (with_reducible repeat (first | refine bN ?_ _ | refine bW ?_ | refine bA ?_ _)); exact BK355.out) hb)
             have n3_ := aM (blk_below (g := gb365) (o := .cells #[.int .i64 t361, .int .i64 t362, .int .i64 t363, .int .i64 t364] 23 (0, 0)) (by (with_reducible repeat (first | refine bN ?_ _ | refine bW ?_ | refine bA ?_ _)); exact BK365.out) hb)
             have n4_ := aM (blk_below (g := gb373) (o := .cells #[.int .i64 0, .int .i64 0, .int .i64 0, .int .i64 0] 23 (0, 0)) (by (with_reducible repeat (first | refine bN ?_ _ | refine bW ?_ | refine bA ?_ _)); exact BK373.out) hb)
             have n5_ := aM (below_step (by repeat (first | (with_reducible first | exact HB.out | apply lA | apply lN | apply lW | refine lS ?_ GE355.out | refine lS ?_ GE365.out | refine lS ?_ GE373.out) | exact HB.out)) hb)
             clear HO360
             clear BK355
             clear BK365
             clear BK373
             clear HB
             have HO360 := n0_
             have HO368 := n1_
             have BK355 := n2_
             have BK365 := n3_
             have BK373 := n4_
             have HB := n5_
             clear n0_ n1_ n2_ n3_ n4_ n5_
             (try clear hb)
             (try clear hb2)
             (try clear hk)
             (try clear hi)
             (try clear ho0)
             obtain ⟨Ao42, co42, eo42⟩ := Kd.R_slice HO368.out
             (first | subst eo42 | (injection eo42 with f1_ f2_ f3_; have f4_ := f1_.symm; have f5_ := f3_.symm; clear f1_ f2_ f3_; subst f4_; subst f5_))
             refine hK.out _ _ ⟨(blk_cell BK355.out 0).trans rfl, (blk_cell BK355.out 1).trans rfl, (blk_cell BK355.out 2).trans rfl, (blk_cell BK355.out 3).trans rfl⟩ (fun hHeld => ?_)
             clear hK K
             refine norm_ (a' := ?_) ?_ ?_
             rotate_left
             ·show Act.put _ (some 30) _ = _
              simp only [Act.put, sT, sZ, sS, i64_w, i32_w]
              rfl
             refine one_ (i := 4) (N := some 31) #[true, true, true, true, true, true, false] rfl rfl (by kernel_rfl) (by decide) (fun K hK => ?_)
             refine goes_ Try.func17 (by kernel_rfl) rfl #[.agg #[.int .i64 a0_0, .int .i64 a0_1, .int .i64 a0_2, .int .i64 a0_3], .slice Ao42 t366.length co42] (by rfl) rfl rfl (by (try simp only [List.map_toArray, List.map_cons, List.map_nil]); first | done | rfl | (simp only [List.length_drop, List.length_take]; rfl)) ?_
             with_reducible refine (count_Steps.calls kj2 a0_0 a0_1 a0_2 a0_3 _ _ t366 t369 t370 t371 t372 _ ?side1 ?side2 A17.out).mono ?_
             (case side1 => repeat (first | exact (Kd.R_reads' HO368.out).2.2 | (with_reducible refine Kd.C_alloc ?_ _) | (with_reducible refine Kd.C_drewN ?_ _) | (with_reducible refine Kd.C_drew ?_)))
             (case side2 => exact (Kd.R_reads' HO368.out).2.1)
             rintro e w43 ⟨rfl, hb⟩
             refine ⟨_, rfl, ?_⟩
             have n0_ := aM (Kd.R_below (by (with_reducible repeat (first | apply rA | apply rN | apply rW)); exact HO360.out) hb)
             have n1_ := aM (Kd.R_below (by (with_reducible repeat (first | apply rA | apply rN | apply rW)); exact HO368.out) hb)
             have n2_ := aM (blk_below (g := gb355) (o := .cells #[.int .i64 a0_0, .int .i64 a0_1, .int .i64 a0_2, .int .i64 a0_3] 23 (0, 0)) (by (with_reducible repeat (first | refine bN ?_ _ | refine bW ?_ | refine bA ?_ _)); exact BK355.out) hb)
             have n3_ := aM (blk_below (g := gb365) (o := .cells #[.int .i64 t361, .int .i64 t362, .int .i64 t363, .int .i64 t364] 23 (0, 0)) (by (with_reducible repeat (first | refine bN ?_ _ | refine bW ?_ | refine bA ?_ _)); exact BK365.out) hb)
             have n4_ := aM (blk_below (g := gb373) (o := .cells #[.int .i64 0, .int .i64 0, .int .i64 0, .int .i64 0] 23 (0, 0)) (by (with_reducible repeat (first | refine bN ?_ _ | refine bW ?_ | refine bA ?_ _)); exact BK373.out) hb)
             have n5_ := aM (below_step (by repeat (first | (with_reducible first | exact HB.out | apply lA | apply lN | apply lW | refine lS ?_ GE355.out | refine lS ?_ GE365.out | refine lS ?_ GE373.out) | exact HB.out)) hb)
             clear HO360
             clear HO368
             clear BK355
             clear BK365
             clear BK373
             clear HB
             have HO360 := n0_
             have HO368 := n1_
             have BK355 := n2_
             have BK365 := n3_
             have BK373 := n4_
             have HB := n5_
             clear n0_ n1_ n2_ n3_ n4_ n5_
             (try clear hb)
             (try clear hb2)
             (try clear hk)
             (try clear hi)
             refine hK.out _ _ ⟨(blk_cell BK355.out 0).trans rfl, (blk_cell BK355.out 1).trans rfl, (blk_cell BK355.out 2).trans rfl, (blk_cell BK355.out 3).trans rfl⟩ (fun hHeld => ?_)
             clear hK K
             refine norm_ (a' := ?_) ?_ ?_
             rotate_left
             ·show Act.put _ (some 31) _ = _
              simp only [Act.put, sT, sZ, sS, i64_w, i32_w]
              rfl
             exact norm_ (by simp only [putAll, Act.put, sT, sZ, sS]) (hCont (.slice Ao42 t366.length co42, gb373) _ ⟨hHeld, (by (with_reducible repeat (first | apply rA | apply rN | apply rW)); exact Kd.R_mono HO360.out (fun _ hk => hk.2)), (by (with_reducible repeat (first | apply rA | apply rN | apply rW)); exact Kd.R_mono HO368.out (fun _ hk => hk.2)), (by (with_reducible repeat (first | refine bN ?_ _ | refine bW ?_ | refine bA ?_ _)); exact BK355.out), (by (with_reducible repeat (first | refine bN ?_ _ | refine bW ?_ | refine bA ?_ _)); exact BK365.out), (by (with_reducible repeat (first | refine bN ?_ _ | refine bW ?_ | refine bA ?_ _)); exact BK373.out), GW373.out, GE373.out, NB355_373.out, NB373_355.out, NB365_373.out, NB373_365.out, (by repeat (first | (with_reducible first | exact HB.out | apply lA | apply lN | apply lW | refine lS ?_ GE355.out | refine lS ?_ GE365.out | refine lS ?_ GE373.out) | exact HB.out))⟩)
           rintro ⟨v367, gb373⟩ w44 ⟨hS_, h0_, h1_, h2_, h3_, h4_, h5_, h6_, h7_, h8_, h9_, h10_, h11_⟩
           have n0_ : Aside0 (Kd.R (Kd.int .i64) 3 w44 w.heap.size (fun k_ => some k_ ≠ (v367 : Value).ownBlock) v359 t358) := ⟨h0_⟩
           have n1_ : Aside0 (Kd.R (Kd.int .i64) 3 w44 w.heap.size (fun k_ => some k_ ≠ (v359 : Value).ownBlock) v367 t366) := ⟨h1_⟩
           have n2_ : Aside0 (w44.heap[gb355]? = some (.cells #[.int .i64 a0_0, .int .i64 a0_1, .int .i64 a0_2, .int .i64 a0_3] 23 (0, 0))) := ⟨h2_⟩
           have n3_ : Aside0 (w44.heap[gb365]? = some (.cells #[.int .i64 t361, .int .i64 t362, .int .i64 t363, .int .i64 t364] 23 (0, 0))) := ⟨h3_⟩
           have n4_ : Aside0 (w44.heap[gb373]? = some (.cells #[.int .i64 0, .int .i64 0, .int .i64 0, .int .i64 0] 23 (0, 0))) := ⟨h4_⟩
           have n5_ : Aside0 (w.heap.size ≤ gb373) := ⟨h5_⟩
           have n6_ : Aside0 (w.heap.size ≤ gb373) := ⟨h6_⟩
           have n7_ : Aside0 (gb355 ≠ gb373) := ⟨h7_⟩
           have n8_ : Aside0 (gb373 ≠ gb355) := ⟨h8_⟩
           have n9_ : Aside0 (gb365 ≠ gb373) := ⟨h9_⟩
           have n10_ : Aside0 (gb373 ≠ gb365) := ⟨h10_⟩
           have n11_ : Aside0 (Below w.heap.size w w44) := ⟨h11_⟩
           clear HO360
           clear BK355
           clear BK365
           clear HB
           clear h0_ h1_ h2_ h3_ h4_ h5_ h6_ h7_ h8_ h9_ h10_ h11_
           have HO360 := n0_
           have HO368 := n1_
           have BK355 := n2_
           have BK365 := n3_
           have BK373 := n4_
           have GW373 := n5_
           have GE373 := n6_
           have NB355_373 := n7_
           have NB373_355 := n8_
           have NB365_373 := n9_
           have NB373_365 := n10_
           have HB := n11_
           clear n0_ n1_ n2_ n3_ n4_ n5_ n6_ n7_ n8_ n9_ n10_ n11_
           have hHeld : w44.cell? ⟨gb355, 0, none⟩ = some (.int .i64 a0_0) ∧ w44.cell? ⟨gb355, 1, none⟩ = some (.int .i64 a0_1) ∧ w44.cell? ⟨gb355, 2, none⟩ = some (.int .i64 a0_2) ∧ w44.cell? ⟨gb355, 3, none⟩ = some (.int .i64 a0_3) := hS_
           refine norm_ (a' := ?_) ?_ ?_
           rotate_left
           ·simp only [putAll, Act.put, sT, sZ, sS]
            rfl
           refine one_ (i := 6) (N := none) #[true, true, true, true, true, true, true] rfl rfl (by kernel_rfl) (by decide) (fun K hK => ?_)
           have hs45 : w44.cell? ⟨gb373, 0, none⟩ = some (.int .i64 0) := (blk_cell BK373.out 0).trans rfl
           have hfs45 := blk_frozen BK373.out 0
           have hns45_0 := NB355_373.out
           have hns45_1 := NB365_373.out
           have hms45_0 := NB373_355.out
           have hms45_1 := NB373_365.out
           have hs46 : w44.cell? ⟨gb373, 1, none⟩ = some (.int .i64 0) := (blk_cell BK373.out 1).trans rfl
           have hfs46 := blk_frozen BK373.out 1
           have hns46_0 := NB355_373.out
           have hns46_1 := NB365_373.out
           have hms46_0 := NB373_355.out
           have hms46_1 := NB373_365.out
           have hs47 : w44.cell? ⟨gb373, 2, none⟩ = some (.int .i64 0) := (blk_cell BK373.out 2).trans rfl
           have hfs47 := blk_frozen BK373.out 2
           have hns47_0 := NB355_373.out
           have hns47_1 := NB365_373.out
           have hms47_0 := NB373_355.out
           have hms47_1 := NB373_365.out
           have hs48 : w44.cell? ⟨gb373, 3, none⟩ = some (.int .i64 0) := (blk_cell BK373.out 3).trans rfl
           have hfs48 := blk_frozen BK373.out 3
           have hns48_0 := NB355_373.out
           have hns48_1 := NB365_373.out
           have hms48_0 := NB373_355.out
           have hms48_1 := NB373_365.out
           refine skip_ (w1 := ?_) (by rfl) rfl ?_ ?_
           rotate_left
           ·go_simp
            rfl
           refine hK.out _ _ ⟨((cell_far (p := ⟨gb373, _, none⟩) NB355_373.out _).trans (((cell_far (p := ⟨gb373, _, none⟩) NB355_373.out _).trans (((cell_far (p := ⟨gb373, _, none⟩) NB355_373.out _).trans (((cell_far (p := ⟨gb373, _, none⟩) NB355_373.out _).trans (hHeld.1)))))))), ((cell_far (p := ⟨gb373, _, none⟩) NB355_373.out _).trans (((cell_far (p := ⟨gb373, _, none⟩) NB355_373.out _).trans (((cell_far (p := ⟨gb373, _, none⟩) NB355_373.out _).trans (((cell_far (p := ⟨gb373, _, none⟩) NB355_373.out _).trans (hHeld.2.1)))))))), ((cell_far (p := ⟨gb373, _, none⟩) NB355_373.out _).trans (((cell_far (p := ⟨gb373, _, none⟩) NB355_373.out _).trans (((cell_far (p := ⟨gb373, _, none⟩) NB355_373.out _).trans (((cell_far (p := ⟨gb373, _, none⟩) NB355_373.out _).trans (hHeld.2.2.1)))))))), ((cell_far (p := ⟨gb373, _, none⟩) NB355_373.out _).trans (((cell_far (p := ⟨gb373, _, none⟩) NB355_373.out _).trans (((cell_far (p := ⟨gb373, _, none⟩) NB355_373.out _).trans (((cell_far (p := ⟨gb373, _, none⟩) NB355_373.out _).trans (hHeld.2.2.2))))))))⟩ (fun hHeld => ?_)
           clear hK K
           refine done_ (by kernel_rfl) ?_
           have hnb49 := NB355_365.out
           have hnc49 := NB365_355.out
           have hnb50 := NB355_373.out
           have hnc50 := NB373_355.out
           have hcz51_0 : w44.cell? ⟨gb355, 0, none⟩ = some (.int .i64 a0_0) := (blk_cell BK355.out 0).trans rfl
           have hcz51_1 : w44.cell? ⟨gb355, 1, none⟩ = some (.int .i64 a0_1) := (blk_cell BK355.out 1).trans rfl
           have hcz51_2 : w44.cell? ⟨gb355, 2, none⟩ = some (.int .i64 a0_2) := (blk_cell BK355.out 2).trans rfl
           have hcz51_3 : w44.cell? ⟨gb355, 3, none⟩ = some (.int .i64 a0_3) := (blk_cell BK355.out 3).trans rfl
           have hfz51_0 := blk_frozen BK355.out 0
           have hfz51_1 := blk_frozen BK355.out 1
           have hfz51_2 := blk_frozen BK355.out 2
           have hfz51_3 := blk_frozen BK355.out 3
           try go_wp2_with (first | ((with_reducible refine gate_callee (f := 15) rfl ?_); refine goesL_ (some 33) rfl rfl Try.func15 (by kernel_rfl) rfl #[.agg #[.int .i64 a0_0, .int .i64 a0_1, .int .i64 a0_2, .int .i64 a0_3], .int .i64 3] rfl (by (try simp only [List.map_toArray, List.map_cons, List.map_nil]); first | done | rfl | (simp only [List.length_drop, List.length_take]; rfl)) ?_; (with_reducible refine (count_Step.calls a0_0 a0_1 a0_2 a0_3 3 t374 t375 t376 t377 _ A18.out).mono ?_); rintro e w52 ⟨rfl, hb⟩; refine ⟨_, rfl, ?_⟩; have n0_ := aM (Kd.R_below (by (with_reducible repeat (first | apply rA | apply rN | apply rW)); exact (Kd.R_mono (Kd.R_far (p := ⟨gb373, 3, none⟩) (Kd.R_far (p := ⟨gb373, 2, none⟩) (Kd.R_far (p := ⟨gb373, 1, none⟩) (Kd.R_far (p := ⟨gb373, 0, none⟩) (Kd.R_types HO360.out BK373.out (by decide)) (fun _ hk => hk.2) (.int .i64 t369)) (fun _ hk => hk.2) (.int .i64 t370)) (fun _ hk => hk.2) (.int .i64 t371)) (fun _ hk => hk.2) (.int .i64 t372)) (fun _ h_ => h_.1))) hb); have n1_ := aM (Kd.R_below (by (with_reducible repeat (first | apply rA | apply rN | apply rW)); exact (Kd.R_mono (Kd.R_far (p := ⟨gb373, 3, none⟩) (Kd.R_far (p := ⟨gb373, 2, none⟩) (Kd.R_far (p := ⟨gb373, 1, none⟩) (Kd.R_far (p := ⟨gb373, 0, none⟩) (Kd.R_types HO368.out BK373.out (by decide)) (fun _ hk => hk.2) (.int .i64 t369)) (fun _ hk => hk.2) (.int .i64 t370)) (fun _ hk => hk.2) (.int .i64 t371)) (fun _ hk => hk.2) (.int .i64 t372)) (fun _ h_ => h_.1))) hb); have n2_ := aM (blk_below (g := gb355) (o := .cells #[.int .i64 a0_0, .int .i64 a0_1, .int .i64 a0_2, .int .i64 a0_3] 23 (0, 0)) (by (with_reducible repeat (first | refine bN ?_ _ | refine bW ?_ | refine bA ?_ _)); refine blk_far ?_ NB355_373.out _; (with_reducible repeat (first | refine bN ?_ _ | refine bW ?_ | refine bA ?_ _)); refine blk_far ?_ NB355_373.out _; (with_reducible repeat (first | refine bN ?_ _ | refine bW ?_ | refine bA ?_ _)); refine blk_far ?_ NB355_373.out _; (with_reducible repeat (first | refine bN ?_ _ | refine bW ?_ | refine bA ?_ _)); refine blk_far ?_ NB355_373.out _; (with_reducible repeat (first | refine bN ?_ _ | refine bW ?_ | refine bA ?_ _)); exact BK355.out) hb); have n3_ := aM (blk_below (g := gb365) (o := .cells #[.int .i64 t361, .int .i64 t362, .int .i64 t363, .int .i64 t364] 23 (0, 0)) (by (with_reducible repeat (first | refine bN ?_ _ | refine bW ?_ | refine bA ?_ _)); refine blk_far ?_ NB365_373.out _; (with_reducible repeat (first | refine bN ?_ _ | refine bW ?_ | refine bA ?_ _)); refine blk_far ?_ NB365_373.out _; (with_reducible repeat (first | refine bN ?_ _ | refine bW ?_ | refine bA ?_ _)); refine blk_far ?_ NB365_373.out _; (with_reducible repeat (first | refine bN ?_ _ | refine bW ?_ | refine bA ?_ _)); refine blk_far ?_ NB365_373.out _; (with_reducible repeat (first | refine bN ?_ _ | refine bW ?_ | refine bA ?_ _)); exact BK365.out) hb); have n4_ := aM (blk_below (g := gb373) (o := .cells #[.int .i64 t369, .int .i64 t370, .int .i64 t371, .int .i64 t372] 23 (0, 0)) (by (with_reducible repeat (first | refine bN ?_ _ | refine bW ?_ | refine bA ?_ _)); refine blk_put (cs := #[.int .i64 t369, .int .i64 t370, .int .i64 t371, .int .i64 0]) ?_ 3 _ rfl; (with_reducible repeat (first | refine bN ?_ _ | refine bW ?_ | refine bA ?_ _)); refine blk_put (cs := #[.int .i64 t369, .int .i64 t370, .int .i64 0, .int .i64 0]) ?_ 2 _ rfl; (with_reducible repeat (first | refine bN ?_ _ | refine bW ?_ | refine bA ?_ _)); refine blk_put (cs := #[.int .i64 t369, .int .i64 0, .int .i64 0, .int .i64 0]) ?_ 1 _ rfl; (with_reducible repeat (first | refine bN ?_ _ | refine bW ?_ | refine bA ?_ _)); refine blk_put (cs := #[.int .i64 0, .int .i64 0, .int .i64 0, .int .i64 0]) ?_ 0 _ rfl; (with_reducible repeat (first | refine bN ?_ _ | refine bW ?_ | refine bA ?_ _)); exact BK373.out) hb); have n5_ := aM (below_step (by repeat (first | (with_reducible first | exact HB.out | apply lA | apply lN | apply lW | refine lS ?_ GE355.out | refine lS ?_ GE365.out | refine lS ?_ GE373.out) | exact HB.out)) hb); clear HO360; clear HO368; clear BK355; clear BK365; clear BK373; clear HB; have HO360 := n0_; have HO368 := n1_; have BK355 := n2_; have BK365 := n3_; have BK373 := n4_; have HB := n5_; clear n0_ n1_ n2_ n3_ n4_ n5_; (try clear hb); (try clear hb2); (try clear hk); (try clear hi)) | ((with_reducible refine gate_callee (f := 15) rfl ?_); refine goesL_ (some 34) rfl rfl Try.func15 (by kernel_rfl) rfl #[.agg #[.int .i64 t374, .int .i64 t375, .int .i64 t376, .int .i64 t377], .int .i64 1] rfl (by (try simp only [List.map_toArray, List.map_cons, List.map_nil]); first | done | rfl | (simp only [List.length_drop, List.length_take]; rfl)) ?_; (with_reducible refine (count_Step.calls t374 t375 t376 t377 1 t378 t379 t380 t381 _ A19.out).mono ?_); rintro e w53 ⟨rfl, hb⟩; refine ⟨_, rfl, ?_⟩; have n0_ := aM (Kd.R_below (by (with_reducible repeat (first | apply rA | apply rN | apply rW)); exact HO360.out) hb); have n1_ := aM (Kd.R_below (by (with_reducible repeat (first | apply rA | apply rN | apply rW)); exact HO368.out) hb); have n2_ := aM (blk_below (g := gb355) (o := .cells #[.int .i64 a0_0, .int .i64 a0_1, .int .i64 a0_2, .int .i64 a0_3] 23 (0, 0)) (by (with_reducible repeat (first | refine bN ?_ _ | refine bW ?_ | refine bA ?_ _)); exact BK355.out) hb); have n3_ := aM (blk_below (g := gb365) (o := .cells #[.int .i64 t361, .int .i64 t362, .int .i64 t363, .int .i64 t364] 23 (0, 0)) (by (with_reducible repeat (first | refine bN ?_ _ | refine bW ?_ | refine bA ?_ _)); exact BK365.out) hb); have n4_ := aM (blk_below (g := gb373) (o := .cells #[.int .i64 t369, .int .i64 t370, .int .i64 t371, .int .i64 t372] 23 (0, 0)) (by (with_reducible repeat (first | refine bN ?_ _ | refine bW ?_ | refine bA ?_ _)); exact BK373.out) hb); have n5_ := aM (below_step (by repeat (first | (with_reducible first | exact HB.out | apply lA | apply lN | apply lW | refine lS ?_ GE355.out | refine lS ?_ GE365.out | refine lS ?_ GE373.out) | exact HB.out)) hb); clear HO360; clear HO368; clear BK355; clear BK365; clear BK373; clear HB; have HO360 := n0_; have HO368 := n1_; have BK355 := n2_; have BK365 := n3_; have BK373 := n4_; have HB := n5_; clear n0_ n1_ n2_ n3_ n4_ n5_; (try clear hb); (try clear hb2); (try clear hk); (try clear hi)) | ((with_reducible refine gate_dst (N := 7) rfl ?_); refine box_event ?hg (N := 7) ?hd (cs := #[.int .i64 0, .int .i64 0, .int .i64 0, .int .i64 0]) (t := 23) ?hr ?_; (case hd => rfl); (case hg => rfl); (case hr => first | (go_simp; done) | (go_simp; rfl)); intro gb382 hg w54 hbox hb; have n0_ := aM (Kd.R_below (by (with_reducible repeat (first | apply rA | apply rN | apply rW)); exact HO360.out) hb); have n1_ := aM (Kd.R_below (by (with_reducible repeat (first | apply rA | apply rN | apply rW)); exact HO368.out) hb); have n2_ := aM (blk_below (g := gb355) (o := .cells #[.int .i64 a0_0, .int .i64 a0_1, .int .i64 a0_2, .int .i64 a0_3] 23 (0, 0)) (by (with_reducible repeat (first | refine bN ?_ _ | refine bW ?_ | refine bA ?_ _)); exact BK355.out) hb); have n3_ := aM (blk_below (g := gb365) (o := .cells #[.int .i64 t361, .int .i64 t362, .int .i64 t363, .int .i64 t364] 23 (0, 0)) (by (with_reducible repeat (first | refine bN ?_ _ | refine bW ?_ | refine bA ?_ _)); exact BK365.out) hb); have n4_ := aM (blk_below (g := gb373) (o := .cells #[.int .i64 t369, .int .i64 t370, .int .i64 t371, .int .i64 t372] 23 (0, 0)) (by (with_reducible repeat (first | refine bN ?_ _ | refine bW ?_ | refine bA ?_ _)); exact BK373.out) hb); have n5_ := aM (below_step (by repeat (first | (with_reducible first | exact HB.out | apply lA | apply lN | apply lW | refine lS ?_ GE355.out | refine lS ?_ GE365.out | refine lS ?_ GE373.out) | exact HB.out)) hb); have n6_ := aM (hbox); have n7_ := aM ((by rw [hg]; exact (below_size (by repeat (first | (with_reducible first | exact HB.out | apply lA | apply lN | apply lW | refine lS ?_ GE355.out | refine lS ?_ GE365.out | refine lS ?_ GE373.out) | exact HB.out))) : w.heap.size ≤ gb382)); have n8_ := aM ((by rw [hg]; exact (below_size (by repeat (first | (with_reducible first | exact HB.out | apply lA | apply lN | apply lW | refine lS ?_ GE355.out | refine lS ?_ GE365.out | refine lS ?_ GE373.out) | exact HB.out))) : w.heap.size ≤ gb382)); have n9_ := aM ((by rw [hg]; exact Nat.ne_of_lt (blk_lt (g := gb355) (o := .cells #[.int .i64 a0_0, .int .i64 a0_1, .int .i64 a0_2, .int .i64 a0_3] 23 (0, 0)) (by (with_reducible repeat (first | refine bN ?_ _ | refine bW ?_ | refine bA ?_ _)); exact BK355.out)) : gb355 ≠ gb382)); have n10_ := aM ((by rw [hg]; exact Nat.ne_of_gt (blk_lt (g := gb355) (o := .cells #[.int .i64 a0_0, .int .i64 a0_1, .int .i64 a0_2, .int .i64 a0_3] 23 (0, 0)) (by (with_reducible repeat (first | refine bN ?_ _ | refine bW ?_ | refine bA ?_ _)); exact BK355.out)) : gb382 ≠ gb355)); have n11_ := aM ((by rw [hg]; exact Nat.ne_of_lt (blk_lt (g := gb365) (o := .cells #[.int .i64 t361, .int .i64 t362, .int .i64 t363, .int .i64 t364] 23 (0, 0)) (by (with_reducible repeat (first | refine bN ?_ _ | refine bW ?_ | refine bA ?_ _)); exact BK365.out)) : gb365 ≠ gb382)); have n12_ := aM ((by rw [hg]; exact Nat.ne_of_gt (blk_lt (g := gb365) (o := .cells #[.int .i64 t361, .int .i64 t362, .int .i64 t363, .int .i64 t364] 23 (0, 0)) (by (with_reducible repeat (first | refine bN ?_ _ | refine bW ?_ | refine bA ?_ _)); exact BK365.out)) : gb382 ≠ gb365)); have n13_ := aM ((by rw [hg]; exact Nat.ne_of_lt (blk_lt (g := gb373) (o := .cells #[.int .i64 t369, .int .i64 t370, .int .i64 t371, .int .i64 t372] 23 (0, 0)) (by (with_reducible repeat (first | refine bN ?_ _ | refine bW ?_ | refine bA ?_ _)); exact BK373.out)) : gb373 ≠ gb382)); have n14_ := aM ((by rw [hg]; exact Nat.ne_of_gt (blk_lt (g := gb373) (o := .cells #[.int .i64 t369, .int .i64 t370, .int .i64 t371, .int .i64 t372] 23 (0, 0)) (by (with_reducible repeat (first | refine bN ?_ _ | refine bW ?_ | refine bA ?_ _)); exact BK373.out)) : gb382 ≠ gb373)); clear HO360; clear HO368; clear BK355; clear BK365; clear BK373; clear HB; have HO360 := n0_; have HO368 := n1_; have BK355 := n2_; have BK365 := n3_; have BK373 := n4_; have HB := n5_; have BK382 := n6_; have GW382 := n7_; have GE382 := n8_; have NB355_382 := n9_; have NB382_355 := n10_; have NB365_382 := n11_; have NB382_365 := n12_; have NB373_382 := n13_; have NB382_373 := n14_; clear n0_ n1_ n2_ n3_ n4_ n5_ n6_ n7_ n8_ n9_ n10_ n11_ n12_ n13_ n14_; clear hb hbox hg; have hnb55 := NB382_355.out; have hnc55 := NB355_382.out; have hnb56 := NB382_365.out; have hnc56 := NB365_382.out; have hnb57 := NB382_373.out; have hnc57 := NB373_382.out; have hcz58_0 : w54.cell? ⟨gb382, 0, none⟩ = some (.int .i64 0) := (blk_cell BK382.out 0).trans rfl; have hcz58_1 : w54.cell? ⟨gb382, 1, none⟩ = some (.int .i64 0) := (blk_cell BK382.out 1).trans rfl; have hcz58_2 : w54.cell? ⟨gb382, 2, none⟩ = some (.int .i64 0) := (blk_cell BK382.out 2).trans rfl; have hcz58_3 : w54.cell? ⟨gb382, 3, none⟩ = some (.int .i64 0) := (blk_cell BK382.out 3).trans rfl; have hfz58_0 := blk_frozen BK382.out 0; have hfz58_1 := blk_frozen BK382.out 1; have hfz58_2 := blk_frozen BK382.out 2; have hfz58_3 := blk_frozen BK382.out 3; have hnb59 := NB365_373.out; have hnc59 := NB373_365.out; have hcz60_0 : w54.cell? ⟨gb365, 0, none⟩ = some (.int .i64 t361) := (blk_cell BK365.out 0).trans rfl; have hcz60_1 : w54.cell? ⟨gb365, 1, none⟩ = some (.int .i64 t362) := (blk_cell BK365.out 1).trans rfl; have hcz60_2 : w54.cell? ⟨gb365, 2, none⟩ = some (.int .i64 t363) := (blk_cell BK365.out 2).trans rfl; have hcz60_3 : w54.cell? ⟨gb365, 3, none⟩ = some (.int .i64 t364) := (blk_cell BK365.out 3).trans rfl; have hfz60_0 := blk_frozen BK365.out 0; have hfz60_1 := blk_frozen BK365.out 1; have hfz60_2 := blk_frozen BK365.out 2; have hfz60_3 := blk_frozen BK365.out 3; have hcz61_0 : w54.cell? ⟨gb373, 0, none⟩ = some (.int .i64 t369) := (blk_cell BK373.out 0).trans rfl; have hcz61_1 : w54.cell? ⟨gb373, 1, none⟩ = some (.int .i64 t370) := (blk_cell BK373.out 1).trans rfl; have hcz61_2 : w54.cell? ⟨gb373, 2, none⟩ = some (.int .i64 t371) := (blk_cell BK373.out 2).trans rfl; have hcz61_3 : w54.cell? ⟨gb373, 3, none⟩ = some (.int .i64 t372) := (blk_cell BK373.out 3).trans rfl; have hfz61_0 := blk_frozen BK373.out 0; have hfz61_1 := blk_frozen BK373.out 1; have hfz61_2 := blk_frozen BK373.out 2; have hfz61_3 := blk_frozen BK373.out 3; have hcz62_0 : w54.cell? ⟨gb355, 0, none⟩ = some (.int .i64 a0_0) := (blk_cell BK355.out 0).trans rfl; have hcz62_1 : w54.cell? ⟨gb355, 1, none⟩ = some (.int .i64 a0_1) := (blk_cell BK355.out 1).trans rfl; have hcz62_2 : w54.cell? ⟨gb355, 2, none⟩ = some (.int .i64 a0_2) := (blk_cell BK355.out 2).trans rfl; have hcz62_3 : w54.cell? ⟨gb355, 3, none⟩ = some (.int .i64 a0_3) := (blk_cell BK355.out 3).trans rfl; have hfz62_0 := blk_frozen BK355.out 0; have hfz62_1 := blk_frozen BK355.out 1; have hfz62_2 := blk_frozen BK355.out 2; have hfz62_3 := blk_frozen BK355.out 3))
           go_ret
           exact ⟨by first | rfl | (simp [errW_none, errW_some] <;> rfl) | (simp [*, errW_none, errW_some] <;> rfl), by repeat (first | (with_reducible first | exact HB.out | apply lA | apply lN | apply lW | refine lS ?_ GE355.out | refine lS ?_ GE365.out | refine lS ?_ GE373.out | refine lS ?_ GE382.out) | exact HB.out)⟩
          ·rw [if_neg c26] at H
           have c26b0 : (t380 == 3) = false := beq_eq_false_iff_ne.mpr c26
           have c26b1 : (t380 != 3) = true := bne_iff_ne.mpr c26
           obtain rfl := Option.some.inj H
           have hcz63_0 : wc.cell? ⟨gb355, 0, none⟩ = some (.int .i64 a0_0) := (blk_cell BK355.out 0).trans rfl
           have hcz63_1 : wc.cell? ⟨gb355, 1, none⟩ = some (.int .i64 a0_1) := (blk_cell BK355.out 1).trans rfl
           have hcz63_2 : wc.cell? ⟨gb355, 2, none⟩ = some (.int .i64 a0_2) := (blk_cell BK355.out 2).trans rfl
           have hcz63_3 : wc.cell? ⟨gb355, 3, none⟩ = some (.int .i64 a0_3) := (blk_cell BK355.out 3).trans rfl
           have hfz63_0 := blk_frozen BK355.out 0
           have hfz63_1 := blk_frozen BK355.out 1
           have hfz63_2 := blk_frozen BK355.out 2
           have hfz63_3 := blk_frozen BK355.out 3
           try go_wp2
           have n0_ := aM (bW BK355.out)
           have n1_ := aM (lW HB.out)
           clear BK355
           clear HB
           have BK355 := n0_
           have HB := n1_
           clear n0_ n1_
           refine start_ (n := 6) (S := fun w' => w'.cell? ⟨gb355, 0, none⟩ = some (.int .i64 a0_0) ∧ w'.cell? ⟨gb355, 1, none⟩ = some (.int .i64 a0_1) ∧ w'.cell? ⟨gb355, 2, none⟩ = some (.int .i64 a0_2) ∧ w'.cell? ⟨gb355, 3, none⟩ = some (.int .i64 a0_3)) (ds := []) #[false, false, false, false, false, false] (by kernel_rfl) rfl rfl ⟨(blk_cell BK355.out 0).trans rfl, (blk_cell BK355.out 1).trans rfl, (blk_cell BK355.out 2).trans rfl, (blk_cell BK355.out 3).trans rfl⟩ (fun hHeld => ?_)
           generalize wc.drew = w64 at BK355 HB hHeld ⊢
           refine pure_ (i := 1) (N := some 24) (v := ?_) (a' := ?_) #[false, true, false, false, false, false] rfl rfl (by kernel_rfl) (fun _ _ _ h => h) (Or.inl ⟨by rfl, ?_⟩) ?_ ?_
           rotate_left
           ·intro w'
            go_simp
            with_reducible rfl
           rotate_left
           ·simp only [Act.put, sT, sZ, sS, i64_w, i32_w]
            rfl
           refine take_ (i := 0) (N := some 23) (v := ?_) (a' := ?_) #[true, true, false, false, false, false] rfl rfl (by kernel_rfl) (fun _ _ _ h => h) (Or.inl ⟨by rfl, ?_⟩) hHeld ?_ ?_
           rotate_left
           ·rintro w' ⟨s0, s1, s2, s3⟩
            go_simp
            with_reducible rfl
           rotate_left
           ·simp only [Act.put, sT, sZ, sS, i64_w, i32_w]
            rfl
           refine join_ (σ := Value × Nat) 1 #[true, true, true, true, true, false] (fun s_ => [(25, s_.1), (26, .agg #[.int .i64 t361, .int .i64 t362, .int .i64 t363, .int .i64 t364]), (5, .pointer (some ⟨s_.2, 0, none⟩))]) (fun s_ w' => (w'.cell? ⟨gb355, 0, none⟩ = some (.int .i64 a0_0) ∧ w'.cell? ⟨gb355, 1, none⟩ = some (.int .i64 a0_1) ∧ w'.cell? ⟨gb355, 2, none⟩ = some (.int .i64 a0_2) ∧ w'.cell? ⟨gb355, 3, none⟩ = some (.int .i64 a0_3)) ∧ (Kd.R (Kd.int .i64) 3 w' w.heap.size (fun _ => True) s_.1 t358) ∧ (w'.heap[gb355]? = some (.cells #[.int .i64 a0_0, .int .i64 a0_1, .int .i64 a0_2, .int .i64 a0_3] 23 (0, 0))) ∧ (w'.heap[s_.2]? = some (.cells #[.int .i64 0, .int .i64 0, .int .i64 0, .int .i64 0] 23 (0, 0))) ∧ (w.heap.size ≤ s_.2) ∧ (w.heap.size ≤ s_.2) ∧ (gb355 ≠ s_.2) ∧ (s_.2 ≠ gb355) ∧ (Below w.heap.size w w')) ?_ ?_
           rotate_left
           ·intro hCont
            refine two_ (i := 2) (j := 4) (Ni := some 25) (Nj := some 5) #[true, true, true, false, false, false] #[true, true, false, false, true, false] rfl rfl rfl rfl (by kernel_rfl) (by decide) (by decide) (fun K hK => ?_) (fun K hK => ?_)
            ·skip
             refine goes_ Try.func19 (by kernel_rfl) rfl #[.int .i64 3, .int .i64 (wrap64 (Int.tdiv (wrap64 ((wrap64 (256 - a0_0)) + 7)) 8))] (by rfl) rfl rfl (by (try simp only [List.map_toArray, List.map_cons, List.map_nil]); first | done | rfl | (simp only [List.length_drop, List.length_take]; rfl)) ?_
             with_reducible refine (phaetonlaw08_times.calls kj2 3 (wrap64 (Int.tdiv (wrap64 ((wrap64 (256 - a0_0)) + 7)) 8)) t358 _ A14.out).mono ?_
             rintro e w65 ⟨v359, rfl, ho0, hb⟩
             refine ⟨_, rfl, ?_⟩
             have n0_ := aM (Kd.R_lower ho0 (below_size (by repeat (first | (with_reducible first | exact HB.out | apply lA | apply lN | apply lW | refine lS ?_ GE355.out) | exact HB.out))))
             have n1_ := aM (blk_below (g := gb355) (o := .cells #[.int .i64 a0_0, .int .i64 a0_1, .int .i64 a0_2, .int .i64 a0_3] 23 (0, 0)) (by (with_reducible repeat (first | refine bN ?_ _ | refine bW ?_ | refine bA ?_ _)); exact BK355.out) hb)
             have n2_ := aM (below_step (by repeat (first | (with_reducible first | exact HB.out | apply lA | apply lN | apply lW | refine lS ?_ GE355.out) | exact HB.out)) hb)
             clear BK355
             clear HB
             have HO360 := n0_
             have BK355 := n1_
             have HB := n2_
             clear n0_ n1_ n2_
             (try clear hb)
             (try clear hb2)
             (try clear hk)
             (try clear hi)
             (try clear ho0)
             obtain ⟨Ao66, co66, eo66⟩ := Kd.R_slice HO360.out
             (first | subst eo66 | (injection eo66 with f1_ f2_ f3_; have f4_ := f1_.symm; have f5_ := f3_.symm; clear f1_ f2_ f3_; subst f4_; subst f5_))
             refine hK.out _ _ ⟨(blk_cell BK355.out 0).trans rfl, (blk_cell BK355.out 1).trans rfl, (blk_cell BK355.out 2).trans rfl, (blk_cell BK355.out 3).trans rfl⟩ (fun hHeld => ?_)
             clear hK K
             refine norm_ (a' := ?_) ?_ ?_
             rotate_left
             ·show Act.put _ (some 25) _ = _
              simp only [Act.put, sT, sZ, sS, i64_w, i32_w]
              rfl
             refine two_ (i := 3) (j := 4) (Ni := some 26) (Nj := some 5) #[true, true, true, true, false, false] #[true, true, true, false, true, false] rfl rfl rfl rfl (by kernel_rfl) (by decide) (by decide) (fun K hK => ?_) (fun K hK => ?_)
             ·skip
              refine goes_ Try.func17 (by kernel_rfl) rfl #[.agg #[.int .i64 a0_0, .int .i64 a0_1, .int .i64 a0_2, .int .i64 a0_3], .slice Ao66 t358.length co66] (by rfl) rfl rfl (by (try simp only [List.map_toArray, List.map_cons, List.map_nil]); first | done | rfl | (simp only [List.length_drop, List.length_take]; rfl)) ?_
              with_reducible refine (count_Steps.calls kj2 a0_0 a0_1 a0_2 a0_3 _ _ t358 t361 t362 t363 t364 _ ?side1 ?side2 A15.out).mono ?_
              (case side1 => repeat (first | exact (Kd.R_reads' HO360.out).2.2 | (with_reducible refine Kd.C_alloc ?_ _) | (with_reducible refine Kd.C_drewN ?_ _) | (with_reducible refine Kd.C_drew ?_)))
              (case side2 => exact (Kd.R_reads' HO360.out).2.1)
              rintro e w67 ⟨rfl, hb⟩
              refine ⟨_, rfl, ?_⟩
              have n0_ := aM (Kd.R_below (by (with_reducible repeat (first | apply rA | apply rN | apply rW)); exact HO360.out) hb)
              have n1_ := aM (blk_below (g := gb355) (o := .cells #[.int .i64 a0_0, .int .i64 a0_1, .int .i64 a0_2, .int .i64 a0_3] 23 (0, 0)) (by (with_reducible repeat (first | refine bN ?_ _ | refine bW ?_ | refine bA ?_ _)); exact BK355.out) hb)
              have n2_ := aM (below_step (by repeat (first | (with_reducible first | exact HB.out | apply lA | apply lN | apply lW | refine lS ?_ GE355.out) | exact HB.out)) hb)
              clear HO360
              clear BK355
              clear HB
              have HO360 := n0_
              have BK355 := n1_
              have HB := n2_
              clear n0_ n1_ n2_
              (try clear hb)
              (try clear hb2)
              (try clear hk)
              (try clear hi)
              refine hK.out _ _ ⟨(blk_cell BK355.out 0).trans rfl, (blk_cell BK355.out 1).trans rfl, (blk_cell BK355.out 2).trans rfl, (blk_cell BK355.out 3).trans rfl⟩ (fun hHeld => ?_)
              clear hK K
              refine norm_ (a' := ?_) ?_ ?_
              rotate_left
              ·show Act.put _ (some 26) _ = _
               simp only [Act.put, sT, sZ, sS, i64_w, i32_w]
               rfl
              refine one_ (i := 4) (N := some 5) #[true, true, true, true, true, false] rfl rfl (by kernel_rfl) (by decide) (fun K hK => ?_)
              refine box_step ?hg (N := 5) ?hd (cs := #[.int .i64 0, .int .i64 0, .int .i64 0, .int .i64 0]) (t := 23) ?hr ?_; (case hd => rfl); (case hg => rfl); (case hr => first | (go_simp; done) | (go_simp; rfl))
              intro gb365 hg w68 hbox hb
              have n0_ := aM (Kd.R_below (by (with_reducible repeat (first | apply rA | apply rN | apply rW)); exact HO360.out) hb)
              have n1_ := aM (blk_below (g := gb355) (o := .cells #[.int .i64 a0_0, .int .i64 a0_1, .int .i64 a0_2, .int .i64 a0_3] 23 (0, 0)) (by (with_reducible repeat (first | refine bN ?_ _ | refine bW ?_ | refine bA ?_ _)); exact BK355.out) hb)
              have n2_ := aM (below_step (by repeat (first | (with_reducible first | exact HB.out | apply lA | apply lN | apply lW | refine lS ?_ GE355.out) | exact HB.out)) hb)
              have n3_ := aM (hbox)
              have n4_ := aM ((by rw [hg]; exact (below_size (by repeat (first | (with_reducible first | exact HB.out | apply lA | apply lN | apply lW | refine lS ?_ GE355.out) | exact HB.out))) : w.heap.size ≤ gb365))
              have n5_ := aM ((by rw [hg]; exact (below_size (by repeat (first | (with_reducible first | exact HB.out | apply lA | apply lN | apply lW | refine lS ?_ GE355.out) | exact HB.out))) : w.heap.size ≤ gb365))
              have n6_ := aM ((by rw [hg]; exact Nat.ne_of_lt (blk_lt (g := gb355) (o := .cells #[.int .i64 a0_0, .int .i64 a0_1, .int .i64 a0_2, .int .i64 a0_3] 23 (0, 0)) (by (with_reducible repeat (first | refine bN ?_ _ | refine bW ?_ | refine bA ?_ _)); exact BK355.out)) : gb355 ≠ gb365))
              have n7_ := aM ((by rw [hg]; exact Nat.ne_of_gt (blk_lt (g := gb355) (o := .cells #[.int .i64 a0_0, .int .i64 a0_1, .int .i64 a0_2, .int .i64 a0_3] 23 (0, 0)) (by (with_reducible repeat (first | refine bN ?_ _ | refine bW ?_ | refine bA ?_ _)); exact BK355.out)) : gb365 ≠ gb355))
              clear HO360
              clear BK355
              clear HB
              have HO360 := n0_
              have BK355 := n1_
              have HB := n2_
              have BK365 := n3_
              have GW365 := n4_
              have GE365 := n5_
              have NB355_365 := n6_
              have NB365_355 := n7_
              clear n0_ n1_ n2_ n3_ n4_ n5_ n6_ n7_
              clear hb hbox hg
              refine hK.out _ _ ⟨(blk_cell BK355.out 0).trans rfl, (blk_cell BK355.out 1).trans rfl, (blk_cell BK355.out 2).trans rfl, (blk_cell BK355.out 3).trans rfl⟩ (fun hHeld => ?_)
              clear hK K
              refine norm_ (a' := ?_) ?_ ?_
              rotate_left
              ·show Act.put _ (some 5) _ = _
               simp only [Act.put, sT, sZ, sS, i64_w, i32_w]
               rfl
              exact norm_ (by simp only [putAll, Act.put, sT, sZ, sS]) (hCont (.slice Ao66 t358.length co66, gb365) _ ⟨hHeld, (by (with_reducible repeat (first | apply rA | apply rN | apply rW)); exact HO360.out), (by (with_reducible repeat (first | refine bN ?_ _ | refine bW ?_ | refine bA ?_ _)); exact BK355.out), (by (with_reducible repeat (first | refine bN ?_ _ | refine bW ?_ | refine bA ?_ _)); exact BK365.out), GW365.out, GE365.out, NB355_365.out, NB365_355.out, (by repeat (first | (with_reducible first | exact HB.out | apply lA | apply lN | apply lW | refine lS ?_ GE355.out | refine lS ?_ GE365.out) | exact HB.out))⟩)
             ·skip
              refine box_step ?hg (N := 5) ?hd (cs := #[.int .i64 0, .int .i64 0, .int .i64 0, .int .i64 0]) (t := 23) ?hr ?_; (case hd => rfl); (case hg => rfl); (case hr => first | (go_simp; done) | (go_simp; rfl))
              intro gb365 hg w66 hbox hb
              have n0_ := aM (Kd.R_below (by (with_reducible repeat (first | apply rA | apply rN | apply rW)); exact HO360.out) hb)
              have n1_ := aM (blk_below (g := gb355) (o := .cells #[.int .i64 a0_0, .int .i64 a0_1, .int .i64 a0_2, .int .i64 a0_3] 23 (0, 0)) (by (with_reducible repeat (first | refine bN ?_ _ | refine bW ?_ | refine bA ?_ _)); exact BK355.out) hb)
              have n2_ := aM (below_step (by repeat (first | (with_reducible first | exact HB.out | apply lA | apply lN | apply lW | refine lS ?_ GE355.out) | exact HB.out)) hb)
              have n3_ := aM (hbox)
              have n4_ := aM ((by rw [hg]; exact (below_size (by repeat (first | (with_reducible first | exact HB.out | apply lA | apply lN | apply lW | refine lS ?_ GE355.out) | exact HB.out))) : w.heap.size ≤ gb365))
              have n5_ := aM ((by rw [hg]; exact (below_size (by repeat (first | (with_reducible first | exact HB.out | apply lA | apply lN | apply lW | refine lS ?_ GE355.out) | exact HB.out))) : w.heap.size ≤ gb365))
              have n6_ := aM ((by rw [hg]; exact Nat.ne_of_lt (blk_lt (g := gb355) (o := .cells #[.int .i64 a0_0, .int .i64 a0_1, .int .i64 a0_2, .int .i64 a0_3] 23 (0, 0)) (by (with_reducible repeat (first | refine bN ?_ _ | refine bW ?_ | refine bA ?_ _)); exact BK355.out)) : gb355 ≠ gb365))
              have n7_ := aM ((by rw [hg]; exact Nat.ne_of_gt (blk_lt (g := gb355) (o := .cells #[.int .i64 a0_0, .int .i64 a0_1, .int .i64 a0_2, .int .i64 a0_3] 23 (0, 0)) (by (with_reducible repeat (first | refine bN ?_ _ | refine bW ?_ | refine bA ?_ _)); exact BK355.out)) : gb365 ≠ gb355))
              clear HO360
              clear BK355
              clear HB
              have HO360 := n0_
              have BK355 := n1_
              have HB := n2_
              have BK365 := n3_
              have GW365 := n4_
              have GE365 := n5_
              have NB355_365 := n6_
              have NB365_355 := n7_
              clear n0_ n1_ n2_ n3_ n4_ n5_ n6_ n7_
              clear hb hbox hg
              obtain ⟨Ao67, co67, eo67⟩ := Kd.R_slice HO360.out
              (first | subst eo67 | (injection eo67 with f1_ f2_ f3_; have f4_ := f1_.symm; have f5_ := f3_.symm; clear f1_ f2_ f3_; subst f4_; subst f5_))
              refine hK.out _ _ ⟨(blk_cell BK355.out 0).trans rfl, (blk_cell BK355.out 1).trans rfl, (blk_cell BK355.out 2).trans rfl, (blk_cell BK355.out 3).trans rfl⟩ (fun hHeld => ?_)
              clear hK K
              refine norm_ (a' := ?_) ?_ ?_
              rotate_left
              ·show Act.put _ (some 5) _ = _
               simp only [Act.put, sT, sZ, sS, i64_w, i32_w]
               rfl
              refine one_ (i := 3) (N := some 26) #[true, true, true, true, true, false] rfl rfl (by kernel_rfl) (by decide) (fun K hK => ?_)
              refine goes_ Try.func17 (by kernel_rfl) rfl #[.agg #[.int .i64 a0_0, .int .i64 a0_1, .int .i64 a0_2, .int .i64 a0_3], .slice Ao67 t358.length co67] (by rfl) rfl rfl (by (try simp only [List.map_toArray, List.map_cons, List.map_nil]); first | done | rfl | (simp only [List.length_drop, List.length_take]; rfl)) ?_
              with_reducible refine (count_Steps.calls kj2 a0_0 a0_1 a0_2 a0_3 _ _ t358 t361 t362 t363 t364 _ ?side1 ?side2 A15.out).mono ?_
              (case side1 => repeat (first | exact (Kd.R_reads' HO360.out).2.2 | (with_reducible refine Kd.C_alloc ?_ _) | (with_reducible refine Kd.C_drewN ?_ _) | (with_reducible refine Kd.C_drew ?_)))
              (case side2 => exact (Kd.R_reads' HO360.out).2.1)
              rintro e w68 ⟨rfl, hb⟩
              refine ⟨_, rfl, ?_⟩
              have n0_ := aM (Kd.R_below (by (with_reducible repeat (first | apply rA | apply rN | apply rW)); exact HO360.out) hb)
              have n1_ := aM (blk_below (g := gb355) (o := .cells #[.int .i64 a0_0, .int .i64 a0_1, .int .i64 a0_2, .int .i64 a0_3] 23 (0, 0)) (by (with_reducible repeat (first | refine bN ?_ _ | refine bW ?_ | refine bA ?_ _)); exact BK355.out) hb)
              have n2_ := aM (blk_below (g := gb365) (o := .cells #[.int .i64 0, .int .i64 0, .int .i64 0, .int .i64 0] 23 (0, 0)) (by (with_reducible repeat (first | refine bN ?_ _ | refine bW ?_ | refine bA ?_ _)); exact BK365.out) hb)
              have n3_ := aM (below_step (by repeat (first | (with_reducible first | exact HB.out | apply lA | apply lN | apply lW | refine lS ?_ GE355.out | refine lS ?_ GE365.out) | exact HB.out)) hb)
              clear HO360
              clear BK355
              clear BK365
              clear HB
              have HO360 := n0_
              have BK355 := n1_
              have BK365 := n2_
              have HB := n3_
              clear n0_ n1_ n2_ n3_
              (try clear hb)
              (try clear hb2)
              (try clear hk)
              (try clear hi)
              refine hK.out _ _ ⟨(blk_cell BK355.out 0).trans rfl, (blk_cell BK355.out 1).trans rfl, (blk_cell BK355.out 2).trans rfl, (blk_cell BK355.out 3).trans rfl⟩ (fun hHeld => ?_)
              clear hK K
              refine norm_ (a' := ?_) ?_ ?_
              rotate_left
              ·show Act.put _ (some 26) _ = _
               simp only [Act.put, sT, sZ, sS, i64_w, i32_w]
               rfl
              exact norm_ (by simp only [putAll, Act.put, sT, sZ, sS]) (hCont (.slice Ao67 t358.length co67, gb365) _ ⟨hHeld, (by (with_reducible repeat (first | apply rA | apply rN | apply rW)); exact HO360.out), (by (with_reducible repeat (first | refine bN ?_ _ | refine bW ?_ | refine bA ?_ _)); exact BK355.out), (by (with_reducible repeat (first | refine bN ?_ _ | refine bW ?_ | refine bA ?_ _)); exact BK365.out), GW365.out, GE365.out, NB355_365.out, NB365_355.out, (by repeat (first | (with_reducible first | exact HB.out | apply lA | apply lN | apply lW | refine lS ?_ GE355.out | refine lS ?_ GE365.out) | exact HB.out))⟩)
            ·skip
             refine box_step ?hg (N := 5) ?hd (cs := #[.int .i64 0, .int .i64 0, .int .i64 0, .int .i64 0]) (t := 23) ?hr ?_; (case hd => rfl); (case hg => rfl); (case hr => first | (go_simp; done) | (go_simp; rfl))
             intro gb365 hg w65 hbox hb
             have n0_ := aM (blk_below (g := gb355) (o := .cells #[.int .i64 a0_0, .int .i64 a0_1, .int .i64 a0_2, .int .i64 a0_3] 23 (0, 0)) (by (with_reducible repeat (first | refine bN ?_ _ | refine bW ?_ | refine bA ?_ _)); exact BK355.out) hb)
             have n1_ := aM (below_step (by repeat (first | (with_reducible first | exact HB.out | apply lA | apply lN | apply lW | refine lS ?_ GE355.out) | exact HB.out)) hb)
             have n2_ := aM (hbox)
             have n3_ := aM ((by rw [hg]; exact (below_size (by repeat (first | (with_reducible first | exact HB.out | apply lA | apply lN | apply lW | refine lS ?_ GE355.out) | exact HB.out))) : w.heap.size ≤ gb365))
             have n4_ := aM ((by rw [hg]; exact (below_size (by repeat (first | (with_reducible first | exact HB.out | apply lA | apply lN | apply lW | refine lS ?_ GE355.out) | exact HB.out))) : w.heap.size ≤ gb365))
             have n5_ := aM ((by rw [hg]; exact Nat.ne_of_lt (blk_lt (g := gb355) (o := .cells #[.int .i64 a0_0, .int .i64 a0_1, .int .i64 a0_2, .int .i64 a0_3] 23 (0, 0)) (by (with_reducible repeat (first | refine bN ?_ _ | refine bW ?_ | refine bA ?_ _)); exact BK355.out)) : gb355 ≠ gb365))
             have n6_ := aM ((by rw [hg]; exact Nat.ne_of_gt (blk_lt (g := gb355) (o := .cells #[.int .i64 a0_0, .int .i64 a0_1, .int .i64 a0_2, .int .i64 a0_3] 23 (0, 0)) (by (with_reducible repeat (first | refine bN ?_ _ | refine bW ?_ | refine bA ?_ _)); exact BK355.out)) : gb365 ≠ gb355))
             clear BK355
             clear HB
             have BK355 := n0_
             have HB := n1_
             have BK365 := n2_
             have GW365 := n3_
             have GE365 := n4_
             have NB355_365 := n5_
             have NB365_355 := n6_
             clear n0_ n1_ n2_ n3_ n4_ n5_ n6_
             clear hb hbox hg
             refine hK.out _ _ ⟨(blk_cell BK355.out 0).trans rfl, (blk_cell BK355.out 1).trans rfl, (blk_cell BK355.out 2).trans rfl, (blk_cell BK355.out 3).trans rfl⟩ (fun hHeld => ?_)
             clear hK K
             refine norm_ (a' := ?_) ?_ ?_
             rotate_left
             ·show Act.put _ (some 5) _ = _
              simp only [Act.put, sT, sZ, sS, i64_w, i32_w]
              rfl
             refine one_ (i := 2) (N := some 25) #[true, true, true, false, true, false] rfl rfl (by kernel_rfl) (by decide) (fun K hK => ?_)
             refine goes_ Try.func19 (by kernel_rfl) rfl #[.int .i64 3, .int .i64 (wrap64 (Int.tdiv (wrap64 ((wrap64 (256 - a0_0)) + 7)) 8))] (by rfl) rfl rfl (by (try simp only [List.map_toArray, List.map_cons, List.map_nil]); first | done | rfl | (simp only [List.length_drop, List.length_take]; rfl)) ?_
             with_reducible refine (phaetonlaw08_times.calls kj2 3 (wrap64 (Int.tdiv (wrap64 ((wrap64 (256 - a0_0)) + 7)) 8)) t358 _ A14.out).mono ?_
             rintro e w66 ⟨v359, rfl, ho0, hb⟩
             refine ⟨_, rfl, ?_⟩
             have n0_ := aM (Kd.R_lower ho0 (below_size (by repeat (first | (with_reducible first | exact HB.out | apply lA | apply lN | apply lW | refine lS ?_ GE355.out | refine lS ?_ GE365.out) | exact HB.out))))
             have n1_ := aM (blk_below (g := gb355) (o := .cells #[.int .i64 a0_0, .int .i64 a0_1, .int .i64 a0_2, .int .i64 a0_3] 23 (0, 0)) (by (with_reducible repeat (first | refine bN ?_ _ | refine bW ?_ | refine bA ?_ _)); exact BK355.out) hb)
             have n2_ := aM (blk_below (g := gb365) (o := .cells #[.int .i64 0, .int .i64 0, .int .i64 0, .int .i64 0] 23 (0, 0)) (by (with_reducible repeat (first | refine bN ?_ _ | refine bW ?_ | refine bA ?_ _)); exact BK365.out) hb)
             have n3_ := aM (below_step (by repeat (first | (with_reducible first | exact HB.out | apply lA | apply lN | apply lW | refine lS ?_ GE355.out | refine lS ?_ GE365.out) | exact HB.out)) hb)
             clear BK355
             clear BK365
             clear HB
             have HO360 := n0_
             have BK355 := n1_
             have BK365 := n2_
             have HB := n3_
             clear n0_ n1_ n2_ n3_
             (try clear hb)
             (try clear hb2)
             (try clear hk)
             (try clear hi)
             (try clear ho0)
             obtain ⟨Ao67, co67, eo67⟩ := Kd.R_slice HO360.out
             (first | subst eo67 | (injection eo67 with f1_ f2_ f3_; have f4_ := f1_.symm; have f5_ := f3_.symm; clear f1_ f2_ f3_; subst f4_; subst f5_))
             refine hK.out _ _ ⟨(blk_cell BK355.out 0).trans rfl, (blk_cell BK355.out 1).trans rfl, (blk_cell BK355.out 2).trans rfl, (blk_cell BK355.out 3).trans rfl⟩ (fun hHeld => ?_)
             clear hK K
             refine norm_ (a' := ?_) ?_ ?_
             rotate_left
             ·show Act.put _ (some 25) _ = _
              simp only [Act.put, sT, sZ, sS, i64_w, i32_w]
              rfl
             refine one_ (i := 3) (N := some 26) #[true, true, true, true, true, false] rfl rfl (by kernel_rfl) (by decide) (fun K hK => ?_)
             refine goes_ Try.func17 (by kernel_rfl) rfl #[.agg #[.int .i64 a0_0, .int .i64 a0_1, .int .i64 a0_2, .int .i64 a0_3], .slice Ao67 t358.length co67] (by rfl) rfl rfl (by (try simp only [List.map_toArray, List.map_cons, List.map_nil]); first | done | rfl | (simp only [List.length_drop, List.length_take]; rfl)) ?_
             with_reducible refine (count_Steps.calls kj2 a0_0 a0_1 a0_2 a0_3 _ _ t358 t361 t362 t363 t364 _ ?side1 ?side2 A15.out).mono ?_
             (case side1 => repeat (first | exact (Kd.R_reads' HO360.out).2.2 | (with_reducible refine Kd.C_alloc ?_ _) | (with_reducible refine Kd.C_drewN ?_ _) | (with_reducible refine Kd.C_drew ?_)))
             (case side2 => exact (Kd.R_reads' HO360.out).2.1)
             rintro e w68 ⟨rfl, hb⟩
             refine ⟨_, rfl, ?_⟩
             have n0_ := aM (Kd.R_below (by (with_reducible repeat (first | apply rA | apply rN | apply rW)); exact HO360.out) hb)
             have n1_ := aM (blk_below (g := gb355) (o := .cells #[.int .i64 a0_0, .int .i64 a0_1, .int .i64 a0_2, .int .i64 a0_3] 23 (0, 0)) (by (with_reducible repeat (first | refine bN ?_ _ | refine bW ?_ | refine bA ?_ _)); exact BK355.out) hb)
             have n2_ := aM (blk_below (g := gb365) (o := .cells #[.int .i64 0, .int .i64 0, .int .i64 0, .int .i64 0] 23 (0, 0)) (by (with_reducible repeat (first | refine bN ?_ _ | refine bW ?_ | refine bA ?_ _)); exact BK365.out) hb)
             have n3_ := aM (below_step (by repeat (first | (with_reducible first | exact HB.out | apply lA | apply lN | apply lW | refine lS ?_ GE355.out | refine lS ?_ GE365.out) | exact HB.out)) hb)
             clear HO360
             clear BK355
             clear BK365
             clear HB
             have HO360 := n0_
             have BK355 := n1_
             have BK365 := n2_
             have HB := n3_
             clear n0_ n1_ n2_ n3_
             (try clear hb)
             (try clear hb2)
             (try clear hk)
             (try clear hi)
             refine hK.out _ _ ⟨(blk_cell BK355.out 0).trans rfl, (blk_cell BK355.out 1).trans rfl, (blk_cell BK355.out 2).trans rfl, (blk_cell BK355.out 3).trans rfl⟩ (fun hHeld => ?_)
             clear hK K
             refine norm_ (a' := ?_) ?_ ?_
             rotate_left
             ·show Act.put _ (some 26) _ = _
              simp only [Act.put, sT, sZ, sS, i64_w, i32_w]
              rfl
             exact norm_ (by simp only [putAll, Act.put, sT, sZ, sS]) (hCont (.slice Ao67 t358.length co67, gb365) _ ⟨hHeld, (by (with_reducible repeat (first | apply rA | apply rN | apply rW)); exact HO360.out), (by (with_reducible repeat (first | refine bN ?_ _ | refine bW ?_ | refine bA ?_ _)); exact BK355.out), (by (with_reducible repeat (first | refine bN ?_ _ | refine bW ?_ | refine bA ?_ _)); exact BK365.out), GW365.out, GE365.out, NB355_365.out, NB365_355.out, (by repeat (first | (with_reducible first | exact HB.out | apply lA | apply lN | apply lW | refine lS ?_ GE355.out | refine lS ?_ GE365.out) | exact HB.out))⟩)
           rintro ⟨v359, gb365⟩ w69 ⟨hS_, h0_, h1_, h2_, h3_, h4_, h5_, h6_, h7_⟩
           have n0_ : Aside0 (Kd.R (Kd.int .i64) 3 w69 w.heap.size (fun _ => True) v359 t358) := ⟨h0_⟩
           have n1_ : Aside0 (w69.heap[gb355]? = some (.cells #[.int .i64 a0_0, .int .i64 a0_1, .int .i64 a0_2, .int .i64 a0_3] 23 (0, 0))) := ⟨h1_⟩
           have n2_ : Aside0 (w69.heap[gb365]? = some (.cells #[.int .i64 0, .int .i64 0, .int .i64 0, .int .i64 0] 23 (0, 0))) := ⟨h2_⟩
           have n3_ : Aside0 (w.heap.size ≤ gb365) := ⟨h3_⟩
           have n4_ : Aside0 (w.heap.size ≤ gb365) := ⟨h4_⟩
           have n5_ : Aside0 (gb355 ≠ gb365) := ⟨h5_⟩
           have n6_ : Aside0 (gb365 ≠ gb355) := ⟨h6_⟩
           have n7_ : Aside0 (Below w.heap.size w w69) := ⟨h7_⟩
           clear BK355
           clear HB
           clear h0_ h1_ h2_ h3_ h4_ h5_ h6_ h7_
           have HO360 := n0_
           have BK355 := n1_
           have BK365 := n2_
           have GW365 := n3_
           have GE365 := n4_
           have NB355_365 := n5_
           have NB365_355 := n6_
           have HB := n7_
           clear n0_ n1_ n2_ n3_ n4_ n5_ n6_ n7_
           have hHeld : w69.cell? ⟨gb355, 0, none⟩ = some (.int .i64 a0_0) ∧ w69.cell? ⟨gb355, 1, none⟩ = some (.int .i64 a0_1) ∧ w69.cell? ⟨gb355, 2, none⟩ = some (.int .i64 a0_2) ∧ w69.cell? ⟨gb355, 3, none⟩ = some (.int .i64 a0_3) := hS_
           refine norm_ (a' := ?_) ?_ ?_
           rotate_left
           ·simp only [putAll, Act.put, sT, sZ, sS]
            rfl
           refine one_ (i := 5) (N := none) #[true, true, true, true, true, true] rfl rfl (by kernel_rfl) (by decide) (fun K hK => ?_)
           have hs70 : w69.cell? ⟨gb365, 0, none⟩ = some (.int .i64 0) := (blk_cell BK365.out 0).trans rfl
           have hfs70 := blk_frozen BK365.out 0
           have hns70_0 := NB355_365.out
           have hms70_0 := NB365_355.out
           have hs71 : w69.cell? ⟨gb365, 1, none⟩ = some (.int .i64 0) := (blk_cell BK365.out 1).trans rfl
           have hfs71 := blk_frozen BK365.out 1
           have hns71_0 := NB355_365.out
           have hms71_0 := NB365_355.out
           have hs72 : w69.cell? ⟨gb365, 2, none⟩ = some (.int .i64 0) := (blk_cell BK365.out 2).trans rfl
           have hfs72 := blk_frozen BK365.out 2
           have hns72_0 := NB355_365.out
           have hms72_0 := NB365_355.out
           have hs73 : w69.cell? ⟨gb365, 3, none⟩ = some (.int .i64 0) := (blk_cell BK365.out 3).trans rfl
           have hfs73 := blk_frozen BK365.out 3
           have hns73_0 := NB355_365.out
           have hms73_0 := NB365_355.out
           refine skip_ (w1 := ?_) (by rfl) rfl ?_ ?_
           rotate_left
           ·go_simp
            rfl
           refine hK.out _ _ ⟨((cell_far (p := ⟨gb365, _, none⟩) NB355_365.out _).trans (((cell_far (p := ⟨gb365, _, none⟩) NB355_365.out _).trans (((cell_far (p := ⟨gb365, _, none⟩) NB355_365.out _).trans (((cell_far (p := ⟨gb365, _, none⟩) NB355_365.out _).trans (hHeld.1)))))))), ((cell_far (p := ⟨gb365, _, none⟩) NB355_365.out _).trans (((cell_far (p := ⟨gb365, _, none⟩) NB355_365.out _).trans (((cell_far (p := ⟨gb365, _, none⟩) NB355_365.out _).trans (((cell_far (p := ⟨gb365, _, none⟩) NB355_365.out _).trans (hHeld.2.1)))))))), ((cell_far (p := ⟨gb365, _, none⟩) NB355_365.out _).trans (((cell_far (p := ⟨gb365, _, none⟩) NB355_365.out _).trans (((cell_far (p := ⟨gb365, _, none⟩) NB355_365.out _).trans (((cell_far (p := ⟨gb365, _, none⟩) NB355_365.out _).trans (hHeld.2.2.1)))))))), ((cell_far (p := ⟨gb365, _, none⟩) NB355_365.out _).trans (((cell_far (p := ⟨gb365, _, none⟩) NB355_365.out _).trans (((cell_far (p := ⟨gb365, _, none⟩) NB355_365.out _).trans (((cell_far (p := ⟨gb365, _, none⟩) NB355_365.out _).trans (hHeld.2.2.2))))))))⟩ (fun hHeld => ?_)
           clear hK K
           refine done_ (by kernel_rfl) ?_
           try go_wp2
           have n0_ : Aside0 (Kd.R (Kd.int .i64) 3 ((((w69.setCell ⟨gb365, 0, none⟩ (.int .i64 t361)).setCell ⟨gb365, 1, none⟩ (.int .i64 t362)).setCell ⟨gb365, 2, none⟩ (.int .i64 t363)).setCell ⟨gb365, 3, none⟩ (.int .i64 t364)) w.heap.size (fun _ => True) v359 t358) := ⟨by (with_reducible repeat (first | apply rA | apply rN | apply rW)); exact Kd.R_mono (Kd.R_far (p := ⟨gb365, 3, none⟩) (Kd.R_far (p := ⟨gb365, 2, none⟩) (Kd.R_far (p := ⟨gb365, 1, none⟩) (Kd.R_far (p := ⟨gb365, 0, none⟩) (Kd.R_types HO360.out BK365.out (by decide)) (fun _ hk => hk.2) (.int .i64 t361)) (fun _ hk => hk.2) (.int .i64 t362)) (fun _ hk => hk.2) (.int .i64 t363)) (fun _ hk => hk.2) (.int .i64 t364)) (fun _ hk => trivial)⟩
           have n1_ : Aside0 (((((w69.setCell ⟨gb365, 0, none⟩ (.int .i64 t361)).setCell ⟨gb365, 1, none⟩ (.int .i64 t362)).setCell ⟨gb365, 2, none⟩ (.int .i64 t363)).setCell ⟨gb365, 3, none⟩ (.int .i64 t364)).heap[gb355]? = some (.cells #[.int .i64 a0_0, .int .i64 a0_1, .int .i64 a0_2, .int .i64 a0_3] 23 (0, 0))) := ⟨by (with_reducible repeat (first | refine bN ?_ _ | refine bW ?_ | refine bA ?_ _)); refine blk_far ?_ NB355_365.out _; (with_reducible repeat (first | refine bN ?_ _ | refine bW ?_ | refine bA ?_ _)); refine blk_far ?_ NB355_365.out _; (with_reducible repeat (first | refine bN ?_ _ | refine bW ?_ | refine bA ?_ _)); refine blk_far ?_ NB355_365.out _; (with_reducible repeat (first | refine bN ?_ _ | refine bW ?_ | refine bA ?_ _)); refine blk_far ?_ NB355_365.out _; (with_reducible repeat (first | refine bN ?_ _ | refine bW ?_ | refine bA ?_ _)); exact BK355.out⟩
           have n2_ : Aside0 (((((w69.setCell ⟨gb365, 0, none⟩ (.int .i64 t361)).setCell ⟨gb365, 1, none⟩ (.int .i64 t362)).setCell ⟨gb365, 2, none⟩ (.int .i64 t363)).setCell ⟨gb365, 3, none⟩ (.int .i64 t364)).heap[gb365]? = some (.cells #[.int .i64 t361, .int .i64 t362, .int .i64 t363, .int .i64 t364] 23 (0, 0))) := ⟨by (with_reducible repeat (first | refine bN ?_ _ | refine bW ?_ | refine bA ?_ _)); refine blk_put (cs := #[.int .i64 t361, .int .i64 t362, .int .i64 t363, .int .i64 0]) ?_ 3 _ rfl; (with_reducible repeat (first | refine bN ?_ _ | refine bW ?_ | refine bA ?_ _)); refine blk_put (cs := #[.int .i64 t361, .int .i64 t362, .int .i64 0, .int .i64 0]) ?_ 2 _ rfl; (with_reducible repeat (first | refine bN ?_ _ | refine bW ?_ | refine bA ?_ _)); refine blk_put (cs := #[.int .i64 t361, .int .i64 0, .int .i64 0, .int .i64 0]) ?_ 1 _ rfl; (with_reducible repeat (first | refine bN ?_ _ | refine bW ?_ | refine bA ?_ _)); refine blk_put (cs := #[.int .i64 0, .int .i64 0, .int .i64 0, .int .i64 0]) ?_ 0 _ rfl; (with_reducible repeat (first | refine bN ?_ _ | refine bW ?_ | refine bA ?_ _)); exact BK365.out⟩
           have n3_ : Aside0 (Below w.heap.size w ((((w69.setCell ⟨gb365, 0, none⟩ (.int .i64 t361)).setCell ⟨gb365, 1, none⟩ (.int .i64 t362)).setCell ⟨gb365, 2, none⟩ (.int .i64 t363)).setCell ⟨gb365, 3, none⟩ (.int .i64 t364))) := ⟨by repeat (first | (with_reducible first | exact HB.out | apply lA | apply lN | apply lW | refine lS ?_ GE355.out | refine lS ?_ GE365.out) | exact HB.out)⟩
           (try clear HO360)
           (try clear BK355)
           (try clear BK365)
           (try clear HB)
           generalize ((((w69.setCell ⟨gb365, 0, none⟩ (.int .i64 t361)).setCell ⟨gb365, 1, none⟩ (.int .i64 t362)).setCell ⟨gb365, 2, none⟩ (.int .i64 t363)).setCell ⟨gb365, 3, none⟩ (.int .i64 t364)) = w74 at n0_ n1_ n2_ n3_ ⊢
           have HO360 := n0_
           have BK355 := n1_
           have BK365 := n2_
           have HB := n3_
           clear n0_ n1_ n2_ n3_
           have n0_ := aM (rW HO360.out)
           have n1_ := aM (bW BK355.out)
           have n2_ := aM (bW BK365.out)
           have n3_ := aM (lW HB.out)
           clear HO360
           clear BK355
           clear BK365
           clear HB
           have HO360 := n0_
           have BK355 := n1_
           have BK365 := n2_
           have HB := n3_
           clear n0_ n1_ n2_ n3_
           refine start_ (n := 7) (S := fun w' => w'.cell? ⟨gb355, 0, none⟩ = some (.int .i64 a0_0) ∧ w'.cell? ⟨gb355, 1, none⟩ = some (.int .i64 a0_1) ∧ w'.cell? ⟨gb355, 2, none⟩ = some (.int .i64 a0_2) ∧ w'.cell? ⟨gb355, 3, none⟩ = some (.int .i64 a0_3)) (ds := []) #[false, false, false, false, false, false, false] (by kernel_rfl) rfl rfl ⟨(blk_cell BK355.out 0).trans rfl, (blk_cell BK355.out 1).trans rfl, (blk_cell BK355.out 2).trans rfl, (blk_cell BK355.out 3).trans rfl⟩ (fun hHeld => ?_)
           generalize w74.drew = w75 at HO360 BK355 BK365 HB hHeld ⊢
           refine pure_ (i := 1) (N := some 28) (v := ?_) (a' := ?_) #[false, true, false, false, false, false, false] rfl rfl (by kernel_rfl) (fun _ _ _ h => h) (Or.inl ⟨by rfl, ?_⟩) ?_ ?_
           rotate_left
           ·intro w'
            go_simp
            with_reducible rfl
           rotate_left
           ·simp only [Act.put, sT, sZ, sS, i64_w, i32_w]
            rfl
           refine pure_ (i := 2) (N := some 29) (v := ?_) (a' := ?_) #[false, true, true, false, false, false, false] rfl rfl (by kernel_rfl) (fun _ _ _ h => h) (Or.inl ⟨by rfl, ?_⟩) ?_ ?_
           rotate_left
           ·intro w'
            go_simp
            with_reducible rfl
           rotate_left
           ·simp only [Act.put, sT, sZ, sS, i64_w, i32_w]
            rfl
           refine take_ (i := 0) (N := some 27) (v := ?_) (a' := ?_) #[true, true, true, false, false, false, false] rfl rfl (by kernel_rfl) (fun _ _ _ h => h) (Or.inl ⟨by rfl, ?_⟩) hHeld ?_ ?_
           rotate_left
           ·rintro w' ⟨s0, s1, s2, s3⟩
            go_simp
            with_reducible rfl
           rotate_left
           ·simp only [Act.put, sT, sZ, sS, i64_w, i32_w]
            rfl
           refine join_ (σ := Value × Nat) 1 #[true, true, true, true, true, true, false] (fun s_ => [(30, s_.1), (31, .agg #[.int .i64 t369, .int .i64 t370, .int .i64 t371, .int .i64 t372]), (6, .pointer (some ⟨s_.2, 0, none⟩))]) (fun s_ w' => (w'.cell? ⟨gb355, 0, none⟩ = some (.int .i64 a0_0) ∧ w'.cell? ⟨gb355, 1, none⟩ = some (.int .i64 a0_1) ∧ w'.cell? ⟨gb355, 2, none⟩ = some (.int .i64 a0_2) ∧ w'.cell? ⟨gb355, 3, none⟩ = some (.int .i64 a0_3)) ∧ (Kd.R (Kd.int .i64) 3 w' w.heap.size (fun k_ => some k_ ≠ (s_.1 : Value).ownBlock) v359 t358) ∧ (Kd.R (Kd.int .i64) 3 w' w.heap.size (fun k_ => some k_ ≠ (v359 : Value).ownBlock) s_.1 t366) ∧ (w'.heap[gb355]? = some (.cells #[.int .i64 a0_0, .int .i64 a0_1, .int .i64 a0_2, .int .i64 a0_3] 23 (0, 0))) ∧ (w'.heap[gb365]? = some (.cells #[.int .i64 t361, .int .i64 t362, .int .i64 t363, .int .i64 t364] 23 (0, 0))) ∧ (w'.heap[s_.2]? = some (.cells #[.int .i64 0, .int .i64 0, .int .i64 0, .int .i64 0] 23 (0, 0))) ∧ (w.heap.size ≤ s_.2) ∧ (w.heap.size ≤ s_.2) ∧ (gb355 ≠ s_.2) ∧ (s_.2 ≠ gb355) ∧ (gb365 ≠ s_.2) ∧ (s_.2 ≠ gb365) ∧ (Below w.heap.size w w')) ?_ ?_
           rotate_left
           ·intro hCont
            refine two_ (i := 3) (j := 5) (Ni := some 30) (Nj := some 6) #[true, true, true, true, false, false, false] #[true, true, true, false, false, true, false] rfl rfl rfl rfl (by kernel_rfl) (by decide) (by decide) (fun K hK => ?_) (fun K hK => ?_)
            ·skip
             refine goes_ Try.func19 (by kernel_rfl) rfl #[.int .i64 3, .int .i64 (wrap64 ((wrap64 (Int.tdiv (wrap64 ((wrap64 (256 - a0_0)) + 7)) 8)) - 1))] (by rfl) rfl rfl (by (try simp only [List.map_toArray, List.map_cons, List.map_nil]); first | done | rfl | (simp only [List.length_drop, List.length_take]; rfl)) ?_
             with_reducible refine (phaetonlaw08_times.calls kj2 3 (wrap64 ((wrap64 (Int.tdiv (wrap64 ((wrap64 (256 - a0_0)) + 7)) 8)) - 1)) t366 _ A16.out).mono ?_
             rintro e w76 ⟨v367, rfl, ho0, hb⟩
             refine ⟨_, rfl, ?_⟩
             have n0_ := aM (Kd.R_elder' (by (with_reducible repeat (first | apply rA | apply rN | apply rW)); exact HO360.out) (Kd.R_base ho0) hb)
             have n1_ := aM (Kd.R_lower (Kd.R_new' ho0 (Kd.R_lt (by (with_reducible repeat (first | apply rA | apply rN | apply rW)); exact HO360.out))) (below_size (by repeat (first | (with_reducible first | exact HB.out | apply lA | apply lN | apply lW | refine lS ?_ GE355.out | refine lS ?_ GE365.out) | exact HB.out))))
             have n2_ := aM (blk_below (g := gb355) (o := .cells #[.int .i64 a0_0, .int .i64 a0_1, .int .i64 a0_2, .int .i64 a0_3] 23 (0, 0)) (by (with_reducible repeat (first | refine bN ?_ _ | refine bW ?_ | refine bA ?_ _)); exact BK355.out) hb)
             have n3_ := aM (blk_below (g := gb365) (o := .cells #[.int .i64 t361, .int .i64 t362, .int .i64 t363, .int .i64 t364] 23 (0, 0)) (by (with_reducible repeat (first | refine bN ?_ _ | refine bW ?_ | refine bA ?_ _)); exact BK365.out) hb)
             have n4_ := aM (below_step (by repeat (first | (with_reducible first | exact HB.out | apply lA | apply lN | apply lW | refine lS ?_ GE355.out | refine lS ?_ GE365.out) | exact HB.out)) hb)
             clear HO360
             clear BK355
             clear BK365
             clear HB
             have HO360 := n0_
             have HO368 := n1_
             have BK355 := n2_
             have BK365 := n3_
             have HB := n4_
             clear n0_ n1_ n2_ n3_ n4_
             (try clear hb)
             (try clear hb2)
             (try clear hk)
             (try clear hi)
             (try clear ho0)
             obtain ⟨Ao77, co77, eo77⟩ := Kd.R_slice HO368.out
             (first | subst eo77 | (injection eo77 with f1_ f2_ f3_; have f4_ := f1_.symm; have f5_ := f3_.symm; clear f1_ f2_ f3_; subst f4_; subst f5_))
             refine hK.out _ _ ⟨(blk_cell BK355.out 0).trans rfl, (blk_cell BK355.out 1).trans rfl, (blk_cell BK355.out 2).trans rfl, (blk_cell BK355.out 3).trans rfl⟩ (fun hHeld => ?_)
             clear hK K
             refine norm_ (a' := ?_) ?_ ?_
             rotate_left
             ·show Act.put _ (some 30) _ = _
              simp only [Act.put, sT, sZ, sS, i64_w, i32_w]
              rfl
             refine two_ (i := 4) (j := 5) (Ni := some 31) (Nj := some 6) #[true, true, true, true, true, false, false] #[true, true, true, true, false, true, false] rfl rfl rfl rfl (by kernel_rfl) (by decide) (by decide) (fun K hK => ?_) (fun K hK => ?_)
             ·skip
              refine goes_ Try.func17 (by kernel_rfl) rfl #[.agg #[.int .i64 a0_0, .int .i64 a0_1, .int .i64 a0_2, .int .i64 a0_3], .slice Ao77 t366.length co77] (by rfl) rfl rfl (by (try simp only [List.map_toArray, List.map_cons, List.map_nil]); first | done | rfl | (simp only [List.length_drop, List.length_take]; rfl)) ?_
              with_reducible refine (count_Steps.calls kj2 a0_0 a0_1 a0_2 a0_3 _ _ t366 t369 t370 t371 t372 _ ?side1 ?side2 A17.out).mono ?_
              (case side1 => repeat (first | exact (Kd.R_reads' HO368.out).2.2 | (with_reducible refine Kd.C_alloc ?_ _) | (with_reducible refine Kd.C_drewN ?_ _) | (with_reducible refine Kd.C_drew ?_)))
              (case side2 => exact (Kd.R_reads' HO368.out).2.1)
              rintro e w78 ⟨rfl, hb⟩
              refine ⟨_, rfl, ?_⟩
              have n0_ := aM (Kd.R_below (by (with_reducible repeat (first | apply rA | apply rN | apply rW)); exact HO360.out) hb)
              have n1_ := aM (Kd.R_below (by (with_reducible repeat (first | apply rA | apply rN | apply rW)); exact HO368.out) hb)
              have n2_ := aM (blk_below (g := gb355) (o := .cells #[.int .i64 a0_0, .int .i64 a0_1, .int .i64 a0_2, .int .i64 a0_3] 23 (0, 0)) (by (with_reducible repeat (first | refine bN ?_ _ | refine bW ?_ | refine bA ?_ _)); exact BK355.out) hb)
              have n3_ := aM (blk_below (g := gb365) (o := .cells #[.int .i64 t361, .int .i64 t362, .int .i64 t363, .int .i64 t364] 23 (0, 0)) (by (with_reducible repeat (first | refine bN ?_ _ | refine bW ?_ | refine bA ?_ _)); exact BK365.out) hb)
              have n4_ := aM (below_step (by repeat (first | (with_reducible first | exact HB.out | apply lA | apply lN | apply lW | refine lS ?_ GE355.out | refine lS ?_ GE365.out) | exact HB.out)) hb)
              clear HO360
              clear HO368
              clear BK355
              clear BK365
              clear HB
              have HO360 := n0_
              have HO368 := n1_
              have BK355 := n2_
              have BK365 := n3_
              have HB := n4_
              clear n0_ n1_ n2_ n3_ n4_
              (try clear hb)
              (try clear hb2)
              (try clear hk)
              (try clear hi)
              refine hK.out _ _ ⟨(blk_cell BK355.out 0).trans rfl, (blk_cell BK355.out 1).trans rfl, (blk_cell BK355.out 2).trans rfl, (blk_cell BK355.out 3).trans rfl⟩ (fun hHeld => ?_)
              clear hK K
              refine norm_ (a' := ?_) ?_ ?_
              rotate_left
              ·show Act.put _ (some 31) _ = _
               simp only [Act.put, sT, sZ, sS, i64_w, i32_w]
               rfl
              refine one_ (i := 5) (N := some 6) #[true, true, true, true, true, true, false] rfl rfl (by kernel_rfl) (by decide) (fun K hK => ?_)
              refine box_step ?hg (N := 6) ?hd (cs := #[.int .i64 0, .int .i64 0, .int .i64 0, .int .i64 0]) (t := 23) ?hr ?_; (case hd => rfl); (case hg => rfl); (case hr => first | (go_simp; done) | (go_simp; rfl))
              intro gb373 hg w79 hbox hb
              have n0_ := aM (Kd.R_below (by (with_reducible repeat (first | apply rA | apply rN | apply rW)); exact HO360.out) hb)
              have n1_ := aM (Kd.R_below (by (with_reducible repeat (first | apply rA | apply rN | apply rW)); exact HO368.out) hb)
              have n2_ := aM (blk_below (g := gb355) (o := .cells #[.int .i64 a0_0, .int .i64 a0_1, .int .i64 a0_2, .int .i64 a0_3] 23 (0, 0)) (by (with_reducible repeat (first | refine bN ?_ _ | refine bW ?_ | refine bA ?_ _)); exact BK355.out) hb)
              have n3_ := aM (blk_below (g := gb365) (o := .cells #[.int .i64 t361, .int .i64 t362, .int .i64 t363, .int .i64 t364] 23 (0, 0)) (by (with_reducible repeat (first | refine bN ?_ _ | refine bW ?_ | refine bA ?_ _)); exact BK365.out) hb)
              have n4_ := aM (below_step (by repeat (first | (with_reducible first | exact HB.out | apply lA | apply lN | apply lW | refine lS ?_ GE355.out | refine lS ?_ GE365.out) | exact HB.out)) hb)
              have n5_ := aM (hbox)
              have n6_ := aM ((by rw [hg]; exact (below_size (by repeat (first | (with_reducible first | exact HB.out | apply lA | apply lN | apply lW | refine lS ?_ GE355.out | refine lS ?_ GE365.out) | exact HB.out))) : w.heap.size ≤ gb373))
              have n7_ := aM ((by rw [hg]; exact (below_size (by repeat (first | (with_reducible first | exact HB.out | apply lA | apply lN | apply lW | refine lS ?_ GE355.out | refine lS ?_ GE365.out) | exact HB.out))) : w.heap.size ≤ gb373))
              have n8_ := aM ((by rw [hg]; exact Nat.ne_of_lt (blk_lt (g := gb355) (o := .cells #[.int .i64 a0_0, .int .i64 a0_1, .int .i64 a0_2, .int .i64 a0_3] 23 (0, 0)) (by (with_reducible repeat (first | refine bN ?_ _ | refine bW ?_ | refine bA ?_ _)); exact BK355.out)) : gb355 ≠ gb373))
              have n9_ := aM ((by rw [hg]; exact Nat.ne_of_gt (blk_lt (g := gb355) (o := .cells #[.int .i64 a0_0, .int .i64 a0_1, .int .i64 a0_2, .int .i64 a0_3] 23 (0, 0)) (by (with_reducible repeat (first | refine bN ?_ _ | refine bW ?_ | refine bA ?_ _)); exact BK355.out)) : gb373 ≠ gb355))
              have n10_ := aM ((by rw [hg]; exact Nat.ne_of_lt (blk_lt (g := gb365) (o := .cells #[.int .i64 t361, .int .i64 t362, .int .i64 t363, .int .i64 t364] 23 (0, 0)) (by (with_reducible repeat (first | refine bN ?_ _ | refine bW ?_ | refine bA ?_ _)); exact BK365.out)) : gb365 ≠ gb373))
              have n11_ := aM ((by rw [hg]; exact Nat.ne_of_gt (blk_lt (g := gb365) (o := .cells #[.int .i64 t361, .int .i64 t362, .int .i64 t363, .int .i64 t364] 23 (0, 0)) (by (with_reducible repeat (first | refine bN ?_ _ | refine bW ?_ | refine bA ?_ _)); exact BK365.out)) : gb373 ≠ gb365))
              clear HO360
              clear HO368
              clear BK355
              clear BK365
              clear HB
              have HO360 := n0_
              have HO368 := n1_
              have BK355 := n2_
              have BK365 := n3_
              have HB := n4_
              have BK373 := n5_
              have GW373 := n6_
              have GE373 := n7_
              have NB355_373 := n8_
              have NB373_355 := n9_
              have NB365_373 := n10_
              have NB373_365 := n11_
              clear n0_ n1_ n2_ n3_ n4_ n5_ n6_ n7_ n8_ n9_ n10_ n11_
              clear hb hbox hg
              refine hK.out _ _ ⟨(blk_cell BK355.out 0).trans rfl, (blk_cell BK355.out 1).trans rfl, (blk_cell BK355.out 2).trans rfl, (blk_cell BK355.out 3).trans rfl⟩ (fun hHeld => ?_)
              clear hK K
              refine norm_ (a' := ?_) ?_ ?_
              rotate_left
              ·show Act.put _ (some 6) _ = _
               simp only [Act.put, sT, sZ, sS, i64_w, i32_w]
               rfl
              exact norm_ (by simp only [putAll, Act.put, sT, sZ, sS]) (hCont (.slice Ao77 t366.length co77, gb373) _ ⟨hHeld, (by (with_reducible repeat (first | apply rA | apply rN | apply rW)); exact Kd.R_mono HO360.out (fun _ hk => hk.2)), (by (with_reducible repeat (first | apply rA | apply rN | apply rW)); exact Kd.R_mono HO368.out (fun _ hk => hk.2)), (by (with_reducible repeat (first | refine bN ?_ _ | refine bW ?_ | refine bA ?_ _)); exact BK355.out), (by (with_reducible repeat (first | refine bN ?_ _ | refine bW ?_ | refine bA ?_ _)); exact BK365.out), (by (with_reducible repeat (first | refine bN ?_ _ | refine bW ?_ | refine bA ?_ _)); exact BK373.out), GW373.out, GE373.out, NB355_373.out, NB373_355.out, NB365_373.out, NB373_365.out, (by repeat (first | (with_reducible first | exact HB.out | apply lA | apply lN | apply lW | refine lS ?_ GE355.out | refine lS ?_ GE365.out | refine lS ?_ GE373.out) | exact HB.out))⟩)
             ·skip
              refine box_step ?hg (N := 6) ?hd (cs := #[.int .i64 0, .int .i64 0, .int .i64 0, .int .i64 0]) (t := 23) ?hr ?_; (case hd => rfl); (case hg => rfl); (case hr => first | (go_simp; done) | (go_simp; rfl))
              intro gb373 hg w77 hbox hb
              have n0_ := aM (Kd.R_below (by (with_reducible repeat (first | apply rA | apply rN | apply rW)); exact HO360.out) hb)
              have n1_ := aM (Kd.R_below (by (with_reducible repeat (first | apply rA | apply rN | apply rW)); exact HO368.out) hb)
              have n2_ := aM (blk_below (g := gb355) (o := .cells #[.int .i64 a0_0, .int .i64 a0_1, .int .i64 a0_2, .int .i64 a0_3] 23 (0, 0)) (by (with_reducible repeat (first | refine bN ?_ _ | refine bW ?_ | refine bA ?_ _)); exact BK355.out) hb)
              have n3_ := aM (blk_below (g := gb365) (o := .cells #[.int .i64 t361, .int .i64 t362, .int .i64 t363, .int .i64 t364] 23 (0, 0)) (by (with_reducible repeat (first | refine bN ?_ _ | refine bW ?_ | refine bA ?_ _)); exact BK365.out) hb)
              have n4_ := aM (below_step (by repeat (first | (with_reducible first | exact HB.out | apply lA | apply lN | apply lW | refine lS ?_ GE355.out | refine lS ?_ GE365.out) | exact HB.out)) hb)
              have n5_ := aM (hbox)
              have n6_ := aM ((by rw [hg]; exact (below_size (by repeat (first | (with_reducible first | exact HB.out | apply lA | apply lN | apply lW | refine lS ?_ GE355.out | refine lS ?_ GE365.out) | exact HB.out))) : w.heap.size ≤ gb373))
              have n7_ := aM ((by rw [hg]; exact (below_size (by repeat (first | (with_reducible first | exact HB.out | apply lA | apply lN | apply lW | refine lS ?_ GE355.out | refine lS ?_ GE365.out) | exact HB.out))) : w.heap.size ≤ gb373))
              have n8_ := aM ((by rw [hg]; exact Nat.ne_of_lt (blk_lt (g := gb355) (o := .cells #[.int .i64 a0_0, .int .i64 a0_1, .int .i64 a0_2, .int .i64 a0_3] 23 (0, 0)) (by (with_reducible repeat (first | refine bN ?_ _ | refine bW ?_ | refine bA ?_ _)); exact BK355.out)) : gb355 ≠ gb373))
              have n9_ := aM ((by rw [hg]; exact Nat.ne_of_gt (blk_lt (g := gb355) (o := .cells #[.int .i64 a0_0, .int .i64 a0_1, .int .i64 a0_2, .int .i64 a0_3] 23 (0, 0)) (by (with_reducible repeat (first | refine bN ?_ _ | refine bW ?_ | refine bA ?_ _)); exact BK355.out)) : gb373 ≠ gb355))
              have n10_ := aM ((by rw [hg]; exact Nat.ne_of_lt (blk_lt (g := gb365) (o := .cells #[.int .i64 t361, .int .i64 t362, .int .i64 t363, .int .i64 t364] 23 (0, 0)) (by (with_reducible repeat (first | refine bN ?_ _ | refine bW ?_ | refine bA ?_ _)); exact BK365.out)) : gb365 ≠ gb373))
              have n11_ := aM ((by rw [hg]; exact Nat.ne_of_gt (blk_lt (g := gb365) (o := .cells #[.int .i64 t361, .int .i64 t362, .int .i64 t363, .int .i64 t364] 23 (0, 0)) (by (with_reducible repeat (first | refine bN ?_ _ | refine bW ?_ | refine bA ?_ _)); exact BK365.out)) : gb373 ≠ gb365))
              clear HO360
              clear HO368
              clear BK355
              clear BK365
              clear HB
              have HO360 := n0_
              have HO368 := n1_
              have BK355 := n2_
              have BK365 := n3_
              have HB := n4_
              have BK373 := n5_
              have GW373 := n6_
              have GE373 := n7_
              have NB355_373 := n8_
              have NB373_355 := n9_
              have NB365_373 := n10_
              have NB373_365 := n11_
              clear n0_ n1_ n2_ n3_ n4_ n5_ n6_ n7_ n8_ n9_ n10_ n11_
              clear hb hbox hg
              obtain ⟨Ao78, co78, eo78⟩ := Kd.R_slice HO368.out
              (first | subst eo78 | (injection eo78 with f1_ f2_ f3_; have f4_ := f1_.symm; have f5_ := f3_.symm; clear f1_ f2_ f3_; subst f4_; subst f5_))
              refine hK.out _ _ ⟨(blk_cell BK355.out 0).trans rfl, (blk_cell BK355.out 1).trans rfl, (blk_cell BK355.out 2).trans rfl, (blk_cell BK355.out 3).trans rfl⟩ (fun hHeld => ?_)
              clear hK K
              refine norm_ (a' := ?_) ?_ ?_
              rotate_left
              ·show Act.put _ (some 6) _ = _
               simp only [Act.put, sT, sZ, sS, i64_w, i32_w]
               rfl
              refine one_ (i := 4) (N := some 31) #[true, true, true, true, true, true, false] rfl rfl (by kernel_rfl) (by decide) (fun K hK => ?_)
              refine goes_ Try.func17 (by kernel_rfl) rfl #[.agg #[.int .i64 a0_0, .int .i64 a0_1, .int .i64 a0_2, .int .i64 a0_3], .slice Ao78 t366.length co78] (by rfl) rfl rfl (by (try simp only [List.map_toArray, List.map_cons, List.map_nil]); first | done | rfl | (simp only [List.length_drop, List.length_take]; rfl)) ?_
              with_reducible refine (count_Steps.calls kj2 a0_0 a0_1 a0_2 a0_3 _ _ t366 t369 t370 t371 t372 _ ?side1 ?side2 A17.out).mono ?_
              (case side1 => repeat (first | exact (Kd.R_reads' HO368.out).2.2 | (with_reducible refine Kd.C_alloc ?_ _) | (with_reducible refine Kd.C_drewN ?_ _) | (with_reducible refine Kd.C_drew ?_)))
              (case side2 => exact (Kd.R_reads' HO368.out).2.1)
              rintro e w79 ⟨rfl, hb⟩
              refine ⟨_, rfl, ?_⟩
              have n0_ := aM (Kd.R_below (by (with_reducible repeat (first | apply rA | apply rN | apply rW)); exact HO360.out) hb)
              have n1_ := aM (Kd.R_below (by (with_reducible repeat (first | apply rA | apply rN | apply rW)); exact HO368.out) hb)
              have n2_ := aM (blk_below (g := gb355) (o := .cells #[.int .i64 a0_0, .int .i64 a0_1, .int .i64 a0_2, .int .i64 a0_3] 23 (0, 0)) (by (with_reducible repeat (first | refine bN ?_ _ | refine bW ?_ | refine bA ?_ _)); exact BK355.out) hb)
              have n3_ := aM (blk_below (g := gb365) (o := .cells #[.int .i64 t361, .int .i64 t362, .int .i64 t363, .int .i64 t364] 23 (0, 0)) (by (with_reducible repeat (first | refine bN ?_ _ | refine bW ?_ | refine bA ?_ _)); exact BK365.out) hb)
              have n4_ := aM (blk_below (g := gb373) (o := .cells #[.int .i64 0, .int .i64 0, .int .i64 0, .int .i64 0] 23 (0, 0)) (by (with_reducible repeat (first | refine bN ?_ _ | refine bW ?_ | refine bA ?_ _)); exact BK373.out) hb)
              have n5_ := aM (below_step (by repeat (first | (with_reducible first | exact HB.out | apply lA | apply lN | apply lW | refine lS ?_ GE355.out | refine lS ?_ GE365.out | refine lS ?_ GE373.out) | exact HB.out)) hb)
              clear HO360
              clear HO368
              clear BK355
              clear BK365
              clear BK373
              clear HB
              have HO360 := n0_
              have HO368 := n1_
              have BK355 := n2_
              have BK365 := n3_
              have BK373 := n4_
              have HB := n5_
              clear n0_ n1_ n2_ n3_ n4_ n5_
              (try clear hb)
              (try clear hb2)
              (try clear hk)
              (try clear hi)
              refine hK.out _ _ ⟨(blk_cell BK355.out 0).trans rfl, (blk_cell BK355.out 1).trans rfl, (blk_cell BK355.out 2).trans rfl, (blk_cell BK355.out 3).trans rfl⟩ (fun hHeld => ?_)
              clear hK K
              refine norm_ (a' := ?_) ?_ ?_
              rotate_left
              ·show Act.put _ (some 31) _ = _
               simp only [Act.put, sT, sZ, sS, i64_w, i32_w]
               rfl
              exact norm_ (by simp only [putAll, Act.put, sT, sZ, sS]) (hCont (.slice Ao78 t366.length co78, gb373) _ ⟨hHeld, (by (with_reducible repeat (first | apply rA | apply rN | apply rW)); exact Kd.R_mono HO360.out (fun _ hk => hk.2)), (by (with_reducible repeat (first | apply rA | apply rN | apply rW)); exact Kd.R_mono HO368.out (fun _ hk => hk.2)), (by (with_reducible repeat (first | refine bN ?_ _ | refine bW ?_ | refine bA ?_ _)); exact BK355.out), (by (with_reducible repeat (first | refine bN ?_ _ | refine bW ?_ | refine bA ?_ _)); exact BK365.out), (by (with_reducible repeat (first | refine bN ?_ _ | refine bW ?_ | refine bA ?_ _)); exact BK373.out), GW373.out, GE373.out, NB355_373.out, NB373_355.out, NB365_373.out, NB373_365.out, (by repeat (first | (with_reducible first | exact HB.out | apply lA | apply lN | apply lW | refine lS ?_ GE355.out | refine lS ?_ GE365.out | refine lS ?_ GE373.out) | exact HB.out))⟩)
            ·skip
             refine box_step ?hg (N := 6) ?hd (cs := #[.int .i64 0, .int .i64 0, .int .i64 0, .int .i64 0]) (t := 23) ?hr ?_; (case hd => rfl); (case hg => rfl); (case hr => first | (go_simp; done) | (go_simp; rfl))
             intro gb373 hg w76 hbox hb
             have n0_ := aM (Kd.R_below (by (with_reducible repeat (first | apply rA | apply rN | apply rW)); exact HO360.out) hb)
             have n1_ := aM (blk_below (g := gb355) (o := .cells #[.int .i64 a0_0, .int .i64 a0_1, .int .i64 a0_2, .int .i64 a0_3] 23 (0, 0)) (by (with_reducible repeat (first | refine bN ?_ _ | refine bW ?_ | refine bA ?_ _)); exact BK355.out) hb)
             have n2_ := aM (blk_below (g := gb365) (o := .cells #[.int .i64 t361, .int .i64 t362, .int .i64 t363, .int .i64 t364] 23 (0, 0)) (by (with_reducible repeat (first | refine bN ?_ _ | refine bW ?_ | refine bA ?_ _)); exact BK365.out) hb)
             have n3_ := aM (below_step (by repeat (first | (with_reducible first | exact HB.out | apply lA | apply lN | apply lW | refine lS ?_ GE355.out | refine lS ?_ GE365.out) | exact HB.out)) hb)
             have n4_ := aM (hbox)
             have n5_ := aM ((by rw [hg]; exact (below_size (by repeat (first | (with_reducible first | exact HB.out | apply lA | apply lN | apply lW | refine lS ?_ GE355.out | refine lS ?_ GE365.out) | exact HB.out))) : w.heap.size ≤ gb373))
             have n6_ := aM ((by rw [hg]; exact (below_size (by repeat (first | (with_reducible first | exact HB.out | apply lA | apply lN | apply lW | refine lS ?_ GE355.out | refine lS ?_ GE365.out) | exact HB.out))) : w.heap.size ≤ gb373))
             have n7_ := aM ((by rw [hg]; exact Nat.ne_of_lt (blk_lt (g := gb355) (o := .cells #[.int .i64 a0_0, .int .i64 a0_1, .int .i64 a0_2, .int .i64 a0_3] 23 (0, 0)) (by (with_reducible repeat (first | refine bN ?_ _ | refine bW ?_ | refine bA ?_ _)); exact BK355.out)) : gb355 ≠ gb373))
             have n8_ := aM ((by rw [hg]; exact Nat.ne_of_gt (blk_lt (g := gb355) (o := .cells #[.int .i64 a0_0, .int .i64 a0_1, .int .i64 a0_2, .int .i64 a0_3] 23 (0, 0)) (by (with_reducible repeat (first | refine bN ?_ _ | refine bW ?_ | refine bA ?_ _)); exact BK355.out)) : gb373 ≠ gb355))
             have n9_ := aM ((by rw [hg]; exact Nat.ne_of_lt (blk_lt (g := gb365) (o := .cells #[.int .i64 t361, .int .i64 t362, .int .i64 t363, .int .i64 t364] 23 (0, 0)) (by (with_reducible repeat (first | refine bN ?_ _ | refine bW ?_ | refine bA ?_ _)); exact BK365.out)) : gb365 ≠ gb373))
             have n10_ := aM ((by rw [hg]; exact Nat.ne_of_gt (blk_lt (g := gb365) (o := .cells #[.int .i64 t361, .int .i64 t362, .int .i64 t363, .int .i64 t364] 23 (0, 0)) (by (with_reducible repeat (first | refine bN ?_ _ | refine bW ?_ | refine bA ?_ _)); exact BK365.out)) : gb373 ≠ gb365))
             clear HO360
             clear BK355
             clear BK365
             clear HB
             have HO360 := n0_
             have BK355 := n1_
             have BK365 := n2_
             have HB := n3_
             have BK373 := n4_
             have GW373 := n5_
             have GE373 := n6_
             have NB355_373 := n7_
             have NB373_355 := n8_
             have NB365_373 := n9_
             have NB373_365 := n10_
             clear n0_ n1_ n2_ n3_ n4_ n5_ n6_ n7_ n8_ n9_ n10_
             clear hb hbox hg
             refine hK.out _ _ ⟨(blk_cell BK355.out 0).trans rfl, (blk_cell BK355.out 1).trans rfl, (blk_cell BK355.out 2).trans rfl, (blk_cell BK355.out 3).trans rfl⟩ (fun hHeld => ?_)
             clear hK K
             refine norm_ (a' := ?_) ?_ ?_
             rotate_left
             ·show Act.put _ (some 6) _ = _
              simp only [Act.put, sT, sZ, sS, i64_w, i32_w]
              rfl
             refine one_ (i := 3) (N := some 30) #[true, true, true, true, false, true, false] rfl rfl (by kernel_rfl) (by decide) (fun K hK => ?_)
             refine goes_ Try.func19 (by kernel_rfl) rfl #[.int .i64 3, .int .i64 (wrap64 ((wrap64 (Int.tdiv (wrap64 ((wrap64 (256 - a0_0)) + 7)) 8)) - 1))] (by rfl) rfl rfl (by (try simp only [List.map_toArray, List.map_cons, List.map_nil]); first | done | rfl | (simp only [List.length_drop, List.length_take]; rfl)) ?_
             with_reducible refine (phaetonlaw08_times.calls kj2 3 (wrap64 ((wrap64 (Int.tdiv (wrap64 ((wrap64 (256 - a0_0)) + 7)) 8)) - 1)) t366 _ A16.out).mono ?_
             rintro e w77 ⟨v367, rfl, ho0, hb⟩
             refine ⟨_, rfl, ?_⟩
             have n0_ := aM (Kd.R_elder' (by (with_reducible repeat (first | apply rA | apply rN | apply rW)); exact HO360.out) (Kd.R_base ho0) hb)
             have n1_ := aM (Kd.R_lower (Kd.R_new' ho0 (Kd.R_lt (by (with_reducible repeat (first | apply rA | apply rN | apply rW)); exact HO360.out))) (below_size (by repeat (first | (with_reducible first | exact HB.out | apply lA | apply lN | apply lW | refine lS ?_ GE355.out | refine lS ?_ GE365.out | refine lS ?_ GE373.out) | exact HB.out))))
             have n2_ := aM (blk_below (g := gb355) (o := .cells #[.int .i64 a0_0, .int .i64 a0_1, .int .i64 a0_2, .int .i64 a0_3] 23 (0, 0)) (by (with_reducible repeat (first | refine bN ?_ _ | refine bW ?_ | refine bA ?_ _)); exact BK355.out) hb)
             have n3_ := aM (blk_below (g := gb365) (o := .cells #[.int .i64 t361, .int .i64 t362, .int .i64 t363, .int .i64 t364] 23 (0, 0)) (by (with_reducible repeat (first | refine bN ?_ _ | refine bW ?_ | refine bA ?_ _)); exact BK365.out) hb)
             have n4_ := aM (blk_below (g := gb373) (o := .cells #[.int .i64 0, .int .i64 0, .int .i64 0, .int .i64 0] 23 (0, 0)) (by (with_reducible repeat (first | refine bN ?_ _ | refine bW ?_ | refine bA ?_ _)); exact BK373.out) hb)
             have n5_ := aM (below_step (by repeat (first | (with_reducible first | exact HB.out | apply lA | apply lN | apply lW | refine lS ?_ GE355.out | refine lS ?_ GE365.out | refine lS ?_ GE373.out) | exact HB.out)) hb)
             clear HO360
             clear BK355
             clear BK365
             clear BK373
             clear HB
             have HO360 := n0_
             have HO368 := n1_
             have BK355 := n2_
             have BK365 := n3_
             have BK373 := n4_
             have HB := n5_
             clear n0_ n1_ n2_ n3_ n4_ n5_
             (try clear hb)
             (try clear hb2)
             (try clear hk)
             (try clear hi)
             (try clear ho0)
             obtain ⟨Ao78, co78, eo78⟩ := Kd.R_slice HO368.out
             (first | subst eo78 | (injection eo78 with f1_ f2_ f3_; have f4_ := f1_.symm; have f5_ := f3_.symm; clear f1_ f2_ f3_; subst f4_; subst f5_))
             refine hK.out _ _ ⟨(blk_cell BK355.out 0).trans rfl, (blk_cell BK355.out 1).trans rfl, (blk_cell BK355.out 2).trans rfl, (blk_cell BK355.out 3).trans rfl⟩ (fun hHeld => ?_)
             clear hK K
             refine norm_ (a' := ?_) ?_ ?_
             rotate_left
             ·show Act.put _ (some 30) _ = _
              simp only [Act.put, sT, sZ, sS, i64_w, i32_w]
              rfl
             refine one_ (i := 4) (N := some 31) #[true, true, true, true, true, true, false] rfl rfl (by kernel_rfl) (by decide) (fun K hK => ?_)
             refine goes_ Try.func17 (by kernel_rfl) rfl #[.agg #[.int .i64 a0_0, .int .i64 a0_1, .int .i64 a0_2, .int .i64 a0_3], .slice Ao78 t366.length co78] (by rfl) rfl rfl (by (try simp only [List.map_toArray, List.map_cons, List.map_nil]); first | done | rfl | (simp only [List.length_drop, List.length_take]; rfl)) ?_
             with_reducible refine (count_Steps.calls kj2 a0_0 a0_1 a0_2 a0_3 _ _ t366 t369 t370 t371 t372 _ ?side1 ?side2 A17.out).mono ?_
             (case side1 => repeat (first | exact (Kd.R_reads' HO368.out).2.2 | (with_reducible refine Kd.C_alloc ?_ _) | (with_reducible refine Kd.C_drewN ?_ _) | (with_reducible refine Kd.C_drew ?_)))
             (case side2 => exact (Kd.R_reads' HO368.out).2.1)
             rintro e w79 ⟨rfl, hb⟩
             refine ⟨_, rfl, ?_⟩
             have n0_ := aM (Kd.R_below (by (with_reducible repeat (first | apply rA | apply rN | apply rW)); exact HO360.out) hb)
             have n1_ := aM (Kd.R_below (by (with_reducible repeat (first | apply rA | apply rN | apply rW)); exact HO368.out) hb)
             have n2_ := aM (blk_below (g := gb355) (o := .cells #[.int .i64 a0_0, .int .i64 a0_1, .int .i64 a0_2, .int .i64 a0_3] 23 (0, 0)) (by (with_reducible repeat (first | refine bN ?_ _ | refine bW ?_ | refine bA ?_ _)); exact BK355.out) hb)
             have n3_ := aM (blk_below (g := gb365) (o := .cells #[.int .i64 t361, .int .i64 t362, .int .i64 t363, .int .i64 t364] 23 (0, 0)) (by (with_reducible repeat (first | refine bN ?_ _ | refine bW ?_ | refine bA ?_ _)); exact BK365.out) hb)
             have n4_ := aM (blk_below (g := gb373) (o := .cells #[.int .i64 0, .int .i64 0, .int .i64 0, .int .i64 0] 23 (0, 0)) (by (with_reducible repeat (first | refine bN ?_ _ | refine bW ?_ | refine bA ?_ _)); exact BK373.out) hb)
             have n5_ := aM (below_step (by repeat (first | (with_reducible first | exact HB.out | apply lA | apply lN | apply lW | refine lS ?_ GE355.out | refine lS ?_ GE365.out | refine lS ?_ GE373.out) | exact HB.out)) hb)
             clear HO360
             clear HO368
             clear BK355
             clear BK365
             clear BK373
             clear HB
             have HO360 := n0_
             have HO368 := n1_
             have BK355 := n2_
             have BK365 := n3_
             have BK373 := n4_
             have HB := n5_
             clear n0_ n1_ n2_ n3_ n4_ n5_
             (try clear hb)
             (try clear hb2)
             (try clear hk)
             (try clear hi)
             refine hK.out _ _ ⟨(blk_cell BK355.out 0).trans rfl, (blk_cell BK355.out 1).trans rfl, (blk_cell BK355.out 2).trans rfl, (blk_cell BK355.out 3).trans rfl⟩ (fun hHeld => ?_)
             clear hK K
             refine norm_ (a' := ?_) ?_ ?_
             rotate_left
             ·show Act.put _ (some 31) _ = _
              simp only [Act.put, sT, sZ, sS, i64_w, i32_w]
              rfl
             exact norm_ (by simp only [putAll, Act.put, sT, sZ, sS]) (hCont (.slice Ao78 t366.length co78, gb373) _ ⟨hHeld, (by (with_reducible repeat (first | apply rA | apply rN | apply rW)); exact Kd.R_mono HO360.out (fun _ hk => hk.2)), (by (with_reducible repeat (first | apply rA | apply rN | apply rW)); exact Kd.R_mono HO368.out (fun _ hk => hk.2)), (by (with_reducible repeat (first | refine bN ?_ _ | refine bW ?_ | refine bA ?_ _)); exact BK355.out), (by (with_reducible repeat (first | refine bN ?_ _ | refine bW ?_ | refine bA ?_ _)); exact BK365.out), (by (with_reducible repeat (first | refine bN ?_ _ | refine bW ?_ | refine bA ?_ _)); exact BK373.out), GW373.out, GE373.out, NB355_373.out, NB373_355.out, NB365_373.out, NB373_365.out, (by repeat (first | (with_reducible first | exact HB.out | apply lA | apply lN | apply lW | refine lS ?_ GE355.out | refine lS ?_ GE365.out | refine lS ?_ GE373.out) | exact HB.out))⟩)
           rintro ⟨v367, gb373⟩ w80 ⟨hS_, h0_, h1_, h2_, h3_, h4_, h5_, h6_, h7_, h8_, h9_, h10_, h11_⟩
           have n0_ : Aside0 (Kd.R (Kd.int .i64) 3 w80 w.heap.size (fun k_ => some k_ ≠ (v367 : Value).ownBlock) v359 t358) := ⟨h0_⟩
           have n1_ : Aside0 (Kd.R (Kd.int .i64) 3 w80 w.heap.size (fun k_ => some k_ ≠ (v359 : Value).ownBlock) v367 t366) := ⟨h1_⟩
           have n2_ : Aside0 (w80.heap[gb355]? = some (.cells #[.int .i64 a0_0, .int .i64 a0_1, .int .i64 a0_2, .int .i64 a0_3] 23 (0, 0))) := ⟨h2_⟩
           have n3_ : Aside0 (w80.heap[gb365]? = some (.cells #[.int .i64 t361, .int .i64 t362, .int .i64 t363, .int .i64 t364] 23 (0, 0))) := ⟨h3_⟩
           have n4_ : Aside0 (w80.heap[gb373]? = some (.cells #[.int .i64 0, .int .i64 0, .int .i64 0, .int .i64 0] 23 (0, 0))) := ⟨h4_⟩
           have n5_ : Aside0 (w.heap.size ≤ gb373) := ⟨h5_⟩
           have n6_ : Aside0 (w.heap.size ≤ gb373) := ⟨h6_⟩
           have n7_ : Aside0 (gb355 ≠ gb373) := ⟨h7_⟩
           have n8_ : Aside0 (gb373 ≠ gb355) := ⟨h8_⟩
           have n9_ : Aside0 (gb365 ≠ gb373) := ⟨h9_⟩
           have n10_ : Aside0 (gb373 ≠ gb365) := ⟨h10_⟩
           have n11_ : Aside0 (Below w.heap.size w w80) := ⟨h11_⟩
           clear HO360
           clear BK355
           clear BK365
           clear HB
           clear h0_ h1_ h2_ h3_ h4_ h5_ h6_ h7_ h8_ h9_ h10_ h11_
           have HO360 := n0_
           have HO368 := n1_
           have BK355 := n2_
           have BK365 := n3_
           have BK373 := n4_
           have GW373 := n5_
           have GE373 := n6_
           have NB355_373 := n7_
           have NB373_355 := n8_
           have NB365_373 := n9_
           have NB373_365 := n10_
           have HB := n11_
           clear n0_ n1_ n2_ n3_ n4_ n5_ n6_ n7_ n8_ n9_ n10_ n11_
           have hHeld : w80.cell? ⟨gb355, 0, none⟩ = some (.int .i64 a0_0) ∧ w80.cell? ⟨gb355, 1, none⟩ = some (.int .i64 a0_1) ∧ w80.cell? ⟨gb355, 2, none⟩ = some (.int .i64 a0_2) ∧ w80.cell? ⟨gb355, 3, none⟩ = some (.int .i64 a0_3) := hS_
           refine norm_ (a' := ?_) ?_ ?_
           rotate_left
           ·simp only [putAll, Act.put, sT, sZ, sS]
            rfl
           refine one_ (i := 6) (N := none) #[true, true, true, true, true, true, true] rfl rfl (by kernel_rfl) (by decide) (fun K hK => ?_)
           have hs81 : w80.cell? ⟨gb373, 0, none⟩ = some (.int .i64 0) := (blk_cell BK373.out 0).trans rfl
           have hfs81 := blk_frozen BK373.out 0
           have hns81_0 := NB355_373.out
           have hns81_1 := NB365_373.out
           have hms81_0 := NB373_355.out
           have hms81_1 := NB373_365.out
           have hs82 : w80.cell? ⟨gb373, 1, none⟩ = some (.int .i64 0) := (blk_cell BK373.out 1).trans rfl
           have hfs82 := blk_frozen BK373.out 1
           have hns82_0 := NB355_373.out
           have hns82_1 := NB365_373.out
           have hms82_0 := NB373_355.out
           have hms82_1 := NB373_365.out
           have hs83 : w80.cell? ⟨gb373, 2, none⟩ = some (.int .i64 0) := (blk_cell BK373.out 2).trans rfl
           have hfs83 := blk_frozen BK373.out 2
           have hns83_0 := NB355_373.out
           have hns83_1 := NB365_373.out
           have hms83_0 := NB373_355.out
           have hms83_1 := NB373_365.out
           have hs84 : w80.cell? ⟨gb373, 3, none⟩ = some (.int .i64 0) := (blk_cell BK373.out 3).trans rfl
           have hfs84 := blk_frozen BK373.out 3
           have hns84_0 := NB355_373.out
           have hns84_1 := NB365_373.out
           have hms84_0 := NB373_355.out
           have hms84_1 := NB373_365.out
           refine skip_ (w1 := ?_) (by rfl) rfl ?_ ?_
           rotate_left
           ·go_simp
            rfl
           refine hK.out _ _ ⟨((cell_far (p := ⟨gb373, _, none⟩) NB355_373.out _).trans (((cell_far (p := ⟨gb373, _, none⟩) NB355_373.out _).trans (((cell_far (p := ⟨gb373, _, none⟩) NB355_373.out _).trans (((cell_far (p := ⟨gb373, _, none⟩) NB355_373.out _).trans (hHeld.1)))))))), ((cell_far (p := ⟨gb373, _, none⟩) NB355_373.out _).trans (((cell_far (p := ⟨gb373, _, none⟩) NB355_373.out _).trans (((cell_far (p := ⟨gb373, _, none⟩) NB355_373.out _).trans (((cell_far (p := ⟨gb373, _, none⟩) NB355_373.out _).trans (hHeld.2.1)))))))), ((cell_far (p := ⟨gb373, _, none⟩) NB355_373.out _).trans (((cell_far (p := ⟨gb373, _, none⟩) NB355_373.out _).trans (((cell_far (p := ⟨gb373, _, none⟩) NB355_373.out _).trans (((cell_far (p := ⟨gb373, _, none⟩) NB355_373.out _).trans (hHeld.2.2.1)))))))), ((cell_far (p := ⟨gb373, _, none⟩) NB355_373.out _).trans (((cell_far (p := ⟨gb373, _, none⟩) NB355_373.out _).trans (((cell_far (p := ⟨gb373, _, none⟩) NB355_373.out _).trans (((cell_far (p := ⟨gb373, _, none⟩) NB355_373.out _).trans (hHeld.2.2.2))))))))⟩ (fun hHeld => ?_)
           clear hK K
           refine done_ (by kernel_rfl) ?_
           have hnb85 := NB355_365.out
           have hnc85 := NB365_355.out
           have hnb86 := NB355_373.out
           have hnc86 := NB373_355.out
           have hcz87_0 : w80.cell? ⟨gb355, 0, none⟩ = some (.int .i64 a0_0) := (blk_cell BK355.out 0).trans rfl
           have hcz87_1 : w80.cell? ⟨gb355, 1, none⟩ = some (.int .i64 a0_1) := (blk_cell BK355.out 1).trans rfl
           have hcz87_2 : w80.cell? ⟨gb355, 2, none⟩ = some (.int .i64 a0_2) := (blk_cell BK355.out 2).trans rfl
           have hcz87_3 : w80.cell? ⟨gb355, 3, none⟩ = some (.int .i64 a0_3) := (blk_cell BK355.out 3).trans rfl
           have hfz87_0 := blk_frozen BK355.out 0
           have hfz87_1 := blk_frozen BK355.out 1
           have hfz87_2 := blk_frozen BK355.out 2
           have hfz87_3 := blk_frozen BK355.out 3
           try go_wp2_with (first | ((with_reducible refine gate_callee (f := 15) rfl ?_); refine goesL_ (some 33) rfl rfl Try.func15 (by kernel_rfl) rfl #[.agg #[.int .i64 a0_0, .int .i64 a0_1, .int .i64 a0_2, .int .i64 a0_3], .int .i64 3] rfl (by (try simp only [List.map_toArray, List.map_cons, List.map_nil]); first | done | rfl | (simp only [List.length_drop, List.length_take]; rfl)) ?_; (with_reducible refine (count_Step.calls a0_0 a0_1 a0_2 a0_3 3 t374 t375 t376 t377 _ A18.out).mono ?_); rintro e w88 ⟨rfl, hb⟩; refine ⟨_, rfl, ?_⟩; have n0_ := aM (Kd.R_below (by (with_reducible repeat (first | apply rA | apply rN | apply rW)); exact (Kd.R_mono (Kd.R_far (p := ⟨gb373, 3, none⟩) (Kd.R_far (p := ⟨gb373, 2, none⟩) (Kd.R_far (p := ⟨gb373, 1, none⟩) (Kd.R_far (p := ⟨gb373, 0, none⟩) (Kd.R_types HO360.out BK373.out (by decide)) (fun _ hk => hk.2) (.int .i64 t369)) (fun _ hk => hk.2) (.int .i64 t370)) (fun _ hk => hk.2) (.int .i64 t371)) (fun _ hk => hk.2) (.int .i64 t372)) (fun _ h_ => h_.1))) hb); have n1_ := aM (Kd.R_below (by (with_reducible repeat (first | apply rA | apply rN | apply rW)); exact (Kd.R_mono (Kd.R_far (p := ⟨gb373, 3, none⟩) (Kd.R_far (p := ⟨gb373, 2, none⟩) (Kd.R_far (p := ⟨gb373, 1, none⟩) (Kd.R_far (p := ⟨gb373, 0, none⟩) (Kd.R_types HO368.out BK373.out (by decide)) (fun _ hk => hk.2) (.int .i64 t369)) (fun _ hk => hk.2) (.int .i64 t370)) (fun _ hk => hk.2) (.int .i64 t371)) (fun _ hk => hk.2) (.int .i64 t372)) (fun _ h_ => h_.1))) hb); have n2_ := aM (blk_below (g := gb355) (o := .cells #[.int .i64 a0_0, .int .i64 a0_1, .int .i64 a0_2, .int .i64 a0_3] 23 (0, 0)) (by (with_reducible repeat (first | refine bN ?_ _ | refine bW ?_ | refine bA ?_ _)); refine blk_far ?_ NB355_373.out _; (with_reducible repeat (first | refine bN ?_ _ | refine bW ?_ | refine bA ?_ _)); refine blk_far ?_ NB355_373.out _; (with_reducible repeat (first | refine bN ?_ _ | refine bW ?_ | refine bA ?_ _)); refine blk_far ?_ NB355_373.out _; (with_reducible repeat (first | refine bN ?_ _ | refine bW ?_ | refine bA ?_ _)); refine blk_far ?_ NB355_373.out _; (with_reducible repeat (first | refine bN ?_ _ | refine bW ?_ | refine bA ?_ _)); exact BK355.out) hb); have n3_ := aM (blk_below (g := gb365) (o := .cells #[.int .i64 t361, .int .i64 t362, .int .i64 t363, .int .i64 t364] 23 (0, 0)) (by (with_reducible repeat (first | refine bN ?_ _ | refine bW ?_ | refine bA ?_ _)); refine blk_far ?_ NB365_373.out _; (with_reducible repeat (first | refine bN ?_ _ | refine bW ?_ | refine bA ?_ _)); refine blk_far ?_ NB365_373.out _; (with_reducible repeat (first | refine bN ?_ _ | refine bW ?_ | refine bA ?_ _)); refine blk_far ?_ NB365_373.out _; (with_reducible repeat (first | refine bN ?_ _ | refine bW ?_ | refine bA ?_ _)); refine blk_far ?_ NB365_373.out _; (with_reducible repeat (first | refine bN ?_ _ | refine bW ?_ | refine bA ?_ _)); exact BK365.out) hb); have n4_ := aM (blk_below (g := gb373) (o := .cells #[.int .i64 t369, .int .i64 t370, .int .i64 t371, .int .i64 t372] 23 (0, 0)) (by (with_reducible repeat (first | refine bN ?_ _ | refine bW ?_ | refine bA ?_ _)); refine blk_put (cs := #[.int .i64 t369, .int .i64 t370, .int .i64 t371, .int .i64 0]) ?_ 3 _ rfl; (with_reducible repeat (first | refine bN ?_ _ | refine bW ?_ | refine bA ?_ _)); refine blk_put (cs := #[.int .i64 t369, .int .i64 t370, .int .i64 0, .int .i64 0]) ?_ 2 _ rfl; (with_reducible repeat (first | refine bN ?_ _ | refine bW ?_ | refine bA ?_ _)); refine blk_put (cs := #[.int .i64 t369, .int .i64 0, .int .i64 0, .int .i64 0]) ?_ 1 _ rfl; (with_reducible repeat (first | refine bN ?_ _ | refine bW ?_ | refine bA ?_ _)); refine blk_put (cs := #[.int .i64 0, .int .i64 0, .int .i64 0, .int .i64 0]) ?_ 0 _ rfl; (with_reducible repeat (first | refine bN ?_ _ | refine bW ?_ | refine bA ?_ _)); exact BK373.out) hb); have n5_ := aM (below_step (by repeat (first | (with_reducible first | exact HB.out | apply lA | apply lN | apply lW | refine lS ?_ GE355.out | refine lS ?_ GE365.out | refine lS ?_ GE373.out) | exact HB.out)) hb); clear HO360; clear HO368; clear BK355; clear BK365; clear BK373; clear HB; have HO360 := n0_; have HO368 := n1_; have BK355 := n2_; have BK365 := n3_; have BK373 := n4_; have HB := n5_; clear n0_ n1_ n2_ n3_ n4_ n5_; (try clear hb); (try clear hb2); (try clear hk); (try clear hi)) | ((with_reducible refine gate_callee (f := 15) rfl ?_); refine goesL_ (some 34) rfl rfl Try.func15 (by kernel_rfl) rfl #[.agg #[.int .i64 t374, .int .i64 t375, .int .i64 t376, .int .i64 t377], .int .i64 1] rfl (by (try simp only [List.map_toArray, List.map_cons, List.map_nil]); first | done | rfl | (simp only [List.length_drop, List.length_take]; rfl)) ?_; (with_reducible refine (count_Step.calls t374 t375 t376 t377 1 t378 t379 t380 t381 _ A19.out).mono ?_); rintro e w89 ⟨rfl, hb⟩; refine ⟨_, rfl, ?_⟩; have n0_ := aM (Kd.R_below (by (with_reducible repeat (first | apply rA | apply rN | apply rW)); exact HO360.out) hb); have n1_ := aM (Kd.R_below (by (with_reducible repeat (first | apply rA | apply rN | apply rW)); exact HO368.out) hb); have n2_ := aM (blk_below (g := gb355) (o := .cells #[.int .i64 a0_0, .int .i64 a0_1, .int .i64 a0_2, .int .i64 a0_3] 23 (0, 0)) (by (with_reducible repeat (first | refine bN ?_ _ | refine bW ?_ | refine bA ?_ _)); exact BK355.out) hb); have n3_ := aM (blk_below (g := gb365) (o := .cells #[.int .i64 t361, .int .i64 t362, .int .i64 t363, .int .i64 t364] 23 (0, 0)) (by (with_reducible repeat (first | refine bN ?_ _ | refine bW ?_ | refine bA ?_ _)); exact BK365.out) hb); have n4_ := aM (blk_below (g := gb373) (o := .cells #[.int .i64 t369, .int .i64 t370, .int .i64 t371, .int .i64 t372] 23 (0, 0)) (by (with_reducible repeat (first | refine bN ?_ _ | refine bW ?_ | refine bA ?_ _)); exact BK373.out) hb); have n5_ := aM (below_step (by repeat (first | (with_reducible first | exact HB.out | apply lA | apply lN | apply lW | refine lS ?_ GE355.out | refine lS ?_ GE365.out | refine lS ?_ GE373.out) | exact HB.out)) hb); clear HO360; clear HO368; clear BK355; clear BK365; clear BK373; clear HB; have HO360 := n0_; have HO368 := n1_; have BK355 := n2_; have BK365 := n3_; have BK373 := n4_; have HB := n5_; clear n0_ n1_ n2_ n3_ n4_ n5_; (try clear hb); (try clear hb2); (try clear hk); (try clear hi)) | ((with_reducible refine gate_dst (N := 7) rfl ?_); refine box_event ?hg (N := 7) ?hd (cs := #[.int .i64 0, .int .i64 0, .int .i64 0, .int .i64 0]) (t := 23) ?hr ?_; (case hd => rfl); (case hg => rfl); (case hr => first | (go_simp; done) | (go_simp; rfl)); intro gb382 hg w90 hbox hb; have n0_ := aM (Kd.R_below (by (with_reducible repeat (first | apply rA | apply rN | apply rW)); exact HO360.out) hb); have n1_ := aM (Kd.R_below (by (with_reducible repeat (first | apply rA | apply rN | apply rW)); exact HO368.out) hb); have n2_ := aM (blk_below (g := gb355) (o := .cells #[.int .i64 a0_0, .int .i64 a0_1, .int .i64 a0_2, .int .i64 a0_3] 23 (0, 0)) (by (with_reducible repeat (first | refine bN ?_ _ | refine bW ?_ | refine bA ?_ _)); exact BK355.out) hb); have n3_ := aM (blk_below (g := gb365) (o := .cells #[.int .i64 t361, .int .i64 t362, .int .i64 t363, .int .i64 t364] 23 (0, 0)) (by (with_reducible repeat (first | refine bN ?_ _ | refine bW ?_ | refine bA ?_ _)); exact BK365.out) hb); have n4_ := aM (blk_below (g := gb373) (o := .cells #[.int .i64 t369, .int .i64 t370, .int .i64 t371, .int .i64 t372] 23 (0, 0)) (by (with_reducible repeat (first | refine bN ?_ _ | refine bW ?_ | refine bA ?_ _)); exact BK373.out) hb); have n5_ := aM (below_step (by repeat (first | (with_reducible first | exact HB.out | apply lA | apply lN | apply lW | refine lS ?_ GE355.out | refine lS ?_ GE365.out | refine lS ?_ GE373.out) | exact HB.out)) hb); have n6_ := aM (hbox); have n7_ := aM ((by rw [hg]; exact (below_size (by repeat (first | (with_reducible first | exact HB.out | apply lA | apply lN | apply lW | refine lS ?_ GE355.out | refine lS ?_ GE365.out | refine lS ?_ GE373.out) | exact HB.out))) : w.heap.size ≤ gb382)); have n8_ := aM ((by rw [hg]; exact (below_size (by repeat (first | (with_reducible first | exact HB.out | apply lA | apply lN | apply lW | refine lS ?_ GE355.out | refine lS ?_ GE365.out | refine lS ?_ GE373.out) | exact HB.out))) : w.heap.size ≤ gb382)); have n9_ := aM ((by rw [hg]; exact Nat.ne_of_lt (blk_lt (g := gb355) (o := .cells #[.int .i64 a0_0, .int .i64 a0_1, .int .i64 a0_2, .int .i64 a0_3] 23 (0, 0)) (by (with_reducible repeat (first | refine bN ?_ _ | refine bW ?_ | refine bA ?_ _)); exact BK355.out)) : gb355 ≠ gb382)); have n10_ := aM ((by rw [hg]; exact Nat.ne_of_gt (blk_lt (g := gb355) (o := .cells #[.int .i64 a0_0, .int .i64 a0_1, .int .i64 a0_2, .int .i64 a0_3] 23 (0, 0)) (by (with_reducible repeat (first | refine bN ?_ _ | refine bW ?_ | refine bA ?_ _)); exact BK355.out)) : gb382 ≠ gb355)); have n11_ := aM ((by rw [hg]; exact Nat.ne_of_lt (blk_lt (g := gb365) (o := .cells #[.int .i64 t361, .int .i64 t362, .int .i64 t363, .int .i64 t364] 23 (0, 0)) (by (with_reducible repeat (first | refine bN ?_ _ | refine bW ?_ | refine bA ?_ _)); exact BK365.out)) : gb365 ≠ gb382)); have n12_ := aM ((by rw [hg]; exact Nat.ne_of_gt (blk_lt (g := gb365) (o := .cells #[.int .i64 t361, .int .i64 t362, .int .i64 t363, .int .i64 t364] 23 (0, 0)) (by (with_reducible repeat (first | refine bN ?_ _ | refine bW ?_ | refine bA ?_ _)); exact BK365.out)) : gb382 ≠ gb365)); have n13_ := aM ((by rw [hg]; exact Nat.ne_of_lt (blk_lt (g := gb373) (o := .cells #[.int .i64 t369, .int .i64 t370, .int .i64 t371, .int .i64 t372] 23 (0, 0)) (by (with_reducible repeat (first | refine bN ?_ _ | refine bW ?_ | refine bA ?_ _)); exact BK373.out)) : gb373 ≠ gb382)); have n14_ := aM ((by rw [hg]; exact Nat.ne_of_gt (blk_lt (g := gb373) (o := .cells #[.int .i64 t369, .int .i64 t370, .int .i64 t371, .int .i64 t372] 23 (0, 0)) (by (with_reducible repeat (first | refine bN ?_ _ | refine bW ?_ | refine bA ?_ _)); exact BK373.out)) : gb382 ≠ gb373)); clear HO360; clear HO368; clear BK355; clear BK365; clear BK373; clear HB; have HO360 := n0_; have HO368 := n1_; have BK355 := n2_; have BK365 := n3_; have BK373 := n4_; have HB := n5_; have BK382 := n6_; have GW382 := n7_; have GE382 := n8_; have NB355_382 := n9_; have NB382_355 := n10_; have NB365_382 := n11_; have NB382_365 := n12_; have NB373_382 := n13_; have NB382_373 := n14_; clear n0_ n1_ n2_ n3_ n4_ n5_ n6_ n7_ n8_ n9_ n10_ n11_ n12_ n13_ n14_; clear hb hbox hg; have hnb91 := NB382_355.out; have hnc91 := NB355_382.out; have hnb92 := NB382_365.out; have hnc92 := NB365_382.out; have hnb93 := NB382_373.out; have hnc93 := NB373_382.out; have hcz94_0 : w90.cell? ⟨gb382, 0, none⟩ = some (.int .i64 0) := (blk_cell BK382.out 0).trans rfl; have hcz94_1 : w90.cell? ⟨gb382, 1, none⟩ = some (.int .i64 0) := (blk_cell BK382.out 1).trans rfl; have hcz94_2 : w90.cell? ⟨gb382, 2, none⟩ = some (.int .i64 0) := (blk_cell BK382.out 2).trans rfl; have hcz94_3 : w90.cell? ⟨gb382, 3, none⟩ = some (.int .i64 0) := (blk_cell BK382.out 3).trans rfl; have hfz94_0 := blk_frozen BK382.out 0; have hfz94_1 := blk_frozen BK382.out 1; have hfz94_2 := blk_frozen BK382.out 2; have hfz94_3 := blk_frozen BK382.out 3; have hnb95 := NB365_373.out; have hnc95 := NB373_365.out; have hcz96_0 : w90.cell? ⟨gb365, 0, none⟩ = some (.int .i64 t361) := (blk_cell BK365.out 0).trans rfl; have hcz96_1 : w90.cell? ⟨gb365, 1, none⟩ = some (.int .i64 t362) := (blk_cell BK365.out 1).trans rfl; have hcz96_2 : w90.cell? ⟨gb365, 2, none⟩ = some (.int .i64 t363) := (blk_cell BK365.out 2).trans rfl; have hcz96_3 : w90.cell? ⟨gb365, 3, none⟩ = some (.int .i64 t364) := (blk_cell BK365.out 3).trans rfl; have hfz96_0 := blk_frozen BK365.out 0; have hfz96_1 := blk_frozen BK365.out 1; have hfz96_2 := blk_frozen BK365.out 2; have hfz96_3 := blk_frozen BK365.out 3; have hcz97_0 : w90.cell? ⟨gb373, 0, none⟩ = some (.int .i64 t369) := (blk_cell BK373.out 0).trans rfl; have hcz97_1 : w90.cell? ⟨gb373, 1, none⟩ = some (.int .i64 t370) := (blk_cell BK373.out 1).trans rfl; have hcz97_2 : w90.cell? ⟨gb373, 2, none⟩ = some (.int .i64 t371) := (blk_cell BK373.out 2).trans rfl; have hcz97_3 : w90.cell? ⟨gb373, 3, none⟩ = some (.int .i64 t372) := (blk_cell BK373.out 3).trans rfl; have hfz97_0 := blk_frozen BK373.out 0; have hfz97_1 := blk_frozen BK373.out 1; have hfz97_2 := blk_frozen BK373.out 2; have hfz97_3 := blk_frozen BK373.out 3; have hcz98_0 : w90.cell? ⟨gb355, 0, none⟩ = some (.int .i64 a0_0) := (blk_cell BK355.out 0).trans rfl; have hcz98_1 : w90.cell? ⟨gb355, 1, none⟩ = some (.int .i64 a0_1) := (blk_cell BK355.out 1).trans rfl; have hcz98_2 : w90.cell? ⟨gb355, 2, none⟩ = some (.int .i64 a0_2) := (blk_cell BK355.out 2).trans rfl; have hcz98_3 : w90.cell? ⟨gb355, 3, none⟩ = some (.int .i64 a0_3) := (blk_cell BK355.out 3).trans rfl; have hfz98_0 := blk_frozen BK355.out 0; have hfz98_1 := blk_frozen BK355.out 1; have hfz98_2 := blk_frozen BK355.out 2; have hfz98_3 := blk_frozen BK355.out 3))
           go_ret
           exact ⟨by first | rfl | (simp [errW_none, errW_some] <;> rfl) | (simp [*, errW_none, errW_some] <;> rfl), by repeat (first | (with_reducible first | exact HB.out | apply lA | apply lN | apply lW | refine lS ?_ GE355.out | refine lS ?_ GE365.out | refine lS ?_ GE373.out | refine lS ?_ GE382.out) | exact HB.out)⟩
         ·rw [if_neg c25] at H
          have c25b0 : ((wrap64 (Int.tdiv (wrap64 ((wrap64 (256 - a0_0)) + 7)) 8)) == 1) = false := beq_eq_false_iff_ne.mpr c25
          have c25b1 : ((wrap64 (Int.tdiv (wrap64 ((wrap64 (256 - a0_0)) + 7)) 8)) != 1) = true := bne_iff_ne.mpr c25
          obtain rfl := Option.some.inj H
          have hcz99_0 : wc.cell? ⟨gb355, 0, none⟩ = some (.int .i64 a0_0) := (blk_cell BK355.out 0).trans rfl
          have hcz99_1 : wc.cell? ⟨gb355, 1, none⟩ = some (.int .i64 a0_1) := (blk_cell BK355.out 1).trans rfl
          have hcz99_2 : wc.cell? ⟨gb355, 2, none⟩ = some (.int .i64 a0_2) := (blk_cell BK355.out 2).trans rfl
          have hcz99_3 : wc.cell? ⟨gb355, 3, none⟩ = some (.int .i64 a0_3) := (blk_cell BK355.out 3).trans rfl
          have hfz99_0 := blk_frozen BK355.out 0
          have hfz99_1 := blk_frozen BK355.out 1
          have hfz99_2 := blk_frozen BK355.out 2
          have hfz99_3 := blk_frozen BK355.out 3
          try go_wp2
          have n0_ := aM (bW BK355.out)
          have n1_ := aM (lW HB.out)
          clear BK355
          clear HB
          have BK355 := n0_
          have HB := n1_
          clear n0_ n1_
          refine start_ (n := 6) (S := fun w' => w'.cell? ⟨gb355, 0, none⟩ = some (.int .i64 a0_0) ∧ w'.cell? ⟨gb355, 1, none⟩ = some (.int .i64 a0_1) ∧ w'.cell? ⟨gb355, 2, none⟩ = some (.int .i64 a0_2) ∧ w'.cell? ⟨gb355, 3, none⟩ = some (.int .i64 a0_3)) (ds := []) #[false, false, false, false, false, false] (by kernel_rfl) rfl rfl ⟨(blk_cell BK355.out 0).trans rfl, (blk_cell BK355.out 1).trans rfl, (blk_cell BK355.out 2).trans rfl, (blk_cell BK355.out 3).trans rfl⟩ (fun hHeld => ?_)
          generalize wc.drew = w100 at BK355 HB hHeld ⊢
          refine pure_ (i := 1) (N := some 24) (v := ?_) (a' := ?_) #[false, true, false, false, false, false] rfl rfl (by kernel_rfl) (fun _ _ _ h => h) (Or.inl ⟨by rfl, ?_⟩) ?_ ?_
          rotate_left
          ·intro w'
           go_simp
           with_reducible rfl
          rotate_left
          ·simp only [Act.put, sT, sZ, sS, i64_w, i32_w]
           rfl
          refine take_ (i := 0) (N := some 23) (v := ?_) (a' := ?_) #[true, true, false, false, false, false] rfl rfl (by kernel_rfl) (fun _ _ _ h => h) (Or.inl ⟨by rfl, ?_⟩) hHeld ?_ ?_
          rotate_left
          ·rintro w' ⟨s0, s1, s2, s3⟩
           go_simp
           with_reducible rfl
          rotate_left
          ·simp only [Act.put, sT, sZ, sS, i64_w, i32_w]
           rfl
          refine join_ (σ := Value × Nat) 1 #[true, true, true, true, true, false] (fun s_ => [(25, s_.1), (26, .agg #[.int .i64 t361, .int .i64 t362, .int .i64 t363, .int .i64 t364]), (5, .pointer (some ⟨s_.2, 0, none⟩))]) (fun s_ w' => (w'.cell? ⟨gb355, 0, none⟩ = some (.int .i64 a0_0) ∧ w'.cell? ⟨gb355, 1, none⟩ = some (.int .i64 a0_1) ∧ w'.cell? ⟨gb355, 2, none⟩ = some (.int .i64 a0_2) ∧ w'.cell? ⟨gb355, 3, none⟩ = some (.int .i64 a0_3)) ∧ (Kd.R (Kd.int .i64) 3 w' w.heap.size (fun _ => True) s_.1 t358) ∧ (w'.heap[gb355]? = some (.cells #[.int .i64 a0_0, .int .i64 a0_1, .int .i64 a0_2, .int .i64 a0_3] 23 (0, 0))) ∧ (w'.heap[s_.2]? = some (.cells #[.int .i64 0, .int .i64 0, .int .i64 0, .int .i64 0] 23 (0, 0))) ∧ (w.heap.size ≤ s_.2) ∧ (w.heap.size ≤ s_.2) ∧ (gb355 ≠ s_.2) ∧ (s_.2 ≠ gb355) ∧ (Below w.heap.size w w')) ?_ ?_
          rotate_left
          ·intro hCont
           refine two_ (i := 2) (j := 4) (Ni := some 25) (Nj := some 5) #[true, true, true, false, false, false] #[true, true, false, false, true, false] rfl rfl rfl rfl (by kernel_rfl) (by decide) (by decide) (fun K hK => ?_) (fun K hK => ?_)
           ·skip
            refine goes_ Try.func19 (by kernel_rfl) rfl #[.int .i64 3, .int .i64 (wrap64 (Int.tdiv (wrap64 ((wrap64 (256 - a0_0)) + 7)) 8))] (by rfl) rfl rfl (by (try simp only [List.map_toArray, List.map_cons, List.map_nil]); first | done | rfl | (simp only [List.length_drop, List.length_take]; rfl)) ?_
            with_reducible refine (phaetonlaw08_times.calls kj2 3 (wrap64 (Int.tdiv (wrap64 ((wrap64 (256 - a0_0)) + 7)) 8)) t358 _ A14.out).mono ?_
            rintro e w101 ⟨v359, rfl, ho0, hb⟩
            refine ⟨_, rfl, ?_⟩
            have n0_ := aM (Kd.R_lower ho0 (below_size (by repeat (first | (with_reducible first | exact HB.out | apply lA | apply lN | apply lW | refine lS ?_ GE355.out) | exact HB.out))))
            have n1_ := aM (blk_below (g := gb355) (o := .cells #[.int .i64 a0_0, .int .i64 a0_1, .int .i64 a0_2, .int .i64 a0_3] 23 (0, 0)) (by (with_reducible repeat (first | refine bN ?_ _ | refine bW ?_ | refine bA ?_ _)); exact BK355.out) hb)
            have n2_ := aM (below_step (by repeat (first | (with_reducible first | exact HB.out | apply lA | apply lN | apply lW | refine lS ?_ GE355.out) | exact HB.out)) hb)
            clear BK355
            clear HB
            have HO360 := n0_
            have BK355 := n1_
            have HB := n2_
            clear n0_ n1_ n2_
            (try clear hb)
            (try clear hb2)
            (try clear hk)
            (try clear hi)
            (try clear ho0)
            obtain ⟨Ao102, co102, eo102⟩ := Kd.R_slice HO360.out
            (first | subst eo102 | (injection eo102 with f1_ f2_ f3_; have f4_ := f1_.symm; have f5_ := f3_.symm; clear f1_ f2_ f3_; subst f4_; subst f5_))
            refine hK.out _ _ ⟨(blk_cell BK355.out 0).trans rfl, (blk_cell BK355.out 1).trans rfl, (blk_cell BK355.out 2).trans rfl, (blk_cell BK355.out 3).trans rfl⟩ (fun hHeld => ?_)
            clear hK K
            refine norm_ (a' := ?_) ?_ ?_
            rotate_left
            ·show Act.put _ (some 25) _ = _
             simp only [Act.put, sT, sZ, sS, i64_w, i32_w]
             rfl
            refine two_ (i := 3) (j := 4) (Ni := some 26) (Nj := some 5) #[true, true, true, true, false, false] #[true, true, true, false, true, false] rfl rfl rfl rfl (by kernel_rfl) (by decide) (by decide) (fun K hK => ?_) (fun K hK => ?_)
            ·skip
             refine goes_ Try.func17 (by kernel_rfl) rfl #[.agg #[.int .i64 a0_0, .int .i64 a0_1, .int .i64 a0_2, .int .i64 a0_3], .slice Ao102 t358.length co102] (by rfl) rfl rfl (by (try simp only [List.map_toArray, List.map_cons, List.map_nil]); first | done | rfl | (simp only [List.length_drop, List.length_take]; rfl)) ?_
             with_reducible refine (count_Steps.calls kj2 a0_0 a0_1 a0_2 a0_3 _ _ t358 t361 t362 t363 t364 _ ?side1 ?side2 A15.out).mono ?_
             (case side1 => repeat (first | exact (Kd.R_reads' HO360.out).2.2 | (with_reducible refine Kd.C_alloc ?_ _) | (with_reducible refine Kd.C_drewN ?_ _) | (with_reducible refine Kd.C_drew ?_)))
             (case side2 => exact (Kd.R_reads' HO360.out).2.1)
             rintro e w103 ⟨rfl, hb⟩
             refine ⟨_, rfl, ?_⟩
             have n0_ := aM (Kd.R_below (by (with_reducible repeat (first | apply rA | apply rN | apply rW)); exact HO360.out) hb)
             have n1_ := aM (blk_below (g := gb355) (o := .cells #[.int .i64 a0_0, .int .i64 a0_1, .int .i64 a0_2, .int .i64 a0_3] 23 (0, 0)) (by (with_reducible repeat (first | refine bN ?_ _ | refine bW ?_ | refine bA ?_ _)); exact BK355.out) hb)
             have n2_ := aM (below_step (by repeat (first | (with_reducible first | exact HB.out | apply lA | apply lN | apply lW | refine lS ?_ GE355.out) | exact HB.out)) hb)
             clear HO360
             clear BK355
             clear HB
             have HO360 := n0_
             have BK355 := n1_
             have HB := n2_
             clear n0_ n1_ n2_
             (try clear hb)
             (try clear hb2)
             (try clear hk)
             (try clear hi)
             refine hK.out _ _ ⟨(blk_cell BK355.out 0).trans rfl, (blk_cell BK355.out 1).trans rfl, (blk_cell BK355.out 2).trans rfl, (blk_cell BK355.out 3).trans rfl⟩ (fun hHeld => ?_)
             clear hK K
             refine norm_ (a' := ?_) ?_ ?_
             rotate_left
             ·show Act.put _ (some 26) _ = _
              simp only [Act.put, sT, sZ, sS, i64_w, i32_w]
              rfl
             refine one_ (i := 4) (N := some 5) #[true, true, true, true, true, false] rfl rfl (by kernel_rfl) (by decide) (fun K hK => ?_)
             refine box_step ?hg (N := 5) ?hd (cs := #[.int .i64 0, .int .i64 0, .int .i64 0, .int .i64 0]) (t := 23) ?hr ?_; (case hd => rfl); (case hg => rfl); (case hr => first | (go_simp; done) | (go_simp; rfl))
             intro gb365 hg w104 hbox hb
             have n0_ := aM (Kd.R_below (by (with_reducible repeat (first | apply rA | apply rN | apply rW)); exact HO360.out) hb)
             have n1_ := aM (blk_below (g := gb355) (o := .cells #[.int .i64 a0_0, .int .i64 a0_1, .int .i64 a0_2, .int .i64 a0_3] 23 (0, 0)) (by (with_reducible repeat (first | refine bN ?_ _ | refine bW ?_ | refine bA ?_ _)); exact BK355.out) hb)
             have n2_ := aM (below_step (by repeat (first | (with_reducible first | exact HB.out | apply lA | apply lN | apply lW | refine lS ?_ GE355.out) | exact HB.out)) hb)
             have n3_ := aM (hbox)
             have n4_ := aM ((by rw [hg]; exact (below_size (by repeat (first | (with_reducible first | exact HB.out | apply lA | apply lN | apply lW | refine lS ?_ GE355.out) | exact HB.out))) : w.heap.size ≤ gb365))
             have n5_ := aM ((by rw [hg]; exact (below_size (by repeat (first | (with_reducible first | exact HB.out | apply lA | apply lN | apply lW | refine lS ?_ GE355.out) | exact HB.out))) : w.heap.size ≤ gb365))
             have n6_ := aM ((by rw [hg]; exact Nat.ne_of_lt (blk_lt (g := gb355) (o := .cells #[.int .i64 a0_0, .int .i64 a0_1, .int .i64 a0_2, .int .i64 a0_3] 23 (0, 0)) (by (with_reducible repeat (first | refine bN ?_ _ | refine bW ?_ | refine bA ?_ _)); exact BK355.out)) : gb355 ≠ gb365))
             have n7_ := aM ((by rw [hg]; exact Nat.ne_of_gt (blk_lt (g := gb355) (o := .cells #[.int .i64 a0_0, .int .i64 a0_1, .int .i64 a0_2, .int .i64 a0_3] 23 (0, 0)) (by (with_reducible repeat (first | refine bN ?_ _ | refine bW ?_ | refine bA ?_ _)); exact BK355.out)) : gb365 ≠ gb355))
             clear HO360
             clear BK355
             clear HB
             have HO360 := n0_
             have BK355 := n1_
             have HB := n2_
             have BK365 := n3_
             have GW365 := n4_
             have GE365 := n5_
             have NB355_365 := n6_
             have NB365_355 := n7_
             clear n0_ n1_ n2_ n3_ n4_ n5_ n6_ n7_
             clear hb hbox hg
             refine hK.out _ _ ⟨(blk_cell BK355.out 0).trans rfl, (blk_cell BK355.out 1).trans rfl, (blk_cell BK355.out 2).trans rfl, (blk_cell BK355.out 3).trans rfl⟩ (fun hHeld => ?_)
             clear hK K
             refine norm_ (a' := ?_) ?_ ?_
             rotate_left
             ·show Act.put _ (some 5) _ = _
              simp only [Act.put, sT, sZ, sS, i64_w, i32_w]
              rfl
             exact norm_ (by simp only [putAll, Act.put, sT, sZ, sS]) (hCont (.slice Ao102 t358.length co102, gb365) _ ⟨hHeld, (by (with_reducible repeat (first | apply rA | apply rN | apply rW)); exact HO360.out), (by (with_reducible repeat (first | refine bN ?_ _ | refine bW ?_ | refine bA ?_ _)); exact BK355.out), (by (with_reducible repeat (first | refine bN ?_ _ | refine bW ?_ | refine bA ?_ _)); exact BK365.out), GW365.out, GE365.out, NB355_365.out, NB365_355.out, (by repeat (first | (with_reducible first | exact HB.out | apply lA | apply lN | apply lW | refine lS ?_ GE355.out | refine lS ?_ GE365.out) | exact HB.out))⟩)
            ·skip
             refine box_step ?hg (N := 5) ?hd (cs := #[.int .i64 0, .int .i64 0, .int .i64 0, .int .i64 0]) (t := 23) ?hr ?_; (case hd => rfl); (case hg => rfl); (case hr => first | (go_simp; done) | (go_simp; rfl))
             intro gb365 hg w102 hbox hb
             have n0_ := aM (Kd.R_below (by (with_reducible repeat (first | apply rA | apply rN | apply rW)); exact HO360.out) hb)
             have n1_ := aM (blk_below (g := gb355) (o := .cells #[.int .i64 a0_0, .int .i64 a0_1, .int .i64 a0_2, .int .i64 a0_3] 23 (0, 0)) (by (with_reducible repeat (first | refine bN ?_ _ | refine bW ?_ | refine bA ?_ _)); exact BK355.out) hb)
             have n2_ := aM (below_step (by repeat (first | (with_reducible first | exact HB.out | apply lA | apply lN | apply lW | refine lS ?_ GE355.out) | exact HB.out)) hb)
             have n3_ := aM (hbox)
             have n4_ := aM ((by rw [hg]; exact (below_size (by repeat (first | (with_reducible first | exact HB.out | apply lA | apply lN | apply lW | refine lS ?_ GE355.out) | exact HB.out))) : w.heap.size ≤ gb365))
             have n5_ := aM ((by rw [hg]; exact (below_size (by repeat (first | (with_reducible first | exact HB.out | apply lA | apply lN | apply lW | refine lS ?_ GE355.out) | exact HB.out))) : w.heap.size ≤ gb365))
             have n6_ := aM ((by rw [hg]; exact Nat.ne_of_lt (blk_lt (g := gb355) (o := .cells #[.int .i64 a0_0, .int .i64 a0_1, .int .i64 a0_2, .int .i64 a0_3] 23 (0, 0)) (by (with_reducible repeat (first | refine bN ?_ _ | refine bW ?_ | refine bA ?_ _)); exact BK355.out)) : gb355 ≠ gb365))
             have n7_ := aM ((by rw [hg]; exact Nat.ne_of_gt (blk_lt (g := gb355) (o := .cells #[.int .i64 a0_0, .int .i64 a0_1, .int .i64 a0_2, .int .i64 a0_3] 23 (0, 0)) (by (with_reducible repeat (first | refine bN ?_ _ | refine bW ?_ | refine bA ?_ _)); exact BK355.out)) : gb365 ≠ gb355))
             clear HO360
             clear BK355
             clear HB
             have HO360 := n0_
             have BK355 := n1_
             have HB := n2_
             have BK365 := n3_
             have GW365 := n4_
             have GE365 := n5_
             have NB355_365 := n6_
             have NB365_355 := n7_
             clear n0_ n1_ n2_ n3_ n4_ n5_ n6_ n7_
             clear hb hbox hg
             obtain ⟨Ao103, co103, eo103⟩ := Kd.R_slice HO360.out
             (first | subst eo103 | (injection eo103 with f1_ f2_ f3_; have f4_ := f1_.symm; have f5_ := f3_.symm; clear f1_ f2_ f3_; subst f4_; subst f5_))
             refine hK.out _ _ ⟨(blk_cell BK355.out 0).trans rfl, (blk_cell BK355.out 1).trans rfl, (blk_cell BK355.out 2).trans rfl, (blk_cell BK355.out 3).trans rfl⟩ (fun hHeld => ?_)
             clear hK K
             refine norm_ (a' := ?_) ?_ ?_
             rotate_left
             ·show Act.put _ (some 5) _ = _
              simp only [Act.put, sT, sZ, sS, i64_w, i32_w]
              rfl
             refine one_ (i := 3) (N := some 26) #[true, true, true, true, true, false] rfl rfl (by kernel_rfl) (by decide) (fun K hK => ?_)
             refine goes_ Try.func17 (by kernel_rfl) rfl #[.agg #[.int .i64 a0_0, .int .i64 a0_1, .int .i64 a0_2, .int .i64 a0_3], .slice Ao103 t358.length co103] (by rfl) rfl rfl (by (try simp only [List.map_toArray, List.map_cons, List.map_nil]); first | done | rfl | (simp only [List.length_drop, List.length_take]; rfl)) ?_
             with_reducible refine (count_Steps.calls kj2 a0_0 a0_1 a0_2 a0_3 _ _ t358 t361 t362 t363 t364 _ ?side1 ?side2 A15.out).mono ?_
             (case side1 => repeat (first | exact (Kd.R_reads' HO360.out).2.2 | (with_reducible refine Kd.C_alloc ?_ _) | (with_reducible refine Kd.C_drewN ?_ _) | (with_reducible refine Kd.C_drew ?_)))
             (case side2 => exact (Kd.R_reads' HO360.out).2.1)
             rintro e w104 ⟨rfl, hb⟩
             refine ⟨_, rfl, ?_⟩
             have n0_ := aM (Kd.R_below (by (with_reducible repeat (first | apply rA | apply rN | apply rW)); exact HO360.out) hb)
             have n1_ := aM (blk_below (g := gb355) (o := .cells #[.int .i64 a0_0, .int .i64 a0_1, .int .i64 a0_2, .int .i64 a0_3] 23 (0, 0)) (by (with_reducible repeat (first | refine bN ?_ _ | refine bW ?_ | refine bA ?_ _)); exact BK355.out) hb)
             have n2_ := aM (blk_below (g := gb365) (o := .cells #[.int .i64 0, .int .i64 0, .int .i64 0, .int .i64 0] 23 (0, 0)) (by (with_reducible repeat (first | refine bN ?_ _ | refine bW ?_ | refine bA ?_ _)); exact BK365.out) hb)
             have n3_ := aM (below_step (by repeat (first | (with_reducible first | exact HB.out | apply lA | apply lN | apply lW | refine lS ?_ GE355.out | refine lS ?_ GE365.out) | exact HB.out)) hb)
             clear HO360
             clear BK355
             clear BK365
             clear HB
             have HO360 := n0_
             have BK355 := n1_
             have BK365 := n2_
             have HB := n3_
             clear n0_ n1_ n2_ n3_
             (try clear hb)
             (try clear hb2)
             (try clear hk)
             (try clear hi)
             refine hK.out _ _ ⟨(blk_cell BK355.out 0).trans rfl, (blk_cell BK355.out 1).trans rfl, (blk_cell BK355.out 2).trans rfl, (blk_cell BK355.out 3).trans rfl⟩ (fun hHeld => ?_)
             clear hK K
             refine norm_ (a' := ?_) ?_ ?_
             rotate_left
             ·show Act.put _ (some 26) _ = _
              simp only [Act.put, sT, sZ, sS, i64_w, i32_w]
              rfl
             exact norm_ (by simp only [putAll, Act.put, sT, sZ, sS]) (hCont (.slice Ao103 t358.length co103, gb365) _ ⟨hHeld, (by (with_reducible repeat (first | apply rA | apply rN | apply rW)); exact HO360.out), (by (with_reducible repeat (first | refine bN ?_ _ | refine bW ?_ | refine bA ?_ _)); exact BK355.out), (by (with_reducible repeat (first | refine bN ?_ _ | refine bW ?_ | refine bA ?_ _)); exact BK365.out), GW365.out, GE365.out, NB355_365.out, NB365_355.out, (by repeat (first | (with_reducible first | exact HB.out | apply lA | apply lN | apply lW | refine lS ?_ GE355.out | refine lS ?_ GE365.out) | exact HB.out))⟩)
           ·skip
            refine box_step ?hg (N := 5) ?hd (cs := #[.int .i64 0, .int .i64 0, .int .i64 0, .int .i64 0]) (t := 23) ?hr ?_; (case hd => rfl); (case hg => rfl); (case hr => first | (go_simp; done) | (go_simp; rfl))
            intro gb365 hg w101 hbox hb
            have n0_ := aM (blk_below (g := gb355) (o := .cells #[.int .i64 a0_0, .int .i64 a0_1, .int .i64 a0_2, .int .i64 a0_3] 23 (0, 0)) (by (with_reducible repeat (first | refine bN ?_ _ | refine bW ?_ | refine bA ?_ _)); exact BK355.out) hb)
            have n1_ := aM (below_step (by repeat (first | (with_reducible first | exact HB.out | apply lA | apply lN | apply lW | refine lS ?_ GE355.out) | exact HB.out)) hb)
            have n2_ := aM (hbox)
            have n3_ := aM ((by rw [hg]; exact (below_size (by repeat (first | (with_reducible first | exact HB.out | apply lA | apply lN | apply lW | refine lS ?_ GE355.out) | exact HB.out))) : w.heap.size ≤ gb365))
            have n4_ := aM ((by rw [hg]; exact (below_size (by repeat (first | (with_reducible first | exact HB.out | apply lA | apply lN | apply lW | refine lS ?_ GE355.out) | exact HB.out))) : w.heap.size ≤ gb365))
            have n5_ := aM ((by rw [hg]; exact Nat.ne_of_lt (blk_lt (g := gb355) (o := .cells #[.int .i64 a0_0, .int .i64 a0_1, .int .i64 a0_2, .int .i64 a0_3] 23 (0, 0)) (by (with_reducible repeat (first | refine bN ?_ _ | refine bW ?_ | refine bA ?_ _)); exact BK355.out)) : gb355 ≠ gb365))
            have n6_ := aM ((by rw [hg]; exact Nat.ne_of_gt (blk_lt (g := gb355) (o := .cells #[.int .i64 a0_0, .int .i64 a0_1, .int .i64 a0_2, .int .i64 a0_3] 23 (0, 0)) (by (with_reducible repeat (first | refine bN ?_ _ | refine bW ?_ | refine bA ?_ _)); exact BK355.out)) : gb365 ≠ gb355))
            clear BK355
            clear HB
            have BK355 := n0_
            have HB := n1_
            have BK365 := n2_
            have GW365 := n3_
            have GE365 := n4_
            have NB355_365 := n5_
            have NB365_355 := n6_
            clear n0_ n1_ n2_ n3_ n4_ n5_ n6_
            clear hb hbox hg
            refine hK.out _ _ ⟨(blk_cell BK355.out 0).trans rfl, (blk_cell BK355.out 1).trans rfl, (blk_cell BK355.out 2).trans rfl, (blk_cell BK355.out 3).trans rfl⟩ (fun hHeld => ?_)
            clear hK K
            refine norm_ (a' := ?_) ?_ ?_
            rotate_left
            ·show Act.put _ (some 5) _ = _
             simp only [Act.put, sT, sZ, sS, i64_w, i32_w]
             rfl
            refine one_ (i := 2) (N := some 25) #[true, true, true, false, true, false] rfl rfl (by kernel_rfl) (by decide) (fun K hK => ?_)
            refine goes_ Try.func19 (by kernel_rfl) rfl #[.int .i64 3, .int .i64 (wrap64 (Int.tdiv (wrap64 ((wrap64 (256 - a0_0)) + 7)) 8))] (by rfl) rfl rfl (by (try simp only [List.map_toArray, List.map_cons, List.map_nil]); first | done | rfl | (simp only [List.length_drop, List.length_take]; rfl)) ?_
            with_reducible refine (phaetonlaw08_times.calls kj2 3 (wrap64 (Int.tdiv (wrap64 ((wrap64 (256 - a0_0)) + 7)) 8)) t358 _ A14.out).mono ?_
            rintro e w102 ⟨v359, rfl, ho0, hb⟩
            refine ⟨_, rfl, ?_⟩
            have n0_ := aM (Kd.R_lower ho0 (below_size (by repeat (first | (with_reducible first | exact HB.out | apply lA | apply lN | apply lW | refine lS ?_ GE355.out | refine lS ?_ GE365.out) | exact HB.out))))
            have n1_ := aM (blk_below (g := gb355) (o := .cells #[.int .i64 a0_0, .int .i64 a0_1, .int .i64 a0_2, .int .i64 a0_3] 23 (0, 0)) (by (with_reducible repeat (first | refine bN ?_ _ | refine bW ?_ | refine bA ?_ _)); exact BK355.out) hb)
            have n2_ := aM (blk_below (g := gb365) (o := .cells #[.int .i64 0, .int .i64 0, .int .i64 0, .int .i64 0] 23 (0, 0)) (by (with_reducible repeat (first | refine bN ?_ _ | refine bW ?_ | refine bA ?_ _)); exact BK365.out) hb)
            have n3_ := aM (below_step (by repeat (first | (with_reducible first | exact HB.out | apply lA | apply lN | apply lW | refine lS ?_ GE355.out | refine lS ?_ GE365.out) | exact HB.out)) hb)
            clear BK355
            clear BK365
            clear HB
            have HO360 := n0_
            have BK355 := n1_
            have BK365 := n2_
            have HB := n3_
            clear n0_ n1_ n2_ n3_
            (try clear hb)
            (try clear hb2)
            (try clear hk)
            (try clear hi)
            (try clear ho0)
            obtain ⟨Ao103, co103, eo103⟩ := Kd.R_slice HO360.out
            (first | subst eo103 | (injection eo103 with f1_ f2_ f3_; have f4_ := f1_.symm; have f5_ := f3_.symm; clear f1_ f2_ f3_; subst f4_; subst f5_))
            refine hK.out _ _ ⟨(blk_cell BK355.out 0).trans rfl, (blk_cell BK355.out 1).trans rfl, (blk_cell BK355.out 2).trans rfl, (blk_cell BK355.out 3).trans rfl⟩ (fun hHeld => ?_)
            clear hK K
            refine norm_ (a' := ?_) ?_ ?_
            rotate_left
            ·show Act.put _ (some 25) _ = _
             simp only [Act.put, sT, sZ, sS, i64_w, i32_w]
             rfl
            refine one_ (i := 3) (N := some 26) #[true, true, true, true, true, false] rfl rfl (by kernel_rfl) (by decide) (fun K hK => ?_)
            refine goes_ Try.func17 (by kernel_rfl) rfl #[.agg #[.int .i64 a0_0, .int .i64 a0_1, .int .i64 a0_2, .int .i64 a0_3], .slice Ao103 t358.length co103] (by rfl) rfl rfl (by (try simp only [List.map_toArray, List.map_cons, List.map_nil]); first | done | rfl | (simp only [List.length_drop, List.length_take]; rfl)) ?_
            with_reducible refine (count_Steps.calls kj2 a0_0 a0_1 a0_2 a0_3 _ _ t358 t361 t362 t363 t364 _ ?side1 ?side2 A15.out).mono ?_
            (case side1 => repeat (first | exact (Kd.R_reads' HO360.out).2.2 | (with_reducible refine Kd.C_alloc ?_ _) | (with_reducible refine Kd.C_drewN ?_ _) | (with_reducible refine Kd.C_drew ?_)))
            (case side2 => exact (Kd.R_reads' HO360.out).2.1)
            rintro e w104 ⟨rfl, hb⟩
            refine ⟨_, rfl, ?_⟩
            have n0_ := aM (Kd.R_below (by (with_reducible repeat (first | apply rA | apply rN | apply rW)); exact HO360.out) hb)
            have n1_ := aM (blk_below (g := gb355) (o := .cells #[.int .i64 a0_0, .int .i64 a0_1, .int .i64 a0_2, .int .i64 a0_3] 23 (0, 0)) (by (with_reducible repeat (first | refine bN ?_ _ | refine bW ?_ | refine bA ?_ _)); exact BK355.out) hb)
            have n2_ := aM (blk_below (g := gb365) (o := .cells #[.int .i64 0, .int .i64 0, .int .i64 0, .int .i64 0] 23 (0, 0)) (by (with_reducible repeat (first | refine bN ?_ _ | refine bW ?_ | refine bA ?_ _)); exact BK365.out) hb)
            have n3_ := aM (below_step (by repeat (first | (with_reducible first | exact HB.out | apply lA | apply lN | apply lW | refine lS ?_ GE355.out | refine lS ?_ GE365.out) | exact HB.out)) hb)
            clear HO360
            clear BK355
            clear BK365
            clear HB
            have HO360 := n0_
            have BK355 := n1_
            have BK365 := n2_
            have HB := n3_
            clear n0_ n1_ n2_ n3_
            (try clear hb)
            (try clear hb2)
            (try clear hk)
            (try clear hi)
            refine hK.out _ _ ⟨(blk_cell BK355.out 0).trans rfl, (blk_cell BK355.out 1).trans rfl, (blk_cell BK355.out 2).trans rfl, (blk_cell BK355.out 3).trans rfl⟩ (fun hHeld => ?_)
            clear hK K
            refine norm_ (a' := ?_) ?_ ?_
            rotate_left
            ·show Act.put _ (some 26) _ = _
             simp only [Act.put, sT, sZ, sS, i64_w, i32_w]
             rfl
            exact norm_ (by simp only [putAll, Act.put, sT, sZ, sS]) (hCont (.slice Ao103 t358.length co103, gb365) _ ⟨hHeld, (by (with_reducible repeat (first | apply rA | apply rN | apply rW)); exact HO360.out), (by (with_reducible repeat (first | refine bN ?_ _ | refine bW ?_ | refine bA ?_ _)); exact BK355.out), (by (with_reducible repeat (first | refine bN ?_ _ | refine bW ?_ | refine bA ?_ _)); exact BK365.out), GW365.out, GE365.out, NB355_365.out, NB365_355.out, (by repeat (first | (with_reducible first | exact HB.out | apply lA | apply lN | apply lW | refine lS ?_ GE355.out | refine lS ?_ GE365.out) | exact HB.out))⟩)
          rintro ⟨v359, gb365⟩ w105 ⟨hS_, h0_, h1_, h2_, h3_, h4_, h5_, h6_, h7_⟩
          have n0_ : Aside0 (Kd.R (Kd.int .i64) 3 w105 w.heap.size (fun _ => True) v359 t358) := ⟨h0_⟩
          have n1_ : Aside0 (w105.heap[gb355]? = some (.cells #[.int .i64 a0_0, .int .i64 a0_1, .int .i64 a0_2, .int .i64 a0_3] 23 (0, 0))) := ⟨h1_⟩
          have n2_ : Aside0 (w105.heap[gb365]? = some (.cells #[.int .i64 0, .int .i64 0, .int .i64 0, .int .i64 0] 23 (0, 0))) := ⟨h2_⟩
          have n3_ : Aside0 (w.heap.size ≤ gb365) := ⟨h3_⟩
          have n4_ : Aside0 (w.heap.size ≤ gb365) := ⟨h4_⟩
          have n5_ : Aside0 (gb355 ≠ gb365) := ⟨h5_⟩
          have n6_ : Aside0 (gb365 ≠ gb355) := ⟨h6_⟩
          have n7_ : Aside0 (Below w.heap.size w w105) := ⟨h7_⟩
          clear BK355
          clear HB
          clear h0_ h1_ h2_ h3_ h4_ h5_ h6_ h7_
          have HO360 := n0_
          have BK355 := n1_
          have BK365 := n2_
          have GW365 := n3_
          have GE365 := n4_
          have NB355_365 := n5_
          have NB365_355 := n6_
          have HB := n7_
          clear n0_ n1_ n2_ n3_ n4_ n5_ n6_ n7_
          have hHeld : w105.cell? ⟨gb355, 0, none⟩ = some (.int .i64 a0_0) ∧ w105.cell? ⟨gb355, 1, none⟩ = some (.int .i64 a0_1) ∧ w105.cell? ⟨gb355, 2, none⟩ = some (.int .i64 a0_2) ∧ w105.cell? ⟨gb355, 3, none⟩ = some (.int .i64 a0_3) := hS_
          refine norm_ (a' := ?_) ?_ ?_
          rotate_left
          ·simp only [putAll, Act.put, sT, sZ, sS]
           rfl
          refine one_ (i := 5) (N := none) #[true, true, true, true, true, true] rfl rfl (by kernel_rfl) (by decide) (fun K hK => ?_)
          have hs106 : w105.cell? ⟨gb365, 0, none⟩ = some (.int .i64 0) := (blk_cell BK365.out 0).trans rfl
          have hfs106 := blk_frozen BK365.out 0
          have hns106_0 := NB355_365.out
          have hms106_0 := NB365_355.out
          have hs107 : w105.cell? ⟨gb365, 1, none⟩ = some (.int .i64 0) := (blk_cell BK365.out 1).trans rfl
          have hfs107 := blk_frozen BK365.out 1
          have hns107_0 := NB355_365.out
          have hms107_0 := NB365_355.out
          have hs108 : w105.cell? ⟨gb365, 2, none⟩ = some (.int .i64 0) := (blk_cell BK365.out 2).trans rfl
          have hfs108 := blk_frozen BK365.out 2
          have hns108_0 := NB355_365.out
          have hms108_0 := NB365_355.out
          have hs109 : w105.cell? ⟨gb365, 3, none⟩ = some (.int .i64 0) := (blk_cell BK365.out 3).trans rfl
          have hfs109 := blk_frozen BK365.out 3
          have hns109_0 := NB355_365.out
          have hms109_0 := NB365_355.out
          refine skip_ (w1 := ?_) (by rfl) rfl ?_ ?_
          rotate_left
          ·go_simp
           rfl
          refine hK.out _ _ ⟨((cell_far (p := ⟨gb365, _, none⟩) NB355_365.out _).trans (((cell_far (p := ⟨gb365, _, none⟩) NB355_365.out _).trans (((cell_far (p := ⟨gb365, _, none⟩) NB355_365.out _).trans (((cell_far (p := ⟨gb365, _, none⟩) NB355_365.out _).trans (hHeld.1)))))))), ((cell_far (p := ⟨gb365, _, none⟩) NB355_365.out _).trans (((cell_far (p := ⟨gb365, _, none⟩) NB355_365.out _).trans (((cell_far (p := ⟨gb365, _, none⟩) NB355_365.out _).trans (((cell_far (p := ⟨gb365, _, none⟩) NB355_365.out _).trans (hHeld.2.1)))))))), ((cell_far (p := ⟨gb365, _, none⟩) NB355_365.out _).trans (((cell_far (p := ⟨gb365, _, none⟩) NB355_365.out _).trans (((cell_far (p := ⟨gb365, _, none⟩) NB355_365.out _).trans (((cell_far (p := ⟨gb365, _, none⟩) NB355_365.out _).trans (hHeld.2.2.1)))))))), ((cell_far (p := ⟨gb365, _, none⟩) NB355_365.out _).trans (((cell_far (p := ⟨gb365, _, none⟩) NB355_365.out _).trans (((cell_far (p := ⟨gb365, _, none⟩) NB355_365.out _).trans (((cell_far (p := ⟨gb365, _, none⟩) NB355_365.out _).trans (hHeld.2.2.2))))))))⟩ (fun hHeld => ?_)
          clear hK K
          refine done_ (by kernel_rfl) ?_
          try go_wp2
          have n0_ : Aside0 (Kd.R (Kd.int .i64) 3 ((((w105.setCell ⟨gb365, 0, none⟩ (.int .i64 t361)).setCell ⟨gb365, 1, none⟩ (.int .i64 t362)).setCell ⟨gb365, 2, none⟩ (.int .i64 t363)).setCell ⟨gb365, 3, none⟩ (.int .i64 t364)) w.heap.size (fun _ => True) v359 t358) := ⟨by (with_reducible repeat (first | apply rA | apply rN | apply rW)); exact Kd.R_mono (Kd.R_far (p := ⟨gb365, 3, none⟩) (Kd.R_far (p := ⟨gb365, 2, none⟩) (Kd.R_far (p := ⟨gb365, 1, none⟩) (Kd.R_far (p := ⟨gb365, 0, none⟩) (Kd.R_types HO360.out BK365.out (by decide)) (fun _ hk => hk.2) (.int .i64 t361)) (fun _ hk => hk.2) (.int .i64 t362)) (fun _ hk => hk.2) (.int .i64 t363)) (fun _ hk => hk.2) (.int .i64 t364)) (fun _ hk => trivial)⟩
          have n1_ : Aside0 (((((w105.setCell ⟨gb365, 0, none⟩ (.int .i64 t361)).setCell ⟨gb365, 1, none⟩ (.int .i64 t362)).setCell ⟨gb365, 2, none⟩ (.int .i64 t363)).setCell ⟨gb365, 3, none⟩ (.int .i64 t364)).heap[gb355]? = some (.cells #[.int .i64 a0_0, .int .i64 a0_1, .int .i64 a0_2, .int .i64 a0_3] 23 (0, 0))) := ⟨by (with_reducible repeat (first | refine bN ?_ _ | refine bW ?_ | refine bA ?_ _)); refine blk_far ?_ NB355_365.out _; (with_reducible repeat (first | refine bN ?_ _ | refine bW ?_ | refine bA ?_ _)); refine blk_far ?_ NB355_365.out _; (with_reducible repeat (first | refine bN ?_ _ | refine bW ?_ | refine bA ?_ _)); refine blk_far ?_ NB355_365.out _; (with_reducible repeat (first | refine bN ?_ _ | refine bW ?_ | refine bA ?_ _)); refine blk_far ?_ NB355_365.out _; (with_reducible repeat (first | refine bN ?_ _ | refine bW ?_ | refine bA ?_ _)); exact BK355.out⟩
          have n2_ : Aside0 (((((w105.setCell ⟨gb365, 0, none⟩ (.int .i64 t361)).setCell ⟨gb365, 1, none⟩ (.int .i64 t362)).setCell ⟨gb365, 2, none⟩ (.int .i64 t363)).setCell ⟨gb365, 3, none⟩ (.int .i64 t364)).heap[gb365]? = some (.cells #[.int .i64 t361, .int .i64 t362, .int .i64 t363, .int .i64 t364] 23 (0, 0))) := ⟨by (with_reducible repeat (first | refine bN ?_ _ | refine bW ?_ | refine bA ?_ _)); refine blk_put (cs := #[.int .i64 t361, .int .i64 t362, .int .i64 t363, .int .i64 0]) ?_ 3 _ rfl; (with_reducible repeat (first | refine bN ?_ _ | refine bW ?_ | refine bA ?_ _)); refine blk_put (cs := #[.int .i64 t361, .int .i64 t362, .int .i64 0, .int .i64 0]) ?_ 2 _ rfl; (with_reducible repeat (first | refine bN ?_ _ | refine bW ?_ | refine bA ?_ _)); refine blk_put (cs := #[.int .i64 t361, .int .i64 0, .int .i64 0, .int .i64 0]) ?_ 1 _ rfl; (with_reducible repeat (first | refine bN ?_ _ | refine bW ?_ | refine bA ?_ _)); refine blk_put (cs := #[.int .i64 0, .int .i64 0, .int .i64 0, .int .i64 0]) ?_ 0 _ rfl; (with_reducible repeat (first | refine bN ?_ _ | refine bW ?_ | refine bA ?_ _)); exact BK365.out⟩
          have n3_ : Aside0 (Below w.heap.size w ((((w105.setCell ⟨gb365, 0, none⟩ (.int .i64 t361)).setCell ⟨gb365, 1, none⟩ (.int .i64 t362)).setCell ⟨gb365, 2, none⟩ (.int .i64 t363)).setCell ⟨gb365, 3, none⟩ (.int .i64 t364))) := ⟨by repeat (first | (with_reducible first | exact HB.out | apply lA | apply lN | apply lW | refine lS ?_ GE355.out | refine lS ?_ GE365.out) | exact HB.out)⟩
          (try clear HO360)
          (try clear BK355)
          (try clear BK365)
          (try clear HB)
          generalize ((((w105.setCell ⟨gb365, 0, none⟩ (.int .i64 t361)).setCell ⟨gb365, 1, none⟩ (.int .i64 t362)).setCell ⟨gb365, 2, none⟩ (.int .i64 t363)).setCell ⟨gb365, 3, none⟩ (.int .i64 t364)) = w110 at n0_ n1_ n2_ n3_ ⊢
          have HO360 := n0_
          have BK355 := n1_
          have BK365 := n2_
          have HB := n3_
          clear n0_ n1_ n2_ n3_
          have n0_ := aM (rW HO360.out)
          have n1_ := aM (bW BK355.out)
          have n2_ := aM (bW BK365.out)
          have n3_ := aM (lW HB.out)
          clear HO360
          clear BK355
          clear BK365
          clear HB
          have HO360 := n0_
          have BK355 := n1_
          have BK365 := n2_
          have HB := n3_
          clear n0_ n1_ n2_ n3_
          refine start_ (n := 7) (S := fun w' => w'.cell? ⟨gb355, 0, none⟩ = some (.int .i64 a0_0) ∧ w'.cell? ⟨gb355, 1, none⟩ = some (.int .i64 a0_1) ∧ w'.cell? ⟨gb355, 2, none⟩ = some (.int .i64 a0_2) ∧ w'.cell? ⟨gb355, 3, none⟩ = some (.int .i64 a0_3)) (ds := []) #[false, false, false, false, false, false, false] (by kernel_rfl) rfl rfl ⟨(blk_cell BK355.out 0).trans rfl, (blk_cell BK355.out 1).trans rfl, (blk_cell BK355.out 2).trans rfl, (blk_cell BK355.out 3).trans rfl⟩ (fun hHeld => ?_)
          generalize w110.drew = w111 at HO360 BK355 BK365 HB hHeld ⊢
          refine pure_ (i := 1) (N := some 28) (v := ?_) (a' := ?_) #[false, true, false, false, false, false, false] rfl rfl (by kernel_rfl) (fun _ _ _ h => h) (Or.inl ⟨by rfl, ?_⟩) ?_ ?_
          rotate_left
          ·intro w'
           go_simp
           with_reducible rfl
          rotate_left
          ·simp only [Act.put, sT, sZ, sS, i64_w, i32_w]
           rfl
          refine pure_ (i := 2) (N := some 29) (v := ?_) (a' := ?_) #[false, true, true, false, false, false, false] rfl rfl (by kernel_rfl) (fun _ _ _ h => h) (Or.inl ⟨by rfl, ?_⟩) ?_ ?_
          rotate_left
          ·intro w'
           go_simp
           with_reducible rfl
          rotate_left
          ·simp only [Act.put, sT, sZ, sS, i64_w, i32_w]
           rfl
          refine take_ (i := 0) (N := some 27) (v := ?_) (a' := ?_) #[true, true, true, false, false, false, false] rfl rfl (by kernel_rfl) (fun _ _ _ h => h) (Or.inl ⟨by rfl, ?_⟩) hHeld ?_ ?_
          rotate_left
          ·rintro w' ⟨s0, s1, s2, s3⟩
           go_simp
           with_reducible rfl
          rotate_left
          ·simp only [Act.put, sT, sZ, sS, i64_w, i32_w]
           rfl
          refine join_ (σ := Value × Nat) 1 #[true, true, true, true, true, true, false] (fun s_ => [(30, s_.1), (31, .agg #[.int .i64 t369, .int .i64 t370, .int .i64 t371, .int .i64 t372]), (6, .pointer (some ⟨s_.2, 0, none⟩))]) (fun s_ w' => (w'.cell? ⟨gb355, 0, none⟩ = some (.int .i64 a0_0) ∧ w'.cell? ⟨gb355, 1, none⟩ = some (.int .i64 a0_1) ∧ w'.cell? ⟨gb355, 2, none⟩ = some (.int .i64 a0_2) ∧ w'.cell? ⟨gb355, 3, none⟩ = some (.int .i64 a0_3)) ∧ (Kd.R (Kd.int .i64) 3 w' w.heap.size (fun k_ => some k_ ≠ (s_.1 : Value).ownBlock) v359 t358) ∧ (Kd.R (Kd.int .i64) 3 w' w.heap.size (fun k_ => some k_ ≠ (v359 : Value).ownBlock) s_.1 t366) ∧ (w'.heap[gb355]? = some (.cells #[.int .i64 a0_0, .int .i64 a0_1, .int .i64 a0_2, .int .i64 a0_3] 23 (0, 0))) ∧ (w'.heap[gb365]? = some (.cells #[.int .i64 t361, .int .i64 t362, .int .i64 t363, .int .i64 t364] 23 (0, 0))) ∧ (w'.heap[s_.2]? = some (.cells #[.int .i64 0, .int .i64 0, .int .i64 0, .int .i64 0] 23 (0, 0))) ∧ (w.heap.size ≤ s_.2) ∧ (w.heap.size ≤ s_.2) ∧ (gb355 ≠ s_.2) ∧ (s_.2 ≠ gb355) ∧ (gb365 ≠ s_.2) ∧ (s_.2 ≠ gb365) ∧ (Below w.heap.size w w')) ?_ ?_
          rotate_left
          ·intro hCont
           refine two_ (i := 3) (j := 5) (Ni := some 30) (Nj := some 6) #[true, true, true, true, false, false, false] #[true, true, true, false, false, true, false] rfl rfl rfl rfl (by kernel_rfl) (by decide) (by decide) (fun K hK => ?_) (fun K hK => ?_)
           ·skip
            refine goes_ Try.func19 (by kernel_rfl) rfl #[.int .i64 3, .int .i64 (wrap64 ((wrap64 (Int.tdiv (wrap64 ((wrap64 (256 - a0_0)) + 7)) 8)) - 1))] (by rfl) rfl rfl (by (try simp only [List.map_toArray, List.map_cons, List.map_nil]); first | done | rfl | (simp only [List.length_drop, List.length_take]; rfl)) ?_
            with_reducible refine (phaetonlaw08_times.calls kj2 3 (wrap64 ((wrap64 (Int.tdiv (wrap64 ((wrap64 (256 - a0_0)) + 7)) 8)) - 1)) t366 _ A16.out).mono ?_
            rintro e w112 ⟨v367, rfl, ho0, hb⟩
            refine ⟨_, rfl, ?_⟩
            have n0_ := aM (Kd.R_elder' (by (with_reducible repeat (first | apply rA | apply rN | apply rW)); exact HO360.out) (Kd.R_base ho0) hb)
            have n1_ := aM (Kd.R_lower (Kd.R_new' ho0 (Kd.R_lt (by (with_reducible repeat (first | apply rA | apply rN | apply rW)); exact HO360.out))) (below_size (by repeat (first | (with_reducible first | exact HB.out | apply lA | apply lN | apply lW | refine lS ?_ GE355.out | refine lS ?_ GE365.out) | exact HB.out))))
            have n2_ := aM (blk_below (g := gb355) (o := .cells #[.int .i64 a0_0, .int .i64 a0_1, .int .i64 a0_2, .int .i64 a0_3] 23 (0, 0)) (by (with_reducible repeat (first | refine bN ?_ _ | refine bW ?_ | refine bA ?_ _)); exact BK355.out) hb)
            have n3_ := aM (blk_below (g := gb365) (o := .cells #[.int .i64 t361, .int .i64 t362, .int .i64 t363, .int .i64 t364] 23 (0, 0)) (by (with_reducible repeat (first | refine bN ?_ _ | refine bW ?_ | refine bA ?_ _)); exact BK365.out) hb)
            have n4_ := aM (below_step (by repeat (first | (with_reducible first | exact HB.out | apply lA | apply lN | apply lW | refine lS ?_ GE355.out | refine lS ?_ GE365.out) | exact HB.out)) hb)
            clear HO360
            clear BK355
            clear BK365
            clear HB
            have HO360 := n0_
            have HO368 := n1_
            have BK355 := n2_
            have BK365 := n3_
            have HB := n4_
            clear n0_ n1_ n2_ n3_ n4_
            (try clear hb)
            (try clear hb2)
            (try clear hk)
            (try clear hi)
            (try clear ho0)
            obtain ⟨Ao113, co113, eo113⟩ := Kd.R_slice HO368.out
            (first | subst eo113 | (injection eo113 with f1_ f2_ f3_; have f4_ := f1_.symm; have f5_ := f3_.symm; clear f1_ f2_ f3_; subst f4_; subst f5_))
            refine hK.out _ _ ⟨(blk_cell BK355.out 0).trans rfl, (blk_cell BK355.out 1).trans rfl, (blk_cell BK355.out 2).trans rfl, (blk_cell BK355.out 3).trans rfl⟩ (fun hHeld => ?_)
            clear hK K
            refine norm_ (a' := ?_) ?_ ?_
            rotate_left
            ·show Act.put _ (some 30) _ = _
             simp only [Act.put, sT, sZ, sS, i64_w, i32_w]
             rfl
            refine two_ (i := 4) (j := 5) (Ni := some 31) (Nj := some 6) #[true, true, true, true, true, false, false] #[true, true, true, true, false, true, false] rfl rfl rfl rfl (by kernel_rfl) (by decide) (by decide) (fun K hK => ?_) (fun K hK => ?_)
            ·skip
             refine goes_ Try.func17 (by kernel_rfl) rfl #[.agg #[.int .i64 a0_0, .int .i64 a0_1, .int .i64 a0_2, .int .i64 a0_3], .slice Ao113 t366.length co113] (by rfl) rfl rfl (by (try simp only [List.map_toArray, List.map_cons, List.map_nil]); first | done | rfl | (simp only [List.length_drop, List.length_take]; rfl)) ?_
             with_reducible refine (count_Steps.calls kj2 a0_0 a0_1 a0_2 a0_3 _ _ t366 t369 t370 t371 t372 _ ?side1 ?side2 A17.out).mono ?_
             (case side1 => repeat (first | exact (Kd.R_reads' HO368.out).2.2 | (with_reducible refine Kd.C_alloc ?_ _) | (with_reducible refine Kd.C_drewN ?_ _) | (with_reducible refine Kd.C_drew ?_)))
             (case side2 => exact (Kd.R_reads' HO368.out).2.1)
             rintro e w114 ⟨rfl, hb⟩
             refine ⟨_, rfl, ?_⟩
             have n0_ := aM (Kd.R_below (by (with_reducible repeat (first | apply rA | apply rN | apply rW)); exact HO360.out) hb)
             have n1_ := aM (Kd.R_below (by (with_reducible repeat (first | apply rA | apply rN | apply rW)); exact HO368.out) hb)
             have n2_ := aM (blk_below (g := gb355) (o := .cells #[.int .i64 a0_0, .int .i64 a0_1, .int .i64 a0_2, .int .i64 a0_3] 23 (0, 0)) (by (with_reducible repeat (first | refine bN ?_ _ | refine bW ?_ | refine bA ?_ _)); exact BK355.out) hb)
             have n3_ := aM (blk_below (g := gb365) (o := .cells #[.int .i64 t361, .int .i64 t362, .int .i64 t363, .int .i64 t364] 23 (0, 0)) (by (with_reducible repeat (first | refine bN ?_ _ | refine bW ?_ | refine bA ?_ _)); exact BK365.out) hb)
             have n4_ := aM (below_step (by repeat (first | (with_reducible first | exact HB.out | apply lA | apply lN | apply lW | refine lS ?_ GE355.out | refine lS ?_ GE365.out) | exact HB.out)) hb)
             clear HO360
             clear HO368
             clear BK355
             clear BK365
             clear HB
             have HO360 := n0_
             have HO368 := n1_
             have BK355 := n2_
             have BK365 := n3_
             have HB := n4_
             clear n0_ n1_ n2_ n3_ n4_
             (try clear hb)
             (try clear hb2)
             (try clear hk)
             (try clear hi)
             refine hK.out _ _ ⟨(blk_cell BK355.out 0).trans rfl, (blk_cell BK355.out 1).trans rfl, (blk_cell BK355.out 2).trans rfl, (blk_cell BK355.out 3).trans rfl⟩ (fun hHeld => ?_)
             clear hK K
             refine norm_ (a' := ?_) ?_ ?_
             rotate_left
             ·show Act.put _ (some 31) _ = _
              simp only [Act.put, sT, sZ, sS, i64_w, i32_w]
              rfl
             refine one_ (i := 5) (N := some 6) #[true, true, true, true, true, true, false] rfl rfl (by kernel_rfl) (by decide) (fun K hK => ?_)
             refine box_step ?hg (N := 6) ?hd (cs := #[.int .i64 0, .int .i64 0, .int .i64 0, .int .i64 0]) (t := 23) ?hr ?_; (case hd => rfl); (case hg => rfl); (case hr => first | (go_simp; done) | (go_simp; rfl))
             intro gb373 hg w115 hbox hb
             have n0_ := aM (Kd.R_below (by (with_reducible repeat (first | apply rA | apply rN | apply rW)); exact HO360.out) hb)
             have n1_ := aM (Kd.R_below (by (with_reducible repeat (first | apply rA | apply rN | apply rW)); exact HO368.out) hb)
             have n2_ := aM (blk_below (g := gb355) (o := .cells #[.int .i64 a0_0, .int .i64 a0_1, .int .i64 a0_2, .int .i64 a0_3] 23 (0, 0)) (by (with_reducible repeat (first | refine bN ?_ _ | refine bW ?_ | refine bA ?_ _)); exact BK355.out) hb)
             have n3_ := aM (blk_below (g := gb365) (o := .cells #[.int .i64 t361, .int .i64 t362, .int .i64 t363, .int .i64 t364] 23 (0, 0)) (by (with_reducible repeat (first | refine bN ?_ _ | refine bW ?_ | refine bA ?_ _)); exact BK365.out) hb)
             have n4_ := aM (below_step (by repeat (first | (with_reducible first | exact HB.out | apply lA | apply lN | apply lW | refine lS ?_ GE355.out | refine lS ?_ GE365.out) | exact HB.out)) hb)
             have n5_ := aM (hbox)
             have n6_ := aM ((by rw [hg]; exact (below_size (by repeat (first | (with_reducible first | exact HB.out | apply lA | apply lN | apply lW | refine lS ?_ GE355.out | refine lS ?_ GE365.out) | exact HB.out))) : w.heap.size ≤ gb373))
             have n7_ := aM ((by rw [hg]; exact (below_size (by repeat (first | (with_reducible first | exact HB.out | apply lA | apply lN | apply lW | refine lS ?_ GE355.out | refine lS ?_ GE365.out) | exact HB.out))) : w.heap.size ≤ gb373))
             have n8_ := aM ((by rw [hg]; exact Nat.ne_of_lt (blk_lt (g := gb355) (o := .cells #[.int .i64 a0_0, .int .i64 a0_1, .int .i64 a0_2, .int .i64 a0_3] 23 (0, 0)) (by (with_reducible repeat (first | refine bN ?_ _ | refine bW ?_ | refine bA ?_ _)); exact BK355.out)) : gb355 ≠ gb373))
             have n9_ := aM ((by rw [hg]; exact Nat.ne_of_gt (blk_lt (g := gb355) (o := .cells #[.int .i64 a0_0, .int .i64 a0_1, .int .i64 a0_2, .int .i64 a0_3] 23 (0, 0)) (by (with_reducible repeat (first | refine bN ?_ _ | refine bW ?_ | refine bA ?_ _)); exact BK355.out)) : gb373 ≠ gb355))
             have n10_ := aM ((by rw [hg]; exact Nat.ne_of_lt (blk_lt (g := gb365) (o := .cells #[.int .i64 t361, .int .i64 t362, .int .i64 t363, .int .i64 t364] 23 (0, 0)) (by (with_reducible repeat (first | refine bN ?_ _ | refine bW ?_ | refine bA ?_ _)); exact BK365.out)) : gb365 ≠ gb373))
             have n11_ := aM ((by rw [hg]; exact Nat.ne_of_gt (blk_lt (g := gb365) (o := .cells #[.int .i64 t361, .int .i64 t362, .int .i64 t363, .int .i64 t364] 23 (0, 0)) (by (with_reducible repeat (first | refine bN ?_ _ | refine bW ?_ | refine bA ?_ _)); exact BK365.out)) : gb373 ≠ gb365))
             clear HO360
             clear HO368
             clear BK355
             clear BK365
             clear HB
             have HO360 := n0_
             have HO368 := n1_
             have BK355 := n2_
             have BK365 := n3_
             have HB := n4_
             have BK373 := n5_
             have GW373 := n6_
             have GE373 := n7_
             have NB355_373 := n8_
             have NB373_355 := n9_
             have NB365_373 := n10_
             have NB373_365 := n11_
             clear n0_ n1_ n2_ n3_ n4_ n5_ n6_ n7_ n8_ n9_ n10_ n11_
             clear hb hbox hg
             refine hK.out _ _ ⟨(blk_cell BK355.out 0).trans rfl, (blk_cell BK355.out 1).trans rfl, (blk_cell BK355.out 2).trans rfl, (blk_cell BK355.out 3).trans rfl⟩ (fun hHeld => ?_)
             clear hK K
             refine norm_ (a' := ?_) ?_ ?_
             rotate_left
             ·show Act.put _ (some 6) _ = _
              simp only [Act.put, sT, sZ, sS, i64_w, i32_w]
              rfl
             exact norm_ (by simp only [putAll, Act.put, sT, sZ, sS]) (hCont (.slice Ao113 t366.length co113, gb373) _ ⟨hHeld, (by (with_reducible repeat (first | apply rA | apply rN | apply rW)); exact Kd.R_mono HO360.out (fun _ hk => hk.2)), (by (with_reducible repeat (first | apply rA | apply rN | apply rW)); exact Kd.R_mono HO368.out (fun _ hk => hk.2)), (by (with_reducible repeat (first | refine bN ?_ _ | refine bW ?_ | refine bA ?_ _)); exact BK355.out), (by (with_reducible repeat (first | refine bN ?_ _ | refine bW ?_ | refine bA ?_ _)); exact BK365.out), (by (with_reducible repeat (first | refine bN ?_ _ | refine bW ?_ | refine bA ?_ _)); exact BK373.out), GW373.out, GE373.out, NB355_373.out, NB373_355.out, NB365_373.out, NB373_365.out, (by repeat (first | (with_reducible first | exact HB.out | apply lA | apply lN | apply lW | refine lS ?_ GE355.out | refine lS ?_ GE365.out | refine lS ?_ GE373.out) | exact HB.out))⟩)
            ·skip
             refine box_step ?hg (N := 6) ?hd (cs := #[.int .i64 0, .int .i64 0, .int .i64 0, .int .i64 0]) (t := 23) ?hr ?_; (case hd => rfl); (case hg => rfl); (case hr => first | (go_simp; done) | (go_simp; rfl))
             intro gb373 hg w113 hbox hb
             have n0_ := aM (Kd.R_below (by (with_reducible repeat (first | apply rA | apply rN | apply rW)); exact HO360.out) hb)
             have n1_ := aM (Kd.R_below (by (with_reducible repeat (first | apply rA | apply rN | apply rW)); exact HO368.out) hb)
             have n2_ := aM (blk_below (g := gb355) (o := .cells #[.int .i64 a0_0, .int .i64 a0_1, .int .i64 a0_2, .int .i64 a0_3] 23 (0, 0)) (by (with_reducible repeat (first | refine bN ?_ _ | refine bW ?_ | refine bA ?_ _)); exact BK355.out) hb)
             have n3_ := aM (blk_below (g := gb365) (o := .cells #[.int .i64 t361, .int .i64 t362, .int .i64 t363, .int .i64 t364] 23 (0, 0)) (by (with_reducible repeat (first | refine bN ?_ _ | refine bW ?_ | refine bA ?_ _)); exact BK365.out) hb)
             have n4_ := aM (below_step (by repeat (first | (with_reducible first | exact HB.out | apply lA | apply lN | apply lW | refine lS ?_ GE355.out | refine lS ?_ GE365.out) | exact HB.out)) hb)
             have n5_ := aM (hbox)
             have n6_ := aM ((by rw [hg]; exact (below_size (by repeat (first | (with_reducible first | exact HB.out | apply lA | apply lN | apply lW | refine lS ?_ GE355.out | refine lS ?_ GE365.out) | exact HB.out))) : w.heap.size ≤ gb373))
             have n7_ := aM ((by rw [hg]; exact (below_size (by repeat (first | (with_reducible first | exact HB.out | apply lA | apply lN | apply lW | refine lS ?_ GE355.out | refine lS ?_ GE365.out) | exact HB.out))) : w.heap.size ≤ gb373))
             have n8_ := aM ((by rw [hg]; exact Nat.ne_of_lt (blk_lt (g := gb355) (o := .cells #[.int .i64 a0_0, .int .i64 a0_1, .int .i64 a0_2, .int .i64 a0_3] 23 (0, 0)) (by (with_reducible repeat (first | refine bN ?_ _ | refine bW ?_ | refine bA ?_ _)); exact BK355.out)) : gb355 ≠ gb373))
             have n9_ := aM ((by rw [hg]; exact Nat.ne_of_gt (blk_lt (g := gb355) (o := .cells #[.int .i64 a0_0, .int .i64 a0_1, .int .i64 a0_2, .int .i64 a0_3] 23 (0, 0)) (by (with_reducible repeat (first | refine bN ?_ _ | refine bW ?_ | refine bA ?_ _)); exact BK355.out)) : gb373 ≠ gb355))
             have n10_ := aM ((by rw [hg]; exact Nat.ne_of_lt (blk_lt (g := gb365) (o := .cells #[.int .i64 t361, .int .i64 t362, .int .i64 t363, .int .i64 t364] 23 (0, 0)) (by (with_reducible repeat (first | refine bN ?_ _ | refine bW ?_ | refine bA ?_ _)); exact BK365.out)) : gb365 ≠ gb373))
             have n11_ := aM ((by rw [hg]; exact Nat.ne_of_gt (blk_lt (g := gb365) (o := .cells #[.int .i64 t361, .int .i64 t362, .int .i64 t363, .int .i64 t364] 23 (0, 0)) (by (with_reducible repeat (first | refine bN ?_ _ | refine bW ?_ | refine bA ?_ _)); exact BK365.out)) : gb373 ≠ gb365))
             clear HO360
             clear HO368
             clear BK355
             clear BK365
             clear HB
             have HO360 := n0_
             have HO368 := n1_
             have BK355 := n2_
             have BK365 := n3_
             have HB := n4_
             have BK373 := n5_
             have GW373 := n6_
             have GE373 := n7_
             have NB355_373 := n8_
             have NB373_355 := n9_
             have NB365_373 := n10_
             have NB373_365 := n11_
             clear n0_ n1_ n2_ n3_ n4_ n5_ n6_ n7_ n8_ n9_ n10_ n11_
             clear hb hbox hg
             obtain ⟨Ao114, co114, eo114⟩ := Kd.R_slice HO368.out
             (first | subst eo114 | (injection eo114 with f1_ f2_ f3_; have f4_ := f1_.symm; have f5_ := f3_.symm; clear f1_ f2_ f3_; subst f4_; subst f5_))
             refine hK.out _ _ ⟨(blk_cell BK355.out 0).trans rfl, (blk_cell BK355.out 1).trans rfl, (blk_cell BK355.out 2).trans rfl, (blk_cell BK355.out 3).trans rfl⟩ (fun hHeld => ?_)
             clear hK K
             refine norm_ (a' := ?_) ?_ ?_
             rotate_left
             ·show Act.put _ (some 6) _ = _
              simp only [Act.put, sT, sZ, sS, i64_w, i32_w]
              rfl
             refine one_ (i := 4) (N := some 31) #[true, true, true, true, true, true, false] rfl rfl (by kernel_rfl) (by decide) (fun K hK => ?_)
             refine goes_ Try.func17 (by kernel_rfl) rfl #[.agg #[.int .i64 a0_0, .int .i64 a0_1, .int .i64 a0_2, .int .i64 a0_3], .slice Ao114 t366.length co114] (by rfl) rfl rfl (by (try simp only [List.map_toArray, List.map_cons, List.map_nil]); first | done | rfl | (simp only [List.length_drop, List.length_take]; rfl)) ?_
             with_reducible refine (count_Steps.calls kj2 a0_0 a0_1 a0_2 a0_3 _ _ t366 t369 t370 t371 t372 _ ?side1 ?side2 A17.out).mono ?_
             (case side1 => repeat (first | exact (Kd.R_reads' HO368.out).2.2 | (with_reducible refine Kd.C_alloc ?_ _) | (with_reducible refine Kd.C_drewN ?_ _) | (with_reducible refine Kd.C_drew ?_)))
             (case side2 => exact (Kd.R_reads' HO368.out).2.1)
             rintro e w115 ⟨rfl, hb⟩
             refine ⟨_, rfl, ?_⟩
             have n0_ := aM (Kd.R_below (by (with_reducible repeat (first | apply rA | apply rN | apply rW)); exact HO360.out) hb)
             have n1_ := aM (Kd.R_below (by (with_reducible repeat (first | apply rA | apply rN | apply rW)); exact HO368.out) hb)
             have n2_ := aM (blk_below (g := gb355) (o := .cells #[.int .i64 a0_0, .int .i64 a0_1, .int .i64 a0_2, .int .i64 a0_3] 23 (0, 0)) (by (with_reducible repeat (first | refine bN ?_ _ | refine bW ?_ | refine bA ?_ _)); exact BK355.out) hb)
             have n3_ := aM (blk_below (g := gb365) (o := .cells #[.int .i64 t361, .int .i64 t362, .int .i64 t363, .int .i64 t364] 23 (0, 0)) (by (with_reducible repeat (first | refine bN ?_ _ | refine bW ?_ | refine bA ?_ _)); exact BK365.out) hb)
             have n4_ := aM (blk_below (g := gb373) (o := .cells #[.int .i64 0, .int .i64 0, .int .i64 0, .int .i64 0] 23 (0, 0)) (by (with_reducible repeat (first | refine bN ?_ _ | refine bW ?_ | refine bA ?_ _)); exact BK373.out) hb)
             have n5_ := aM (below_step (by repeat (first | (with_reducible first | exact HB.out | apply lA | apply lN | apply lW | refine lS ?_ GE355.out | refine lS ?_ GE365.out | refine lS ?_ GE373.out) | exact HB.out)) hb)
             clear HO360
             clear HO368
             clear BK355
             clear BK365
             clear BK373
             clear HB
             have HO360 := n0_
             have HO368 := n1_
             have BK355 := n2_
             have BK365 := n3_
             have BK373 := n4_
             have HB := n5_
             clear n0_ n1_ n2_ n3_ n4_ n5_
             (try clear hb)
             (try clear hb2)
             (try clear hk)
             (try clear hi)
             refine hK.out _ _ ⟨(blk_cell BK355.out 0).trans rfl, (blk_cell BK355.out 1).trans rfl, (blk_cell BK355.out 2).trans rfl, (blk_cell BK355.out 3).trans rfl⟩ (fun hHeld => ?_)
             clear hK K
             refine norm_ (a' := ?_) ?_ ?_
             rotate_left
             ·show Act.put _ (some 31) _ = _
              simp only [Act.put, sT, sZ, sS, i64_w, i32_w]
              rfl
             exact norm_ (by simp only [putAll, Act.put, sT, sZ, sS]) (hCont (.slice Ao114 t366.length co114, gb373) _ ⟨hHeld, (by (with_reducible repeat (first | apply rA | apply rN | apply rW)); exact Kd.R_mono HO360.out (fun _ hk => hk.2)), (by (with_reducible repeat (first | apply rA | apply rN | apply rW)); exact Kd.R_mono HO368.out (fun _ hk => hk.2)), (by (with_reducible repeat (first | refine bN ?_ _ | refine bW ?_ | refine bA ?_ _)); exact BK355.out), (by (with_reducible repeat (first | refine bN ?_ _ | refine bW ?_ | refine bA ?_ _)); exact BK365.out), (by (with_reducible repeat (first | refine bN ?_ _ | refine bW ?_ | refine bA ?_ _)); exact BK373.out), GW373.out, GE373.out, NB355_373.out, NB373_355.out, NB365_373.out, NB373_365.out, (by repeat (first | (with_reducible first | exact HB.out | apply lA | apply lN | apply lW | refine lS ?_ GE355.out | refine lS ?_ GE365.out | refine lS ?_ GE373.out) | exact HB.out))⟩)
           ·skip
            refine box_step ?hg (N := 6) ?hd (cs := #[.int .i64 0, .int .i64 0, .int .i64 0, .int .i64 0]) (t := 23) ?hr ?_; (case hd => rfl); (case hg => rfl); (case hr => first | (go_simp; done) | (go_simp; rfl))
            intro gb373 hg w112 hbox hb
            have n0_ := aM (Kd.R_below (by (with_reducible repeat (first | apply rA | apply rN | apply rW)); exact HO360.out) hb)
            have n1_ := aM (blk_below (g := gb355) (o := .cells #[.int .i64 a0_0, .int .i64 a0_1, .int .i64 a0_2, .int .i64 a0_3] 23 (0, 0)) (by (with_reducible repeat (first | refine bN ?_ _ | refine bW ?_ | refine bA ?_ _)); exact BK355.out) hb)
            have n2_ := aM (blk_below (g := gb365) (o := .cells #[.int .i64 t361, .int .i64 t362, .int .i64 t363, .int .i64 t364] 23 (0, 0)) (by (with_reducible repeat (first | refine bN ?_ _ | refine bW ?_ | refine bA ?_ _)); exact BK365.out) hb)
            have n3_ := aM (below_step (by repeat (first | (with_reducible first | exact HB.out | apply lA | apply lN | apply lW | refine lS ?_ GE355.out | refine lS ?_ GE365.out) | exact HB.out)) hb)
            have n4_ := aM (hbox)
            have n5_ := aM ((by rw [hg]; exact (below_size (by repeat (first | (with_reducible first | exact HB.out | apply lA | apply lN | apply lW | refine lS ?_ GE355.out | refine lS ?_ GE365.out) | exact HB.out))) : w.heap.size ≤ gb373))
            have n6_ := aM ((by rw [hg]; exact (below_size (by repeat (first | (with_reducible first | exact HB.out | apply lA | apply lN | apply lW | refine lS ?_ GE355.out | refine lS ?_ GE365.out) | exact HB.out))) : w.heap.size ≤ gb373))
            have n7_ := aM ((by rw [hg]; exact Nat.ne_of_lt (blk_lt (g := gb355) (o := .cells #[.int .i64 a0_0, .int .i64 a0_1, .int .i64 a0_2, .int .i64 a0_3] 23 (0, 0)) (by (with_reducible repeat (first | refine bN ?_ _ | refine bW ?_ | refine bA ?_ _)); exact BK355.out)) : gb355 ≠ gb373))
            have n8_ := aM ((by rw [hg]; exact Nat.ne_of_gt (blk_lt (g := gb355) (o := .cells #[.int .i64 a0_0, .int .i64 a0_1, .int .i64 a0_2, .int .i64 a0_3] 23 (0, 0)) (by (with_reducible repeat (first | refine bN ?_ _ | refine bW ?_ | refine bA ?_ _)); exact BK355.out)) : gb373 ≠ gb355))
            have n9_ := aM ((by rw [hg]; exact Nat.ne_of_lt (blk_lt (g := gb365) (o := .cells #[.int .i64 t361, .int .i64 t362, .int .i64 t363, .int .i64 t364] 23 (0, 0)) (by (with_reducible repeat (first | refine bN ?_ _ | refine bW ?_ | refine bA ?_ _)); exact BK365.out)) : gb365 ≠ gb373))
            have n10_ := aM ((by rw [hg]; exact Nat.ne_of_gt (blk_lt (g := gb365) (o := .cells #[.int .i64 t361, .int .i64 t362, .int .i64 t363, .int .i64 t364] 23 (0, 0)) (by (with_reducible repeat (first | refine bN ?_ _ | refine bW ?_ | refine bA ?_ _)); exact BK365.out)) : gb373 ≠ gb365))
            clear HO360
            clear BK355
            clear BK365
            clear HB
            have HO360 := n0_
            have BK355 := n1_
            have BK365 := n2_
            have HB := n3_
            have BK373 := n4_
            have GW373 := n5_
            have GE373 := n6_
            have NB355_373 := n7_
            have NB373_355 := n8_
            have NB365_373 := n9_
            have NB373_365 := n10_
            clear n0_ n1_ n2_ n3_ n4_ n5_ n6_ n7_ n8_ n9_ n10_
            clear hb hbox hg
            refine hK.out _ _ ⟨(blk_cell BK355.out 0).trans rfl, (blk_cell BK355.out 1).trans rfl, (blk_cell BK355.out 2).trans rfl, (blk_cell BK355.out 3).trans rfl⟩ (fun hHeld => ?_)
            clear hK K
            refine norm_ (a' := ?_) ?_ ?_
            rotate_left
            ·show Act.put _ (some 6) _ = _
             simp only [Act.put, sT, sZ, sS, i64_w, i32_w]
             rfl
            refine one_ (i := 3) (N := some 30) #[true, true, true, true, false, true, false] rfl rfl (by kernel_rfl) (by decide) (fun K hK => ?_)
            refine goes_ Try.func19 (by kernel_rfl) rfl #[.int .i64 3, .int .i64 (wrap64 ((wrap64 (Int.tdiv (wrap64 ((wrap64 (256 - a0_0)) + 7)) 8)) - 1))] (by rfl) rfl rfl (by (try simp only [List.map_toArray, List.map_cons, List.map_nil]); first | done | rfl | (simp only [List.length_drop, List.length_take]; rfl)) ?_
            with_reducible refine (phaetonlaw08_times.calls kj2 3 (wrap64 ((wrap64 (Int.tdiv (wrap64 ((wrap64 (256 - a0_0)) + 7)) 8)) - 1)) t366 _ A16.out).mono ?_
            rintro e w113 ⟨v367, rfl, ho0, hb⟩
            refine ⟨_, rfl, ?_⟩
            have n0_ := aM (Kd.R_elder' (by (with_reducible repeat (first | apply rA | apply rN | apply rW)); exact HO360.out) (Kd.R_base ho0) hb)
            have n1_ := aM (Kd.R_lower (Kd.R_new' ho0 (Kd.R_lt (by (with_reducible repeat (first | apply rA | apply rN | apply rW)); exact HO360.out))) (below_size (by repeat (first | (with_reducible first | exact HB.out | apply lA | apply lN | apply lW | refine lS ?_ GE355.out | refine lS ?_ GE365.out | refine lS ?_ GE373.out) | exact HB.out))))
            have n2_ := aM (blk_below (g := gb355) (o := .cells #[.int .i64 a0_0, .int .i64 a0_1, .int .i64 a0_2, .int .i64 a0_3] 23 (0, 0)) (by (with_reducible repeat (first | refine bN ?_ _ | refine bW ?_ | refine bA ?_ _)); exact BK355.out) hb)
            have n3_ := aM (blk_below (g := gb365) (o := .cells #[.int .i64 t361, .int .i64 t362, .int .i64 t363, .int .i64 t364] 23 (0, 0)) (by (with_reducible repeat (first | refine bN ?_ _ | refine bW ?_ | refine bA ?_ _)); exact BK365.out) hb)
            have n4_ := aM (blk_below (g := gb373) (o := .cells #[.int .i64 0, .int .i64 0, .int .i64 0, .int .i64 0] 23 (0, 0)) (by (with_reducible repeat (first | refine bN ?_ _ | refine bW ?_ | refine bA ?_ _)); exact BK373.out) hb)
            have n5_ := aM (below_step (by repeat (first | (with_reducible first | exact HB.out | apply lA | apply lN | apply lW | refine lS ?_ GE355.out | refine lS ?_ GE365.out | refine lS ?_ GE373.out) | exact HB.out)) hb)
            clear HO360
            clear BK355
            clear BK365
            clear BK373
            clear HB
            have HO360 := n0_
            have HO368 := n1_
            have BK355 := n2_
            have BK365 := n3_
            have BK373 := n4_
            have HB := n5_
            clear n0_ n1_ n2_ n3_ n4_ n5_
            (try clear hb)
            (try clear hb2)
            (try clear hk)
            (try clear hi)
            (try clear ho0)
            obtain ⟨Ao114, co114, eo114⟩ := Kd.R_slice HO368.out
            (first | subst eo114 | (injection eo114 with f1_ f2_ f3_; have f4_ := f1_.symm; have f5_ := f3_.symm; clear f1_ f2_ f3_; subst f4_; subst f5_))
            refine hK.out _ _ ⟨(blk_cell BK355.out 0).trans rfl, (blk_cell BK355.out 1).trans rfl, (blk_cell BK355.out 2).trans rfl, (blk_cell BK355.out 3).trans rfl⟩ (fun hHeld => ?_)
            clear hK K
            refine norm_ (a' := ?_) ?_ ?_
            rotate_left
            ·show Act.put _ (some 30) _ = _
             simp only [Act.put, sT, sZ, sS, i64_w, i32_w]
             rfl
            refine one_ (i := 4) (N := some 31) #[true, true, true, true, true, true, false] rfl rfl (by kernel_rfl) (by decide) (fun K hK => ?_)
            refine goes_ Try.func17 (by kernel_rfl) rfl #[.agg #[.int .i64 a0_0, .int .i64 a0_1, .int .i64 a0_2, .int .i64 a0_3], .slice Ao114 t366.length co114] (by rfl) rfl rfl (by (try simp only [List.map_toArray, List.map_cons, List.map_nil]); first | done | rfl | (simp only [List.length_drop, List.length_take]; rfl)) ?_
            with_reducible refine (count_Steps.calls kj2 a0_0 a0_1 a0_2 a0_3 _ _ t366 t369 t370 t371 t372 _ ?side1 ?side2 A17.out).mono ?_
            (case side1 => repeat (first | exact (Kd.R_reads' HO368.out).2.2 | (with_reducible refine Kd.C_alloc ?_ _) | (with_reducible refine Kd.C_drewN ?_ _) | (with_reducible refine Kd.C_drew ?_)))
            (case side2 => exact (Kd.R_reads' HO368.out).2.1)
            rintro e w115 ⟨rfl, hb⟩
            refine ⟨_, rfl, ?_⟩
            have n0_ := aM (Kd.R_below (by (with_reducible repeat (first | apply rA | apply rN | apply rW)); exact HO360.out) hb)
            have n1_ := aM (Kd.R_below (by (with_reducible repeat (first | apply rA | apply rN | apply rW)); exact HO368.out) hb)
            have n2_ := aM (blk_below (g := gb355) (o := .cells #[.int .i64 a0_0, .int .i64 a0_1, .int .i64 a0_2, .int .i64 a0_3] 23 (0, 0)) (by (with_reducible repeat (first | refine bN ?_ _ | refine bW ?_ | refine bA ?_ _)); exact BK355.out) hb)
            have n3_ := aM (blk_below (g := gb365) (o := .cells #[.int .i64 t361, .int .i64 t362, .int .i64 t363, .int .i64 t364] 23 (0, 0)) (by (with_reducible repeat (first | refine bN ?_ _ | refine bW ?_ | refine bA ?_ _)); exact BK365.out) hb)
            have n4_ := aM (blk_below (g := gb373) (o := .cells #[.int .i64 0, .int .i64 0, .int .i64 0, .int .i64 0] 23 (0, 0)) (by (with_reducible repeat (first | refine bN ?_ _ | refine bW ?_ | refine bA ?_ _)); exact BK373.out) hb)
            have n5_ := aM (below_step (by repeat (first | (with_reducible first | exact HB.out | apply lA | apply lN | apply lW | refine lS ?_ GE355.out | refine lS ?_ GE365.out | refine lS ?_ GE373.out) | exact HB.out)) hb)
            clear HO360
            clear HO368
            clear BK355
            clear BK365
            clear BK373
            clear HB
            have HO360 := n0_
            have HO368 := n1_
            have BK355 := n2_
            have BK365 := n3_
            have BK373 := n4_
            have HB := n5_
            clear n0_ n1_ n2_ n3_ n4_ n5_
            (try clear hb)
            (try clear hb2)
            (try clear hk)
            (try clear hi)
            refine hK.out _ _ ⟨(blk_cell BK355.out 0).trans rfl, (blk_cell BK355.out 1).trans rfl, (blk_cell BK355.out 2).trans rfl, (blk_cell BK355.out 3).trans rfl⟩ (fun hHeld => ?_)
            clear hK K
            refine norm_ (a' := ?_) ?_ ?_
            rotate_left
            ·show Act.put _ (some 31) _ = _
             simp only [Act.put, sT, sZ, sS, i64_w, i32_w]
             rfl
            exact norm_ (by simp only [putAll, Act.put, sT, sZ, sS]) (hCont (.slice Ao114 t366.length co114, gb373) _ ⟨hHeld, (by (with_reducible repeat (first | apply rA | apply rN | apply rW)); exact Kd.R_mono HO360.out (fun _ hk => hk.2)), (by (with_reducible repeat (first | apply rA | apply rN | apply rW)); exact Kd.R_mono HO368.out (fun _ hk => hk.2)), (by (with_reducible repeat (first | refine bN ?_ _ | refine bW ?_ | refine bA ?_ _)); exact BK355.out), (by (with_reducible repeat (first | refine bN ?_ _ | refine bW ?_ | refine bA ?_ _)); exact BK365.out), (by (with_reducible repeat (first | refine bN ?_ _ | refine bW ?_ | refine bA ?_ _)); exact BK373.out), GW373.out, GE373.out, NB355_373.out, NB373_355.out, NB365_373.out, NB373_365.out, (by repeat (first | (with_reducible first | exact HB.out | apply lA | apply lN | apply lW | refine lS ?_ GE355.out | refine lS ?_ GE365.out | refine lS ?_ GE373.out) | exact HB.out))⟩)
          rintro ⟨v367, gb373⟩ w116 ⟨hS_, h0_, h1_, h2_, h3_, h4_, h5_, h6_, h7_, h8_, h9_, h10_, h11_⟩
          have n0_ : Aside0 (Kd.R (Kd.int .i64) 3 w116 w.heap.size (fun k_ => some k_ ≠ (v367 : Value).ownBlock) v359 t358) := ⟨h0_⟩
          have n1_ : Aside0 (Kd.R (Kd.int .i64) 3 w116 w.heap.size (fun k_ => some k_ ≠ (v359 : Value).ownBlock) v367 t366) := ⟨h1_⟩
          have n2_ : Aside0 (w116.heap[gb355]? = some (.cells #[.int .i64 a0_0, .int .i64 a0_1, .int .i64 a0_2, .int .i64 a0_3] 23 (0, 0))) := ⟨h2_⟩
          have n3_ : Aside0 (w116.heap[gb365]? = some (.cells #[.int .i64 t361, .int .i64 t362, .int .i64 t363, .int .i64 t364] 23 (0, 0))) := ⟨h3_⟩
          have n4_ : Aside0 (w116.heap[gb373]? = some (.cells #[.int .i64 0, .int .i64 0, .int .i64 0, .int .i64 0] 23 (0, 0))) := ⟨h4_⟩
          have n5_ : Aside0 (w.heap.size ≤ gb373) := ⟨h5_⟩
          have n6_ : Aside0 (w.heap.size ≤ gb373) := ⟨h6_⟩
          have n7_ : Aside0 (gb355 ≠ gb373) := ⟨h7_⟩
          have n8_ : Aside0 (gb373 ≠ gb355) := ⟨h8_⟩
          have n9_ : Aside0 (gb365 ≠ gb373) := ⟨h9_⟩
          have n10_ : Aside0 (gb373 ≠ gb365) := ⟨h10_⟩
          have n11_ : Aside0 (Below w.heap.size w w116) := ⟨h11_⟩
          clear HO360
          clear BK355
          clear BK365
          clear HB
          clear h0_ h1_ h2_ h3_ h4_ h5_ h6_ h7_ h8_ h9_ h10_ h11_
          have HO360 := n0_
          have HO368 := n1_
          have BK355 := n2_
          have BK365 := n3_
          have BK373 := n4_
          have GW373 := n5_
          have GE373 := n6_
          have NB355_373 := n7_
          have NB373_355 := n8_
          have NB365_373 := n9_
          have NB373_365 := n10_
          have HB := n11_
          clear n0_ n1_ n2_ n3_ n4_ n5_ n6_ n7_ n8_ n9_ n10_ n11_
          have hHeld : w116.cell? ⟨gb355, 0, none⟩ = some (.int .i64 a0_0) ∧ w116.cell? ⟨gb355, 1, none⟩ = some (.int .i64 a0_1) ∧ w116.cell? ⟨gb355, 2, none⟩ = some (.int .i64 a0_2) ∧ w116.cell? ⟨gb355, 3, none⟩ = some (.int .i64 a0_3) := hS_
          refine norm_ (a' := ?_) ?_ ?_
          rotate_left
          ·simp only [putAll, Act.put, sT, sZ, sS]
           rfl
          refine one_ (i := 6) (N := none) #[true, true, true, true, true, true, true] rfl rfl (by kernel_rfl) (by decide) (fun K hK => ?_)
          have hs117 : w116.cell? ⟨gb373, 0, none⟩ = some (.int .i64 0) := (blk_cell BK373.out 0).trans rfl
          have hfs117 := blk_frozen BK373.out 0
          have hns117_0 := NB355_373.out
          have hns117_1 := NB365_373.out
          have hms117_0 := NB373_355.out
          have hms117_1 := NB373_365.out
          have hs118 : w116.cell? ⟨gb373, 1, none⟩ = some (.int .i64 0) := (blk_cell BK373.out 1).trans rfl
          have hfs118 := blk_frozen BK373.out 1
          have hns118_0 := NB355_373.out
          have hns118_1 := NB365_373.out
          have hms118_0 := NB373_355.out
          have hms118_1 := NB373_365.out
          have hs119 : w116.cell? ⟨gb373, 2, none⟩ = some (.int .i64 0) := (blk_cell BK373.out 2).trans rfl
          have hfs119 := blk_frozen BK373.out 2
          have hns119_0 := NB355_373.out
          have hns119_1 := NB365_373.out
          have hms119_0 := NB373_355.out
          have hms119_1 := NB373_365.out
          have hs120 : w116.cell? ⟨gb373, 3, none⟩ = some (.int .i64 0) := (blk_cell BK373.out 3).trans rfl
          have hfs120 := blk_frozen BK373.out 3
          have hns120_0 := NB355_373.out
          have hns120_1 := NB365_373.out
          have hms120_0 := NB373_355.out
          have hms120_1 := NB373_365.out
          refine skip_ (w1 := ?_) (by rfl) rfl ?_ ?_
          rotate_left
          ·go_simp
           rfl
          refine hK.out _ _ ⟨((cell_far (p := ⟨gb373, _, none⟩) NB355_373.out _).trans (((cell_far (p := ⟨gb373, _, none⟩) NB355_373.out _).trans (((cell_far (p := ⟨gb373, _, none⟩) NB355_373.out _).trans (((cell_far (p := ⟨gb373, _, none⟩) NB355_373.out _).trans (hHeld.1)))))))), ((cell_far (p := ⟨gb373, _, none⟩) NB355_373.out _).trans (((cell_far (p := ⟨gb373, _, none⟩) NB355_373.out _).trans (((cell_far (p := ⟨gb373, _, none⟩) NB355_373.out _).trans (((cell_far (p := ⟨gb373, _, none⟩) NB355_373.out _).trans (hHeld.2.1)))))))), ((cell_far (p := ⟨gb373, _, none⟩) NB355_373.out _).trans (((cell_far (p := ⟨gb373, _, none⟩) NB355_373.out _).trans (((cell_far (p := ⟨gb373, _, none⟩) NB355_373.out _).trans (((cell_far (p := ⟨gb373, _, none⟩) NB355_373.out _).trans (hHeld.2.2.1)))))))), ((cell_far (p := ⟨gb373, _, none⟩) NB355_373.out _).trans (((cell_far (p := ⟨gb373, _, none⟩) NB355_373.out _).trans (((cell_far (p := ⟨gb373, _, none⟩) NB355_373.out _).trans (((cell_far (p := ⟨gb373, _, none⟩) NB355_373.out _).trans (hHeld.2.2.2))))))))⟩ (fun hHeld => ?_)
          clear hK K
          refine done_ (by kernel_rfl) ?_
          have hnb121 := NB355_365.out
          have hnc121 := NB365_355.out
          have hnb122 := NB355_373.out
          have hnc122 := NB373_355.out
          have hcz123_0 : w116.cell? ⟨gb355, 0, none⟩ = some (.int .i64 a0_0) := (blk_cell BK355.out 0).trans rfl
          have hcz123_1 : w116.cell? ⟨gb355, 1, none⟩ = some (.int .i64 a0_1) := (blk_cell BK355.out 1).trans rfl
          have hcz123_2 : w116.cell? ⟨gb355, 2, none⟩ = some (.int .i64 a0_2) := (blk_cell BK355.out 2).trans rfl
          have hcz123_3 : w116.cell? ⟨gb355, 3, none⟩ = some (.int .i64 a0_3) := (blk_cell BK355.out 3).trans rfl
          have hfz123_0 := blk_frozen BK355.out 0
          have hfz123_1 := blk_frozen BK355.out 1
          have hfz123_2 := blk_frozen BK355.out 2
          have hfz123_3 := blk_frozen BK355.out 3
          try go_wp2_with (first | ((with_reducible refine gate_callee (f := 15) rfl ?_); refine goesL_ (some 33) rfl rfl Try.func15 (by kernel_rfl) rfl #[.agg #[.int .i64 a0_0, .int .i64 a0_1, .int .i64 a0_2, .int .i64 a0_3], .int .i64 3] rfl (by (try simp only [List.map_toArray, List.map_cons, List.map_nil]); first | done | rfl | (simp only [List.length_drop, List.length_take]; rfl)) ?_; (with_reducible refine (count_Step.calls a0_0 a0_1 a0_2 a0_3 3 t374 t375 t376 t377 _ A18.out).mono ?_); rintro e w124 ⟨rfl, hb⟩; refine ⟨_, rfl, ?_⟩; have n0_ := aM (Kd.R_below (by (with_reducible repeat (first | apply rA | apply rN | apply rW)); exact (Kd.R_mono (Kd.R_far (p := ⟨gb373, 3, none⟩) (Kd.R_far (p := ⟨gb373, 2, none⟩) (Kd.R_far (p := ⟨gb373, 1, none⟩) (Kd.R_far (p := ⟨gb373, 0, none⟩) (Kd.R_types HO360.out BK373.out (by decide)) (fun _ hk => hk.2) (.int .i64 t369)) (fun _ hk => hk.2) (.int .i64 t370)) (fun _ hk => hk.2) (.int .i64 t371)) (fun _ hk => hk.2) (.int .i64 t372)) (fun _ h_ => h_.1))) hb); have n1_ := aM (Kd.R_below (by (with_reducible repeat (first | apply rA | apply rN | apply rW)); exact (Kd.R_mono (Kd.R_far (p := ⟨gb373, 3, none⟩) (Kd.R_far (p := ⟨gb373, 2, none⟩) (Kd.R_far (p := ⟨gb373, 1, none⟩) (Kd.R_far (p := ⟨gb373, 0, none⟩) (Kd.R_types HO368.out BK373.out (by decide)) (fun _ hk => hk.2) (.int .i64 t369)) (fun _ hk => hk.2) (.int .i64 t370)) (fun _ hk => hk.2) (.int .i64 t371)) (fun _ hk => hk.2) (.int .i64 t372)) (fun _ h_ => h_.1))) hb); have n2_ := aM (blk_below (g := gb355) (o := .cells #[.int .i64 a0_0, .int .i64 a0_1, .int .i64 a0_2, .int .i64 a0_3] 23 (0, 0)) (by (with_reducible repeat (first | refine bN ?_ _ | refine bW ?_ | refine bA ?_ _)); refine blk_far ?_ NB355_373.out _; (with_reducible repeat (first | refine bN ?_ _ | refine bW ?_ | refine bA ?_ _)); refine blk_far ?_ NB355_373.out _; (with_reducible repeat (first | refine bN ?_ _ | refine bW ?_ | refine bA ?_ _)); refine blk_far ?_ NB355_373.out _; (with_reducible repeat (first | refine bN ?_ _ | refine bW ?_ | refine bA ?_ _)); refine blk_far ?_ NB355_373.out _; (with_reducible repeat (first | refine bN ?_ _ | refine bW ?_ | refine bA ?_ _)); exact BK355.out) hb); have n3_ := aM (blk_below (g := gb365) (o := .cells #[.int .i64 t361, .int .i64 t362, .int .i64 t363, .int .i64 t364] 23 (0, 0)) (by (with_reducible repeat (first | refine bN ?_ _ | refine bW ?_ | refine bA ?_ _)); refine blk_far ?_ NB365_373.out _; (with_reducible repeat (first | refine bN ?_ _ | refine bW ?_ | refine bA ?_ _)); refine blk_far ?_ NB365_373.out _; (with_reducible repeat (first | refine bN ?_ _ | refine bW ?_ | refine bA ?_ _)); refine blk_far ?_ NB365_373.out _; (with_reducible repeat (first | refine bN ?_ _ | refine bW ?_ | refine bA ?_ _)); refine blk_far ?_ NB365_373.out _; (with_reducible repeat (first | refine bN ?_ _ | refine bW ?_ | refine bA ?_ _)); exact BK365.out) hb); have n4_ := aM (blk_below (g := gb373) (o := .cells #[.int .i64 t369, .int .i64 t370, .int .i64 t371, .int .i64 t372] 23 (0, 0)) (by (with_reducible repeat (first | refine bN ?_ _ | refine bW ?_ | refine bA ?_ _)); refine blk_put (cs := #[.int .i64 t369, .int .i64 t370, .int .i64 t371, .int .i64 0]) ?_ 3 _ rfl; (with_reducible repeat (first | refine bN ?_ _ | refine bW ?_ | refine bA ?_ _)); refine blk_put (cs := #[.int .i64 t369, .int .i64 t370, .int .i64 0, .int .i64 0]) ?_ 2 _ rfl; (with_reducible repeat (first | refine bN ?_ _ | refine bW ?_ | refine bA ?_ _)); refine blk_put (cs := #[.int .i64 t369, .int .i64 0, .int .i64 0, .int .i64 0]) ?_ 1 _ rfl; (with_reducible repeat (first | refine bN ?_ _ | refine bW ?_ | refine bA ?_ _)); refine blk_put (cs := #[.int .i64 0, .int .i64 0, .int .i64 0, .int .i64 0]) ?_ 0 _ rfl; (with_reducible repeat (first | refine bN ?_ _ | refine bW ?_ | refine bA ?_ _)); exact BK373.out) hb); have n5_ := aM (below_step (by repeat (first | (with_reducible first | exact HB.out | apply lA | apply lN | apply lW | refine lS ?_ GE355.out | refine lS ?_ GE365.out | refine lS ?_ GE373.out) | exact HB.out)) hb); clear HO360; clear HO368; clear BK355; clear BK365; clear BK373; clear HB; have HO360 := n0_; have HO368 := n1_; have BK355 := n2_; have BK365 := n3_; have BK373 := n4_; have HB := n5_; clear n0_ n1_ n2_ n3_ n4_ n5_; (try clear hb); (try clear hb2); (try clear hk); (try clear hi)) | ((with_reducible refine gate_callee (f := 15) rfl ?_); refine goesL_ (some 34) rfl rfl Try.func15 (by kernel_rfl) rfl #[.agg #[.int .i64 t374, .int .i64 t375, .int .i64 t376, .int .i64 t377], .int .i64 1] rfl (by (try simp only [List.map_toArray, List.map_cons, List.map_nil]); first | done | rfl | (simp only [List.length_drop, List.length_take]; rfl)) ?_; (with_reducible refine (count_Step.calls t374 t375 t376 t377 1 t378 t379 t380 t381 _ A19.out).mono ?_); rintro e w125 ⟨rfl, hb⟩; refine ⟨_, rfl, ?_⟩; have n0_ := aM (Kd.R_below (by (with_reducible repeat (first | apply rA | apply rN | apply rW)); exact HO360.out) hb); have n1_ := aM (Kd.R_below (by (with_reducible repeat (first | apply rA | apply rN | apply rW)); exact HO368.out) hb); have n2_ := aM (blk_below (g := gb355) (o := .cells #[.int .i64 a0_0, .int .i64 a0_1, .int .i64 a0_2, .int .i64 a0_3] 23 (0, 0)) (by (with_reducible repeat (first | refine bN ?_ _ | refine bW ?_ | refine bA ?_ _)); exact BK355.out) hb); have n3_ := aM (blk_below (g := gb365) (o := .cells #[.int .i64 t361, .int .i64 t362, .int .i64 t363, .int .i64 t364] 23 (0, 0)) (by (with_reducible repeat (first | refine bN ?_ _ | refine bW ?_ | refine bA ?_ _)); exact BK365.out) hb); have n4_ := aM (blk_below (g := gb373) (o := .cells #[.int .i64 t369, .int .i64 t370, .int .i64 t371, .int .i64 t372] 23 (0, 0)) (by (with_reducible repeat (first | refine bN ?_ _ | refine bW ?_ | refine bA ?_ _)); exact BK373.out) hb); have n5_ := aM (below_step (by repeat (first | (with_reducible first | exact HB.out | apply lA | apply lN | apply lW | refine lS ?_ GE355.out | refine lS ?_ GE365.out | refine lS ?_ GE373.out) | exact HB.out)) hb); clear HO360; clear HO368; clear BK355; clear BK365; clear BK373; clear HB; have HO360 := n0_; have HO368 := n1_; have BK355 := n2_; have BK365 := n3_; have BK373 := n4_; have HB := n5_; clear n0_ n1_ n2_ n3_ n4_ n5_; (try clear hb); (try clear hb2); (try clear hk); (try clear hi)) | ((with_reducible refine gate_dst (N := 7) rfl ?_); refine box_event ?hg (N := 7) ?hd (cs := #[.int .i64 0, .int .i64 0, .int .i64 0, .int .i64 0]) (t := 23) ?hr ?_; (case hd => rfl); (case hg => rfl); (case hr => first | (go_simp; done) | (go_simp; rfl)); intro gb382 hg w126 hbox hb; have n0_ := aM (Kd.R_below (by (with_reducible repeat (first | apply rA | apply rN | apply rW)); exact HO360.out) hb); have n1_ := aM (Kd.R_below (by (with_reducible repeat (first | apply rA | apply rN | apply rW)); exact HO368.out) hb); have n2_ := aM (blk_below (g := gb355) (o := .cells #[.int .i64 a0_0, .int .i64 a0_1, .int .i64 a0_2, .int .i64 a0_3] 23 (0, 0)) (by (with_reducible repeat (first | refine bN ?_ _ | refine bW ?_ | refine bA ?_ _)); exact BK355.out) hb); have n3_ := aM (blk_below (g := gb365) (o := .cells #[.int .i64 t361, .int .i64 t362, .int .i64 t363, .int .i64 t364] 23 (0, 0)) (by (with_reducible repeat (first | refine bN ?_ _ | refine bW ?_ | refine bA ?_ _)); exact BK365.out) hb); have n4_ := aM (blk_below (g := gb373) (o := .cells #[.int .i64 t369, .int .i64 t370, .int .i64 t371, .int .i64 t372] 23 (0, 0)) (by (with_reducible repeat (first | refine bN ?_ _ | refine bW ?_ | refine bA ?_ _)); exact BK373.out) hb); have n5_ := aM (below_step (by repeat (first | (with_reducible first | exact HB.out | apply lA | apply lN | apply lW | refine lS ?_ GE355.out | refine lS ?_ GE365.out | refine lS ?_ GE373.out) | exact HB.out)) hb); have n6_ := aM (hbox); have n7_ := aM ((by rw [hg]; exact (below_size (by repeat (first | (with_reducible first | exact HB.out | apply lA | apply lN | apply lW | refine lS ?_ GE355.out | refine lS ?_ GE365.out | refine lS ?_ GE373.out) | exact HB.out))) : w.heap.size ≤ gb382)); have n8_ := aM ((by rw [hg]; exact (below_size (by repeat (first | (with_reducible first | exact HB.out | apply lA | apply lN | apply lW | refine lS ?_ GE355.out | refine lS ?_ GE365.out | refine lS ?_ GE373.out) | exact HB.out))) : w.heap.size ≤ gb382)); have n9_ := aM ((by rw [hg]; exact Nat.ne_of_lt (blk_lt (g := gb355) (o := .cells #[.int .i64 a0_0, .int .i64 a0_1, .int .i64 a0_2, .int .i64 a0_3] 23 (0, 0)) (by (with_reducible repeat (first | refine bN ?_ _ | refine bW ?_ | refine bA ?_ _)); exact BK355.out)) : gb355 ≠ gb382)); have n10_ := aM ((by rw [hg]; exact Nat.ne_of_gt (blk_lt (g := gb355) (o := .cells #[.int .i64 a0_0, .int .i64 a0_1, .int .i64 a0_2, .int .i64 a0_3] 23 (0, 0)) (by (with_reducible repeat (first | refine bN ?_ _ | refine bW ?_ | refine bA ?_ _)); exact BK355.out)) : gb382 ≠ gb355)); have n11_ := aM ((by rw [hg]; exact Nat.ne_of_lt (blk_lt (g := gb365) (o := .cells #[.int .i64 t361, .int .i64 t362, .int .i64 t363, .int .i64 t364] 23 (0, 0)) (by (with_reducible repeat (first | refine bN ?_ _ | refine bW ?_ | refine bA ?_ _)); exact BK365.out)) : gb365 ≠ gb382)); have n12_ := aM ((by rw [hg]; exact Nat.ne_of_gt (blk_lt (g := gb365) (o := .cells #[.int .i64 t361, .int .i64 t362, .int .i64 t363, .int .i64 t364] 23 (0, 0)) (by (with_reducible repeat (first | refine bN ?_ _ | refine bW ?_ | refine bA ?_ _)); exact BK365.out)) : gb382 ≠ gb365)); have n13_ := aM ((by rw [hg]; exact Nat.ne_of_lt (blk_lt (g := gb373) (o := .cells #[.int .i64 t369, .int .i64 t370, .int .i64 t371, .int .i64 t372] 23 (0, 0)) (by (with_reducible repeat (first | refine bN ?_ _ | refine bW ?_ | refine bA ?_ _)); exact BK373.out)) : gb373 ≠ gb382)); have n14_ := aM ((by rw [hg]; exact Nat.ne_of_gt (blk_lt (g := gb373) (o := .cells #[.int .i64 t369, .int .i64 t370, .int .i64 t371, .int .i64 t372] 23 (0, 0)) (by (with_reducible repeat (first | refine bN ?_ _ | refine bW ?_ | refine bA ?_ _)); exact BK373.out)) : gb382 ≠ gb373)); clear HO360; clear HO368; clear BK355; clear BK365; clear BK373; clear HB; have HO360 := n0_; have HO368 := n1_; have BK355 := n2_; have BK365 := n3_; have BK373 := n4_; have HB := n5_; have BK382 := n6_; have GW382 := n7_; have GE382 := n8_; have NB355_382 := n9_; have NB382_355 := n10_; have NB365_382 := n11_; have NB382_365 := n12_; have NB373_382 := n13_; have NB382_373 := n14_; clear n0_ n1_ n2_ n3_ n4_ n5_ n6_ n7_ n8_ n9_ n10_ n11_ n12_ n13_ n14_; clear hb hbox hg; have hnb127 := NB382_355.out; have hnc127 := NB355_382.out; have hnb128 := NB382_365.out; have hnc128 := NB365_382.out; have hnb129 := NB382_373.out; have hnc129 := NB373_382.out; have hcz130_0 : w126.cell? ⟨gb382, 0, none⟩ = some (.int .i64 0) := (blk_cell BK382.out 0).trans rfl; have hcz130_1 : w126.cell? ⟨gb382, 1, none⟩ = some (.int .i64 0) := (blk_cell BK382.out 1).trans rfl; have hcz130_2 : w126.cell? ⟨gb382, 2, none⟩ = some (.int .i64 0) := (blk_cell BK382.out 2).trans rfl; have hcz130_3 : w126.cell? ⟨gb382, 3, none⟩ = some (.int .i64 0) := (blk_cell BK382.out 3).trans rfl; have hfz130_0 := blk_frozen BK382.out 0; have hfz130_1 := blk_frozen BK382.out 1; have hfz130_2 := blk_frozen BK382.out 2; have hfz130_3 := blk_frozen BK382.out 3; have hnb131 := NB365_373.out; have hnc131 := NB373_365.out; have hcz132_0 : w126.cell? ⟨gb365, 0, none⟩ = some (.int .i64 t361) := (blk_cell BK365.out 0).trans rfl; have hcz132_1 : w126.cell? ⟨gb365, 1, none⟩ = some (.int .i64 t362) := (blk_cell BK365.out 1).trans rfl; have hcz132_2 : w126.cell? ⟨gb365, 2, none⟩ = some (.int .i64 t363) := (blk_cell BK365.out 2).trans rfl; have hcz132_3 : w126.cell? ⟨gb365, 3, none⟩ = some (.int .i64 t364) := (blk_cell BK365.out 3).trans rfl; have hfz132_0 := blk_frozen BK365.out 0; have hfz132_1 := blk_frozen BK365.out 1; have hfz132_2 := blk_frozen BK365.out 2; have hfz132_3 := blk_frozen BK365.out 3; have hcz133_0 : w126.cell? ⟨gb373, 0, none⟩ = some (.int .i64 t369) := (blk_cell BK373.out 0).trans rfl; have hcz133_1 : w126.cell? ⟨gb373, 1, none⟩ = some (.int .i64 t370) := (blk_cell BK373.out 1).trans rfl; have hcz133_2 : w126.cell? ⟨gb373, 2, none⟩ = some (.int .i64 t371) := (blk_cell BK373.out 2).trans rfl; have hcz133_3 : w126.cell? ⟨gb373, 3, none⟩ = some (.int .i64 t372) := (blk_cell BK373.out 3).trans rfl; have hfz133_0 := blk_frozen BK373.out 0; have hfz133_1 := blk_frozen BK373.out 1; have hfz133_2 := blk_frozen BK373.out 2; have hfz133_3 := blk_frozen BK373.out 3; have hcz134_0 : w126.cell? ⟨gb355, 0, none⟩ = some (.int .i64 a0_0) := (blk_cell BK355.out 0).trans rfl; have hcz134_1 : w126.cell? ⟨gb355, 1, none⟩ = some (.int .i64 a0_1) := (blk_cell BK355.out 1).trans rfl; have hcz134_2 : w126.cell? ⟨gb355, 2, none⟩ = some (.int .i64 a0_2) := (blk_cell BK355.out 2).trans rfl; have hcz134_3 : w126.cell? ⟨gb355, 3, none⟩ = some (.int .i64 a0_3) := (blk_cell BK355.out 3).trans rfl; have hfz134_0 := blk_frozen BK355.out 0; have hfz134_1 := blk_frozen BK355.out 1; have hfz134_2 := blk_frozen BK355.out 2; have hfz134_3 := blk_frozen BK355.out 3))
          go_ret
          exact ⟨by first | rfl | (simp [errW_none, errW_some] <;> rfl) | (simp [*, errW_none, errW_some] <;> rfl), by repeat (first | (with_reducible first | exact HB.out | apply lA | apply lN | apply lW | refine lS ?_ GE355.out | refine lS ?_ GE365.out | refine lS ?_ GE373.out | refine lS ?_ GE382.out) | exact HB.out)⟩
        ·rw [if_neg c24] at H
         exact absurd H (by simp)
       ·rw [if_neg c23] at H
        exact absurd H (by simp)
     ·rw [if_neg c21] at H
      exact absurd H (by simp)
    ·replace c20 := Bool.eq_false_iff.mpr c20
     subst c20
     have H1 : (none) = some r := by rw [if_neg (show ¬ (false = true) by decide)] at H; exact H
     clear H
     have H := H1
     clear H1
     exact absurd H (by simp)

end Go.Proofs.Ytlbhokkifdjlaaa.P

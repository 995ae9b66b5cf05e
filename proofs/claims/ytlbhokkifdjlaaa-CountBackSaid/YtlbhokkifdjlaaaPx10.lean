/- Go functions that the laws of this seat reach, each as a Lean function, and a proof that a call of the Go code comes to its answers; written by a program (the kit's print, turned in a few places). Conditions: each theorem's own premises. -/
import Derived.Test.YtlbhokkifdjlaaaPx0
import Derived.Test.YtlbhokkifdjlaaaPx1
import Derived.Test.YtlbhokkifdjlaaaPx3
import Derived.Test.YtlbhokkifdjlaaaPx4
import Derived.Test.YtlbhokkifdjlaaaGCount
namespace Go.Proofs.Ytlbhokkifdjlaaa.P
open Go.RowKit Go.Proofs.YtlbhokkifdjlaaaW.PrintWords Go.Proofs.YtlbhokkifdjlaaaW.PrintLast Go.Proofs.YtlbhokkifdjlaaaW.PrintMore
attribute [local go_sem] max2_int min2_int max_two min_two max_three min_three max_four min_four   -- for this text's walks alone
set_option linter.unusedVariables false
set_option linter.unusedSimpArgs false

attribute [local go_sem high] eqA23
/-! ### phaetonlaw08_CountBack: function 6 -/
def phaetonlaw08_CountBack.j0 : Nat → Bool → Bool → Int → Int → Int → Int → Option (Bool)
 | 0, _, _, _, _, _, _ => none
 | k + 1, x3, x15, x242000, x242001, x242002, x242003 => if x15 = true then (some x3) else ((count_Step.f x242000 x242001 x242002 x242003 2).bind fun bt244 => ((phaetonlaw08_times.f k 1 (mx (wrap64 (x242000 - 127)) 0)).bind fun t248 => ((count_Steps.f k bt244.1 bt244.2.1 bt244.2.2.1 bt244.2.2.2 t248).bind fun bt251 => ((phaetonlaw08_times.f k 1 255).bind fun t256 => ((count_Steps.f k x242000 x242001 x242002 x242003 t256).bind fun bt259 => ((phaetonlaw08_times.f k 2 255).bind fun t263 => ((count_Steps.f k bt259.1 bt259.2.1 bt259.2.2.1 bt259.2.2.2 t263).bind fun bt266 => (if x3 = true then (if bt251.2.2.1 = 1 then ((count_New.f).bind fun bt271 => (if (bt266.1 == bt271.1 && (bt266.2.1 == bt271.2.1 && (bt266.2.2.1 == bt271.2.2.1 && (bt266.2.2.2 == bt271.2.2.2)))) = true then (if (mx (wrap64 (x242000 - 127)) 0) = 0 then (some true) else ((count_Step.f x242000 x242001 x242002 x242003 2).bind fun bt275 => ((phaetonlaw08_times.f k 1 (wrap64 ((mx (wrap64 (x242000 - 127)) 0) - 1))).bind fun t279 => ((count_Steps.f k bt275.1 bt275.2.1 bt275.2.2.1 bt275.2.2.2 t279).bind fun bt282 => (some (bt282.2.2.1 == 2)))))) else (none))) else (none)) else (none)))))))))
def phaetonlaw08_CountBack.f (k : Nat) (a0_0 : Int) (a0_1 : Int) (a0_2 : Int) (a0_3 : Int) : Option (Bool) := (phaetonlaw08_head.f k).bind fun t242 => ((count_Right.f a0_0 a0_1 a0_2 a0_3).bind fun t243 => (if t243 = true then (phaetonlaw08_CountBack.j0 k t242 (a0_2 == 3) a0_0 a0_1 a0_2 a0_3) else (phaetonlaw08_CountBack.j0 k t242 true a0_0 a0_1 a0_2 a0_3)))
theorem phaetonlaw08_CountBack.mono_l : ∀ k, (∀ y0 y1 y2 y3 y4 y5, LeO (phaetonlaw08_CountBack.j0 k y0 y1 y2 y3 y4 y5) (phaetonlaw08_CountBack.j0 (k + 1) y0 y1 y2 y3 y4 y5))
 | 0 => fun _ _ _ _ _ _ r h => by simp [phaetonlaw08_CountBack.j0] at h
 | k + 1 => by
  have ih0 := phaetonlaw08_CountBack.mono_l k
  ·intro y0 y1 y2 y3 y4 y5
   unfold phaetonlaw08_CountBack.j0
   repeat' first
   | (with_reducible exact ih0 _ _ _ _ _ _)
   | (with_reducible exact count_Steps.mono _ _ _ _ _ _)
   | (with_reducible exact phaetonlaw08_head.mono _)
   | (with_reducible exact phaetonlaw08_times.mono _ _ _)
   | (with_reducible exact LeO.refl _)
   | (with_reducible exact LeO.none _)
   | (with_reducible refine LeO.ite ?_ ?_)
   | (with_reducible refine LeO.bind ?_ (fun _ => ?_))
   | exact ih0 _ _ _ _ _ _
   | exact count_Steps.mono _ _ _ _ _ _
   | exact phaetonlaw08_head.mono _
   | exact phaetonlaw08_times.mono _ _ _
   | exact LeO.none _
   | refine LeO.ite ?_ ?_
   | refine LeO.bind ?_ (fun _ => ?_)
theorem phaetonlaw08_CountBack.mono : ∀ a0 a1 a2 a3 k, LeO (phaetonlaw08_CountBack.f k a0 a1 a2 a3) (phaetonlaw08_CountBack.f (k + 1) a0 a1 a2 a3) := by
 intro a0 a1 a2 a3 k
 have ih0 := phaetonlaw08_CountBack.mono_l k
 unfold phaetonlaw08_CountBack.f
 repeat' first
   | (with_reducible exact ih0 _ _ _ _ _ _)
   | (with_reducible exact count_Steps.mono _ _ _ _ _ _)
   | (with_reducible exact phaetonlaw08_head.mono _)
   | (with_reducible exact phaetonlaw08_times.mono _ _ _)
   | (with_reducible exact LeO.refl _)
   | (with_reducible exact LeO.none _)
   | (with_reducible refine LeO.ite ?_ ?_)
   | (with_reducible refine LeO.bind ?_ (fun _ => ?_))
   | exact ih0 _ _ _ _ _ _
   | exact count_Steps.mono _ _ _ _ _ _
   | exact phaetonlaw08_head.mono _
   | exact phaetonlaw08_times.mono _ _ _
   | exact LeO.none _
   | refine LeO.ite ?_ ?_
   | refine LeO.bind ?_ (fun _ => ?_)
def phaetonlaw08_CountBack.T7 : Bool × List (List Nat × List Nat) := (true, [([], []), ([0], [0]), ([1], [1]), ([2, 1], [1, 2]), ([3, 1], [1, 3]), ([1, 4], [1, 4]), ([5, 1], [5]), ([6], [6]), ([6, 6], [6]), ([7, 8, 6], [6, 7, 8]), ([6, 9], [6, 9]), ([10, 8], [10]), ([11], [11]), ([12, 11], [11, 12]), ([13, 11, 11], [11, 13]), ([14], [14]), ([15, 14, 14], [14, 15]), ([14], [14]), ([17, 14], [14, 17]), ([18, 16, 14], [14, 18]), ([16, 19, 19, 14], [14, 16, 19]), ([20, 14], [14, 20]), ([21, 14], [14, 21]), ([14, 22, 11], [11, 14, 22]), ([11, 23], [11, 23]), ([24, 20, 0, 1, 2, 3, 4, 5, 6, 7, 8, 9, 10, 11, 12, 13, 14, 15, 16, 17, 18, 19, 20, 21, 22, 23, 24], [24])])
def phaetonlaw08_CountBack.B7 : List Nat := [0, 1, 3, 7, 15, 31, 63, 127, 127, 511, 1023, 2047, 4095, 8191, 16383, 32767, 65535, 32767, 163839, 524287, 1048575, 2097151, 4194303, 8388607, 16777215, 33554431]
theorem phaetonlaw08_CountBack.tab7 : rtab .any (opsOf Try.f6 7) = phaetonlaw08_CountBack.T7 := by kernel_rfl
theorem phaetonlaw08_CountBack.bits7 : waitsOk phaetonlaw08_CountBack.T7.2 phaetonlaw08_CountBack.B7 = true := by kernel_rfl
set_option maxHeartbeats 8000000 in
set_option maxRecDepth 100000 in
theorem phaetonlaw08_CountBack.calls (k : Nat) (a0_0 : Int) (a0_1 : Int) (a0_2 : Int) (a0_3 : Int) (r : Bool) (w : World) (h : phaetonlaw08_CountBack.f k a0_0 a0_1 a0_2 a0_3 = some r) :
  Calls Try.prog 6 #[.agg #[.int .i64 a0_0, .int .i64 a0_1, .int .i64 a0_2, .int .i64 a0_3]] w fun e w' => e = .returned (.bool r) ∧ Below w.heap.size w w' := by
 have hu23 := Try.underlying23
 have HB := aM (Below.refl w.heap.size w)
 have H : ((phaetonlaw08_head.f k).bind fun t242 => ((count_Right.f a0_0 a0_1 a0_2 a0_3).bind fun t243 => (if t243 = true then (phaetonlaw08_CountBack.j0 k t242 (a0_2 == 3) a0_0 a0_1 a0_2 a0_3) else (phaetonlaw08_CountBack.j0 k t242 true a0_0 a0_1 a0_2 a0_3)))) = some r := h
 clear h
 replace H := Option.bind_eq_some_iff.mp H
 obtain ⟨t242, A20, H⟩ := H
 replace H : ((count_Right.f a0_0 a0_1 a0_2 a0_3).bind fun t243 => (if t243 = true then (phaetonlaw08_CountBack.j0 k t242 (a0_2 == 3) a0_0 a0_1 a0_2 a0_3) else (phaetonlaw08_CountBack.j0 k t242 true a0_0 a0_1 a0_2 a0_3))) = some r := H
 have A2 := aM A20
 clear A20
 have HC3 := aM H
 clear H
 go_enter Try.func6, Try.ntmps6
 go_upto_region 2 with (first | ((with_reducible refine gate_dst (N := 1) rfl ?_); refine box_event ?hg (N := 1) ?hd (cs := #[.int .i64 a0_0, .int .i64 a0_1, .int .i64 a0_2, .int .i64 a0_3]) (t := 23) ?hr ?_; (case hd => rfl); (case hg => rfl); (case hr => first | (go_simp; done) | (go_simp; rfl)); intro gb241 hg w4 hbox hb; have n0_ := aM (below_step (by repeat (first | (with_reducible first | exact HB.out | apply lA | apply lN | apply lW) | exact HB.out)) hb); have n1_ := aM (hbox); have n2_ := aM ((by rw [hg]; exact (below_size (by repeat (first | (with_reducible first | exact HB.out | apply lA | apply lN | apply lW) | exact HB.out))) : w.heap.size ≤ gb241)); have n3_ := aM ((by rw [hg]; exact (below_size (by repeat (first | (with_reducible first | exact HB.out | apply lA | apply lN | apply lW) | exact HB.out))) : w.heap.size ≤ gb241)); clear HB; have HB := n0_; have BK241 := n1_; have GW241 := n2_; have GE241 := n3_; clear n0_ n1_ n2_ n3_; clear hb hbox hg) | ((with_reducible refine gate_callee (f := 10) rfl ?_); refine goesL_ (some 7) rfl rfl Try.func10 (by kernel_rfl) rfl #[] rfl (by (try simp only [List.map_toArray, List.map_cons, List.map_nil]); first | done | rfl | (simp only [List.length_drop, List.length_take]; rfl)) ?_; (with_reducible refine (phaetonlaw08_head.calls k  t242 _ A2.out).mono ?_); rintro e w5 ⟨rfl, hb⟩; refine ⟨_, rfl, ?_⟩; have n0_ := aM (blk_below (g := gb241) (o := .cells #[.int .i64 a0_0, .int .i64 a0_1, .int .i64 a0_2, .int .i64 a0_3] 23 (0, 0)) (by (with_reducible repeat (first | refine bN ?_ _ | refine bW ?_ | refine bA ?_ _)); exact BK241.out) hb); have n1_ := aM (below_step (by repeat (first | (with_reducible first | exact HB.out | apply lA | apply lN | apply lW | refine lS ?_ GE241.out) | exact HB.out)) hb); clear BK241; clear HB; have BK241 := n0_; have HB := n1_; clear n0_ n1_; (try clear hb); (try clear hb2); (try clear hk); (try clear hi)))
 (try simp only [Act.put, sT, sZ, sS])
 go_cut [15] (fun v15 wc => ∃ (kq : Nat) (x15_2 : Bool), v15 = .bool x15_2 ∧ Aside0 (phaetonlaw08_CountBack.j0 kq t242 x15_2 a0_0 a0_1 a0_2 a0_3 = some r) ∧ Aside0 (kq ≤ k) ∧ Aside0 (wc.heap[gb241]? = some (.cells #[.int .i64 a0_0, .int .i64 a0_1, .int .i64 a0_2, .int .i64 a0_3] 23 (0, 0))) ∧ Aside0 (Below w.heap.size w wc))
 case first =>
  have H := HC3.out
  clear HC3
  replace H := Option.bind_eq_some_iff.mp H
  obtain ⟨t243, A60, H⟩ := H
  replace H : (if t243 = true then (phaetonlaw08_CountBack.j0 k t242 (a0_2 == 3) a0_0 a0_1 a0_2 a0_3) else (phaetonlaw08_CountBack.j0 k t242 true a0_0 a0_1 a0_2 a0_3)) = some r := H
  have A6 := aM A60
  clear A60
  by_cases c7 : t243 = true
  ·subst c7
   have H1 : (phaetonlaw08_CountBack.j0 k t242 (a0_2 == 3) a0_0 a0_1 a0_2 a0_3) = some r := by rw [if_pos rfl] at H; exact H
   clear H
   have H := H1
   clear H1
   have H' := aM H
   clear H
   have hcz8_0 : w5.cell? ⟨gb241, 0, none⟩ = some (.int .i64 a0_0) := (blk_cell BK241.out 0).trans rfl
   have hcz8_1 : w5.cell? ⟨gb241, 1, none⟩ = some (.int .i64 a0_1) := (blk_cell BK241.out 1).trans rfl
   have hcz8_2 : w5.cell? ⟨gb241, 2, none⟩ = some (.int .i64 a0_2) := (blk_cell BK241.out 2).trans rfl
   have hcz8_3 : w5.cell? ⟨gb241, 3, none⟩ = some (.int .i64 a0_3) := (blk_cell BK241.out 3).trans rfl
   have hfz8_0 := blk_frozen BK241.out 0
   have hfz8_1 := blk_frozen BK241.out 1
   have hfz8_2 := blk_frozen BK241.out 2
   have hfz8_3 := blk_frozen BK241.out 3
   go_wp2_with (first | ((with_reducible refine gate_callee (f := 11) rfl ?_); refine goesL_ (some 9) rfl rfl Try.func11 (by kernel_rfl) rfl #[.agg #[.int .i64 a0_0, .int .i64 a0_1, .int .i64 a0_2, .int .i64 a0_3]] rfl (by (try simp only [List.map_toArray, List.map_cons, List.map_nil]); first | done | rfl | (simp only [List.length_drop, List.length_take]; rfl)) ?_; (with_reducible refine (count_Right.calls a0_0 a0_1 a0_2 a0_3 true _ A6.out).mono ?_); rintro e w9 ⟨rfl, hb⟩; refine ⟨_, rfl, ?_⟩; have n0_ := aM (blk_below (g := gb241) (o := .cells #[.int .i64 a0_0, .int .i64 a0_1, .int .i64 a0_2, .int .i64 a0_3] 23 (0, 0)) (by (with_reducible repeat (first | refine bN ?_ _ | refine bW ?_ | refine bA ?_ _)); exact BK241.out) hb); have n1_ := aM (below_step (by repeat (first | (with_reducible first | exact HB.out | apply lA | apply lN | apply lW | refine lS ?_ GE241.out) | exact HB.out)) hb); clear BK241; clear HB; have BK241 := n0_; have HB := n1_; clear n0_ n1_; (try clear hb); (try clear hb2); (try clear hk); (try clear hi); have hcz10_0 : w9.cell? ⟨gb241, 0, none⟩ = some (.int .i64 a0_0) := (blk_cell BK241.out 0).trans rfl; have hcz10_1 : w9.cell? ⟨gb241, 1, none⟩ = some (.int .i64 a0_1) := (blk_cell BK241.out 1).trans rfl; have hcz10_2 : w9.cell? ⟨gb241, 2, none⟩ = some (.int .i64 a0_2) := (blk_cell BK241.out 2).trans rfl; have hcz10_3 : w9.cell? ⟨gb241, 3, none⟩ = some (.int .i64 a0_3) := (blk_cell BK241.out 3).trans rfl; have hfz10_0 := blk_frozen BK241.out 0; have hfz10_1 := blk_frozen BK241.out 1; have hfz10_2 := blk_frozen BK241.out 2; have hfz10_3 := blk_frozen BK241.out 3))
   go_meet
   case rel => exact ⟨_, ((a0_2 == 3)), (by first | rfl | (simp; done) | (simp [*]; done)), H', ⟨by first | omega | exact Nat.le_refl _⟩, ⟨by (with_reducible repeat (first | refine bN ?_ _ | refine bW ?_ | refine bA ?_ _)); exact BK241.out⟩, ⟨by repeat (first | (with_reducible first | exact HB.out | apply lA | apply lN | apply lW | refine lS ?_ GE241.out) | exact HB.out)⟩⟩
  ·replace c7 := Bool.eq_false_iff.mpr c7
   subst c7
   have H1 : (phaetonlaw08_CountBack.j0 k t242 true a0_0 a0_1 a0_2 a0_3) = some r := by rw [if_neg (show ¬ (false = true) by decide)] at H; exact H
   clear H
   have H := H1
   clear H1
   have H' := aM H
   clear H
   have hcz11_0 : w5.cell? ⟨gb241, 0, none⟩ = some (.int .i64 a0_0) := (blk_cell BK241.out 0).trans rfl
   have hcz11_1 : w5.cell? ⟨gb241, 1, none⟩ = some (.int .i64 a0_1) := (blk_cell BK241.out 1).trans rfl
   have hcz11_2 : w5.cell? ⟨gb241, 2, none⟩ = some (.int .i64 a0_2) := (blk_cell BK241.out 2).trans rfl
   have hcz11_3 : w5.cell? ⟨gb241, 3, none⟩ = some (.int .i64 a0_3) := (blk_cell BK241.out 3).trans rfl
   have hfz11_0 := blk_frozen BK241.out 0
   have hfz11_1 := blk_frozen BK241.out 1
   have hfz11_2 := blk_frozen BK241.out 2
   have hfz11_3 := blk_frozen BK241.out 3
   go_wp2_with (first | ((with_reducible refine gate_callee (f := 11) rfl ?_); refine goesL_ (some 9) rfl rfl Try.func11 (by kernel_rfl) rfl #[.agg #[.int .i64 a0_0, .int .i64 a0_1, .int .i64 a0_2, .int .i64 a0_3]] rfl (by (try simp only [List.map_toArray, List.map_cons, List.map_nil]); first | done | rfl | (simp only [List.length_drop, List.length_take]; rfl)) ?_; (with_reducible refine (count_Right.calls a0_0 a0_1 a0_2 a0_3 false _ A6.out).mono ?_); rintro e w12 ⟨rfl, hb⟩; refine ⟨_, rfl, ?_⟩; have n0_ := aM (blk_below (g := gb241) (o := .cells #[.int .i64 a0_0, .int .i64 a0_1, .int .i64 a0_2, .int .i64 a0_3] 23 (0, 0)) (by (with_reducible repeat (first | refine bN ?_ _ | refine bW ?_ | refine bA ?_ _)); exact BK241.out) hb); have n1_ := aM (below_step (by repeat (first | (with_reducible first | exact HB.out | apply lA | apply lN | apply lW | refine lS ?_ GE241.out) | exact HB.out)) hb); clear BK241; clear HB; have BK241 := n0_; have HB := n1_; clear n0_ n1_; (try clear hb); (try clear hb2); (try clear hk); (try clear hi)))
   go_meet
   case rel => exact ⟨_, (true), (by first | rfl | (simp; done) | (simp [*]; done)), H', ⟨by first | omega | exact Nat.le_refl _⟩, ⟨by (with_reducible repeat (first | refine bN ?_ _ | refine bW ?_ | refine bA ?_ _)); exact BK241.out⟩, ⟨by repeat (first | (with_reducible first | exact HB.out | apply lA | apply lN | apply lW | refine lS ?_ GE241.out) | exact HB.out)⟩⟩
 case rest =>
  clear HC3
  try clear c1
  try clear p2
  try clear c6
  try clear c7
  try clear c10
  try clear c11
  try clear hcz10_0
  try clear hcz10_1
  try clear hcz10_2
  try clear hcz10_3
  try clear hcz11_0
  try clear hcz11_1
  try clear hcz11_2
  try clear hcz11_3
  try clear hcz8_0
  try clear hcz8_1
  try clear hcz8_2
  try clear hcz8_3
  try clear hfz10_0
  try clear hfz10_1
  try clear hfz10_2
  try clear hfz10_3
  try clear hfz11_0
  try clear hfz11_1
  try clear hfz11_2
  try clear hfz11_3
  try clear hfz8_0
  try clear hfz8_1
  try clear hfz8_2
  try clear hfz8_3
  obtain ⟨kq, x15_2, rfl, HA, HJ2, BK241, HB⟩ := hcut
  cases kq with
  | zero => exact absurd HA.out (by simp [phaetonlaw08_CountBack.j0])
  | succ kj2 =>
   have H := HA.out
   clear HA
   simp only [phaetonlaw08_CountBack.j0] at H
   by_cases c13 : x15_2 = true
   ·subst c13
    have H1 : (some t242) = some r := by rw [if_pos rfl] at H; exact H
    clear H
    have H := H1
    clear H1
    obtain rfl := Option.some.inj H
    go_wp2
    go_ret
    exact ⟨by first | rfl | (simp [errW_none, errW_some] <;> rfl) | (simp [*, errW_none, errW_some] <;> rfl), by repeat (first | (with_reducible first | exact HB.out | apply lA | apply lN | apply lW | refine lS ?_ GE241.out) | exact HB.out)⟩
   ·replace c13 := Bool.eq_false_iff.mpr c13
    subst c13
    have H1 : ((count_Step.f a0_0 a0_1 a0_2 a0_3 2).bind fun bt244 => ((phaetonlaw08_times.f kj2 1 (mx (wrap64 (a0_0 - 127)) 0)).bind fun t248 => ((count_Steps.f kj2 bt244.1 bt244.2.1 bt244.2.2.1 bt244.2.2.2 t248).bind fun bt251 => ((phaetonlaw08_times.f kj2 1 255).bind fun t256 => ((count_Steps.f kj2 a0_0 a0_1 a0_2 a0_3 t256).bind fun bt259 => ((phaetonlaw08_times.f kj2 2 255).bind fun t263 => ((count_Steps.f kj2 bt259.1 bt259.2.1 bt259.2.2.1 bt259.2.2.2 t263).bind fun bt266 => (if t242 = true then (if bt251.2.2.1 = 1 then ((count_New.f).bind fun bt271 => (if (bt266.1 == bt271.1 && (bt266.2.1 == bt271.2.1 && (bt266.2.2.1 == bt271.2.2.1 && (bt266.2.2.2 == bt271.2.2.2)))) = true then (if (mx (wrap64 (a0_0 - 127)) 0) = 0 then (some true) else ((count_Step.f a0_0 a0_1 a0_2 a0_3 2).bind fun bt275 => ((phaetonlaw08_times.f kj2 1 (wrap64 ((mx (wrap64 (a0_0 - 127)) 0) - 1))).bind fun t279 => ((count_Steps.f kj2 bt275.1 bt275.2.1 bt275.2.2.1 bt275.2.2.2 t279).bind fun bt282 => (some (bt282.2.2.1 == 2)))))) else (none))) else (none)) else (none))))))))) = some r := by rw [if_neg (show ¬ (false = true) by decide)] at H; exact H
    clear H
    have H := H1
    clear H1
    obtain ⟨ji14, hji14⟩ : ∃ j_ : Int, (mx (wrap64 (a0_0 - 127)) 0) = j_ := ⟨_, rfl⟩
    replace H : ((count_Step.f a0_0 a0_1 a0_2 a0_3 2).bind fun bt244 => ((phaetonlaw08_times.f kj2 1 (ji14)).bind fun t248 => ((count_Steps.f kj2 bt244.1 bt244.2.1 bt244.2.2.1 bt244.2.2.2 t248).bind fun bt251 => ((phaetonlaw08_times.f kj2 1 255).bind fun t256 => ((count_Steps.f kj2 a0_0 a0_1 a0_2 a0_3 t256).bind fun bt259 => ((phaetonlaw08_times.f kj2 2 255).bind fun t263 => ((count_Steps.f kj2 bt259.1 bt259.2.1 bt259.2.2.1 bt259.2.2.2 t263).bind fun bt266 => (if t242 = true then (if bt251.2.2.1 = 1 then ((count_New.f).bind fun bt271 => (if (bt266.1 == bt271.1 && (bt266.2.1 == bt271.2.1 && (bt266.2.2.1 == bt271.2.2.1 && (bt266.2.2.2 == bt271.2.2.2)))) = true then (if (ji14) = 0 then (some true) else ((count_Step.f a0_0 a0_1 a0_2 a0_3 2).bind fun bt275 => ((phaetonlaw08_times.f kj2 1 (wrap64 ((ji14) - 1))).bind fun t279 => ((count_Steps.f kj2 bt275.1 bt275.2.1 bt275.2.2.1 bt275.2.2.2 t279).bind fun bt282 => (some (bt282.2.2.1 == 2)))))) else (none))) else (none)) else (none))))))))) = some r := by first | (rw [hji14] at H; exact H) | (simp only [hji14] at H ⊢; exact H)
    have hji14_ : (if (wrap64 (a0_0 - 127)) < 0 then 0 else (wrap64 (a0_0 - 127))) = ji14 := hji14
    replace H := Option.bind_eq_some_iff.mp H
    obtain ⟨⟨t244, t245, t246, t247⟩, A150, H⟩ := H
    replace H : ((phaetonlaw08_times.f kj2 1 (ji14)).bind fun t248 => ((count_Steps.f kj2 t244 t245 t246 t247 t248).bind fun bt251 => ((phaetonlaw08_times.f kj2 1 255).bind fun t256 => ((count_Steps.f kj2 a0_0 a0_1 a0_2 a0_3 t256).bind fun bt259 => ((phaetonlaw08_times.f kj2 2 255).bind fun t263 => ((count_Steps.f kj2 bt259.1 bt259.2.1 bt259.2.2.1 bt259.2.2.2 t263).bind fun bt266 => (if t242 = true then (if bt251.2.2.1 = 1 then ((count_New.f).bind fun bt271 => (if (bt266.1 == bt271.1 && (bt266.2.1 == bt271.2.1 && (bt266.2.2.1 == bt271.2.2.1 && (bt266.2.2.2 == bt271.2.2.2)))) = true then (if (ji14) = 0 then (some true) else ((count_Step.f a0_0 a0_1 a0_2 a0_3 2).bind fun bt275 => ((phaetonlaw08_times.f kj2 1 (wrap64 ((ji14) - 1))).bind fun t279 => ((count_Steps.f kj2 bt275.1 bt275.2.1 bt275.2.2.1 bt275.2.2.2 t279).bind fun bt282 => (some (bt282.2.2.1 == 2)))))) else (none))) else (none)) else (none)))))))) = some r := H
    have A15 := aM A150
    clear A150
    replace H := Option.bind_eq_some_iff.mp H
    obtain ⟨t248, A160, H⟩ := H
    replace H : ((count_Steps.f kj2 t244 t245 t246 t247 t248).bind fun bt251 => ((phaetonlaw08_times.f kj2 1 255).bind fun t256 => ((count_Steps.f kj2 a0_0 a0_1 a0_2 a0_3 t256).bind fun bt259 => ((phaetonlaw08_times.f kj2 2 255).bind fun t263 => ((count_Steps.f kj2 bt259.1 bt259.2.1 bt259.2.2.1 bt259.2.2.2 t263).bind fun bt266 => (if t242 = true then (if bt251.2.2.1 = 1 then ((count_New.f).bind fun bt271 => (if (bt266.1 == bt271.1 && (bt266.2.1 == bt271.2.1 && (bt266.2.2.1 == bt271.2.2.1 && (bt266.2.2.2 == bt271.2.2.2)))) = true then (if (ji14) = 0 then (some true) else ((count_Step.f a0_0 a0_1 a0_2 a0_3 2).bind fun bt275 => ((phaetonlaw08_times.f kj2 1 (wrap64 ((ji14) - 1))).bind fun t279 => ((count_Steps.f kj2 bt275.1 bt275.2.1 bt275.2.2.1 bt275.2.2.2 t279).bind fun bt282 => (some (bt282.2.2.1 == 2)))))) else (none))) else (none)) else (none))))))) = some r := H
    have A16 := aM A160
    clear A160
    replace H := Option.bind_eq_some_iff.mp H
    obtain ⟨⟨t251, t252, t253, t254⟩, A170, H⟩ := H
    replace H : ((phaetonlaw08_times.f kj2 1 255).bind fun t256 => ((count_Steps.f kj2 a0_0 a0_1 a0_2 a0_3 t256).bind fun bt259 => ((phaetonlaw08_times.f kj2 2 255).bind fun t263 => ((count_Steps.f kj2 bt259.1 bt259.2.1 bt259.2.2.1 bt259.2.2.2 t263).bind fun bt266 => (if t242 = true then (if t253 = 1 then ((count_New.f).bind fun bt271 => (if (bt266.1 == bt271.1 && (bt266.2.1 == bt271.2.1 && (bt266.2.2.1 == bt271.2.2.1 && (bt266.2.2.2 == bt271.2.2.2)))) = true then (if (ji14) = 0 then (some true) else ((count_Step.f a0_0 a0_1 a0_2 a0_3 2).bind fun bt275 => ((phaetonlaw08_times.f kj2 1 (wrap64 ((ji14) - 1))).bind fun t279 => ((count_Steps.f kj2 bt275.1 bt275.2.1 bt275.2.2.1 bt275.2.2.2 t279).bind fun bt282 => (some (bt282.2.2.1 == 2)))))) else (none))) else (none)) else (none)))))) = some r := H
    have A17 := aM A170
    clear A170
    replace H := Option.bind_eq_some_iff.mp H
    obtain ⟨t256, A180, H⟩ := H
    replace H : ((count_Steps.f kj2 a0_0 a0_1 a0_2 a0_3 t256).bind fun bt259 => ((phaetonlaw08_times.f kj2 2 255).bind fun t263 => ((count_Steps.f kj2 bt259.1 bt259.2.1 bt259.2.2.1 bt259.2.2.2 t263).bind fun bt266 => (if t242 = true then (if t253 = 1 then ((count_New.f).bind fun bt271 => (if (bt266.1 == bt271.1 && (bt266.2.1 == bt271.2.1 && (bt266.2.2.1 == bt271.2.2.1 && (bt266.2.2.2 == bt271.2.2.2)))) = true then (if (ji14) = 0 then (some true) else ((count_Step.f a0_0 a0_1 a0_2 a0_3 2).bind fun bt275 => ((phaetonlaw08_times.f kj2 1 (wrap64 ((ji14) - 1))).bind fun t279 => ((count_Steps.f kj2 bt275.1 bt275.2.1 bt275.2.2.1 bt275.2.2.2 t279).bind fun bt282 => (some (bt282.2.2.1 == 2)))))) else (none))) else (none)) else (none))))) = some r := H
    have A18 := aM A180
    clear A180
    replace H := Option.bind_eq_some_iff.mp H
    obtain ⟨⟨t259, t260, t261, t262⟩, A190, H⟩ := H
    replace H : ((phaetonlaw08_times.f kj2 2 255).bind fun t263 => ((count_Steps.f kj2 t259 t260 t261 t262 t263).bind fun bt266 => (if t242 = true then (if t253 = 1 then ((count_New.f).bind fun bt271 => (if (bt266.1 == bt271.1 && (bt266.2.1 == bt271.2.1 && (bt266.2.2.1 == bt271.2.2.1 && (bt266.2.2.2 == bt271.2.2.2)))) = true then (if (ji14) = 0 then (some true) else ((count_Step.f a0_0 a0_1 a0_2 a0_3 2).bind fun bt275 => ((phaetonlaw08_times.f kj2 1 (wrap64 ((ji14) - 1))).bind fun t279 => ((count_Steps.f kj2 bt275.1 bt275.2.1 bt275.2.2.1 bt275.2.2.2 t279).bind fun bt282 => (some (bt282.2.2.1 == 2)))))) else (none))) else (none)) else (none)))) = some r := H
    have A19 := aM A190
    clear A190
    replace H := Option.bind_eq_some_iff.mp H
    obtain ⟨t263, A200, H⟩ := H
    replace H : ((count_Steps.f kj2 t259 t260 t261 t262 t263).bind fun bt266 => (if t242 = true then (if t253 = 1 then ((count_New.f).bind fun bt271 => (if (bt266.1 == bt271.1 && (bt266.2.1 == bt271.2.1 && (bt266.2.2.1 == bt271.2.2.1 && (bt266.2.2.2 == bt271.2.2.2)))) = true then (if (ji14) = 0 then (some true) else ((count_Step.f a0_0 a0_1 a0_2 a0_3 2).bind fun bt275 => ((phaetonlaw08_times.f kj2 1 (wrap64 ((ji14) - 1))).bind fun t279 => ((count_Steps.f kj2 bt275.1 bt275.2.1 bt275.2.2.1 bt275.2.2.2 t279).bind fun bt282 => (some (bt282.2.2.1 == 2)))))) else (none))) else (none)) else (none))) = some r := H
    have A20 := aM A200
    clear A200
    replace H := Option.bind_eq_some_iff.mp H
    obtain ⟨⟨t266, t267, t268, t269⟩, A210, H⟩ := H
    replace H : (if t242 = true then (if t253 = 1 then ((count_New.f).bind fun bt271 => (if (t266 == bt271.1 && (t267 == bt271.2.1 && (t268 == bt271.2.2.1 && (t269 == bt271.2.2.2)))) = true then (if (ji14) = 0 then (some true) else ((count_Step.f a0_0 a0_1 a0_2 a0_3 2).bind fun bt275 => ((phaetonlaw08_times.f kj2 1 (wrap64 ((ji14) - 1))).bind fun t279 => ((count_Steps.f kj2 bt275.1 bt275.2.1 bt275.2.2.1 bt275.2.2.2 t279).bind fun bt282 => (some (bt282.2.2.1 == 2)))))) else (none))) else (none)) else (none)) = some r := H
    have A21 := aM A210
    clear A210
    by_cases c22 : t242 = true
    ·subst c22
     have H1 : (if t253 = 1 then ((count_New.f).bind fun bt271 => (if (t266 == bt271.1 && (t267 == bt271.2.1 && (t268 == bt271.2.2.1 && (t269 == bt271.2.2.2)))) = true then (if (ji14) = 0 then (some true) else ((count_Step.f a0_0 a0_1 a0_2 a0_3 2).bind fun bt275 => ((phaetonlaw08_times.f kj2 1 (wrap64 ((ji14) - 1))).bind fun t279 => ((count_Steps.f kj2 bt275.1 bt275.2.1 bt275.2.2.1 bt275.2.2.2 t279).bind fun bt282 => (some (bt282.2.2.1 == 2)))))) else (none))) else (none)) = some r := by rw [if_pos rfl] at H; exact H
     clear H
     have H := H1
     clear H1
     by_cases c23 : t253 = 1
     ·rw [if_pos c23] at H
      have c23b0 : (t253 == 1) = true := beq_iff_eq.mpr c23
      have c23b1 : (t253 != 1) = false := bne_eq_false_iff_eq.mpr c23
      clear c23
      replace H := Option.bind_eq_some_iff.mp H
      obtain ⟨⟨t271, t272, t273, t274⟩, A240, H⟩ := H
      replace H : (if (t266 == t271 && (t267 == t272 && (t268 == t273 && (t269 == t274)))) = true then (if (ji14) = 0 then (some true) else ((count_Step.f a0_0 a0_1 a0_2 a0_3 2).bind fun bt275 => ((phaetonlaw08_times.f kj2 1 (wrap64 ((ji14) - 1))).bind fun t279 => ((count_Steps.f kj2 bt275.1 bt275.2.1 bt275.2.2.1 bt275.2.2.2 t279).bind fun bt282 => (some (bt282.2.2.1 == 2)))))) else (none)) = some r := H
      have A24 := aM A240
      clear A240
      by_cases c25 : (t266 == t271 && (t267 == t272 && (t268 == t273 && (t269 == t274)))) = true
      ·rw [if_pos c25] at H
       have c25b0 : (t266 == t271 && (t267 == t272 && (t268 == t273 && (t269 == t274)))) = true := c25
       (try (have c25b1 : decide (t266 = t271 && (t267 == t272 && (t268 == t273 && (t269 == t274)))) = true := by simpa using c25))
       (try (have c25b2 : (t266 == t271 && (t267 == t272 && (t268 == t273 && (t269 == t274)))) = true := by simpa using c25))
       clear c25
       by_cases c26 : (ji14) = 0
       ·rw [if_pos c26] at H
        have c26b0 : ((ji14) == 0) = true := beq_iff_eq.mpr c26
        have c26b1 : ((ji14) != 0) = false := bne_eq_false_iff_eq.mpr c26
        clear c26
        obtain rfl := Option.some.inj H
        have hcz27_0 : wc.cell? ⟨gb241, 0, none⟩ = some (.int .i64 a0_0) := (blk_cell BK241.out 0).trans rfl
        have hcz27_1 : wc.cell? ⟨gb241, 1, none⟩ = some (.int .i64 a0_1) := (blk_cell BK241.out 1).trans rfl
        have hcz27_2 : wc.cell? ⟨gb241, 2, none⟩ = some (.int .i64 a0_2) := (blk_cell BK241.out 2).trans rfl
        have hcz27_3 : wc.cell? ⟨gb241, 3, none⟩ = some (.int .i64 a0_3) := (blk_cell BK241.out 3).trans rfl
        have hfz27_0 := blk_frozen BK241.out 0
        have hfz27_1 := blk_frozen BK241.out 1
        have hfz27_2 := blk_frozen BK241.out 2
        have hfz27_3 := blk_frozen BK241.out 3
        try go_wp2_with (first | ((with_reducible refine gate_callee (f := 15) rfl ?_); refine goesL_ (some 22) rfl rfl Try.func15 (by kernel_rfl) rfl #[.agg #[.int .i64 a0_0, .int .i64 a0_1, .int .i64 a0_2, .int .i64 a0_3], .int .i64 2] rfl (by (try simp only [List.map_toArray, List.map_cons, List.map_nil]); first | done | rfl | (simp only [List.length_drop, List.length_take]; rfl)) ?_; (with_reducible refine (count_Step.calls a0_0 a0_1 a0_2 a0_3 2 t244 t245 t246 t247 _ A15.out).mono ?_); rintro e w28 ⟨rfl, hb⟩; refine ⟨_, rfl, ?_⟩; have n0_ := aM (blk_below (g := gb241) (o := .cells #[.int .i64 a0_0, .int .i64 a0_1, .int .i64 a0_2, .int .i64 a0_3] 23 (0, 0)) (by (with_reducible repeat (first | refine bN ?_ _ | refine bW ?_ | refine bA ?_ _)); exact BK241.out) hb); have n1_ := aM (below_step (by repeat (first | (with_reducible first | exact HB.out | apply lA | apply lN | apply lW | refine lS ?_ GE241.out) | exact HB.out)) hb); clear BK241; clear HB; have BK241 := n0_; have HB := n1_; clear n0_ n1_; (try clear hb); (try clear hb2); (try clear hk); (try clear hi)) | ((with_reducible refine gate_callee (f := 19) rfl ?_); refine goesL_ (some 24) rfl rfl Try.func19 (by kernel_rfl) rfl #[.int .i64 1, .int .i64 ji14] rfl (by (try simp only [List.map_toArray, List.map_cons, List.map_nil]); first | done | (simp only [hji14]; rfl) | rfl | (simp only [List.length_drop, List.length_take]; rfl)) ?_; (with_reducible refine (phaetonlaw08_times.calls kj2 1 ji14 t248 _ A16.out).mono ?_); rintro e w29 ⟨v249, rfl, ho0, hb⟩; refine ⟨_, rfl, ?_⟩; have n0_ := aM (Kd.R_lower ho0 (below_size (by repeat (first | (with_reducible first | exact HB.out | apply lA | apply lN | apply lW | refine lS ?_ GE241.out) | exact HB.out)))); have n1_ := aM (blk_below (g := gb241) (o := .cells #[.int .i64 a0_0, .int .i64 a0_1, .int .i64 a0_2, .int .i64 a0_3] 23 (0, 0)) (by (with_reducible repeat (first | refine bN ?_ _ | refine bW ?_ | refine bA ?_ _)); exact BK241.out) hb); have n2_ := aM (below_step (by repeat (first | (with_reducible first | exact HB.out | apply lA | apply lN | apply lW | refine lS ?_ GE241.out) | exact HB.out)) hb); clear BK241; clear HB; have HO250 := n0_; have BK241 := n1_; have HB := n2_; clear n0_ n1_ n2_; (try clear hb); (try clear hb2); (try clear hk); (try clear hi); (try clear ho0); obtain ⟨Ao30, co30, eo30⟩ := Kd.R_slice HO250.out; subst eo30) | ((with_reducible refine gate_callee (f := 17) rfl ?_); refine goesL_ (some 25) rfl rfl Try.func17 (by kernel_rfl) rfl #[.agg #[.int .i64 t244, .int .i64 t245, .int .i64 t246, .int .i64 t247], .slice Ao30 t248.length co30] rfl (by (try simp only [List.map_toArray, List.map_cons, List.map_nil]); first | done | rfl | (simp only [List.length_drop, List.length_take]; rfl)) ?_; (with_reducible refine (count_Steps.calls kj2 t244 t245 t246 t247 _ _ t248 t251 t252 t253 t254 _ ?side1 ?side2 A17.out).mono ?_); (case side1 => repeat (first | exact (Kd.R_reads' HO250.out).2.2 | (with_reducible refine Kd.C_alloc ?_ _) | (with_reducible refine Kd.C_drewN ?_ _) | (with_reducible refine Kd.C_drew ?_))); (case side2 => exact (Kd.R_reads' HO250.out).2.1); rintro e w31 ⟨rfl, hb⟩; refine ⟨_, rfl, ?_⟩; have n0_ := aM (Kd.R_below (by (with_reducible repeat (first | apply rA | apply rN | apply rW)); exact HO250.out) hb); have n1_ := aM (blk_below (g := gb241) (o := .cells #[.int .i64 a0_0, .int .i64 a0_1, .int .i64 a0_2, .int .i64 a0_3] 23 (0, 0)) (by (with_reducible repeat (first | refine bN ?_ _ | refine bW ?_ | refine bA ?_ _)); exact BK241.out) hb); have n2_ := aM (below_step (by repeat (first | (with_reducible first | exact HB.out | apply lA | apply lN | apply lW | refine lS ?_ GE241.out) | exact HB.out)) hb); clear HO250; clear BK241; clear HB; have HO250 := n0_; have BK241 := n1_; have HB := n2_; clear n0_ n1_ n2_; (try clear hb); (try clear hb2); (try clear hk); (try clear hi)) | ((with_reducible refine gate_dst (N := 5) rfl ?_); refine box_event ?hg (N := 5) ?hd (cs := #[.int .i64 0, .int .i64 0, .int .i64 0, .int .i64 0]) (t := 23) ?hr ?_; (case hd => rfl); (case hg => rfl); (case hr => first | (go_simp; done) | (go_simp; rfl)); intro gb255 hg w32 hbox hb; have n0_ := aM (Kd.R_below (by (with_reducible repeat (first | apply rA | apply rN | apply rW)); exact HO250.out) hb); have n1_ := aM (blk_below (g := gb241) (o := .cells #[.int .i64 a0_0, .int .i64 a0_1, .int .i64 a0_2, .int .i64 a0_3] 23 (0, 0)) (by (with_reducible repeat (first | refine bN ?_ _ | refine bW ?_ | refine bA ?_ _)); exact BK241.out) hb); have n2_ := aM (below_step (by repeat (first | (with_reducible first | exact HB.out | apply lA | apply lN | apply lW | refine lS ?_ GE241.out) | exact HB.out)) hb); have n3_ := aM (hbox); have n4_ := aM ((by rw [hg]; exact (below_size (by repeat (first | (with_reducible first | exact HB.out | apply lA | apply lN | apply lW | refine lS ?_ GE241.out) | exact HB.out))) : w.heap.size ≤ gb255)); have n5_ := aM ((by rw [hg]; exact (below_size (by repeat (first | (with_reducible first | exact HB.out | apply lA | apply lN | apply lW | refine lS ?_ GE241.out) | exact HB.out))) : w.heap.size ≤ gb255)); have n6_ := aM ((by rw [hg]; exact Nat.ne_of_lt (blk_lt (g := gb241) (o := .cells #[.int .i64 a0_0, .int .i64 a0_1, .int .i64 a0_2, .int .i64 a0_3] 23 (0, 0)) (by (with_reducible repeat (first | refine bN ?_ _ | refine bW ?_ | refine bA ?_ _)); exact BK241.out)) : gb241 ≠ gb255)); have n7_ := aM ((by rw [hg]; exact Nat.ne_of_gt (blk_lt (g := gb241) (o := .cells #[.int .i64 a0_0, .int .i64 a0_1, .int .i64 a0_2, .int .i64 a0_3] 23 (0, 0)) (by (with_reducible repeat (first | refine bN ?_ _ | refine bW ?_ | refine bA ?_ _)); exact BK241.out)) : gb255 ≠ gb241)); clear HO250; clear BK241; clear HB; have HO250 := n0_; have BK241 := n1_; have HB := n2_; have BK255 := n3_; have GW255 := n4_; have GE255 := n5_; have NB241_255 := n6_; have NB255_241 := n7_; clear n0_ n1_ n2_ n3_ n4_ n5_ n6_ n7_; clear hb hbox hg; have hnb33 := NB255_241.out; have hnc33 := NB241_255.out; have hcz34_0 : w32.cell? ⟨gb255, 0, none⟩ = some (.int .i64 0) := (blk_cell BK255.out 0).trans rfl; have hcz34_1 : w32.cell? ⟨gb255, 1, none⟩ = some (.int .i64 0) := (blk_cell BK255.out 1).trans rfl; have hcz34_2 : w32.cell? ⟨gb255, 2, none⟩ = some (.int .i64 0) := (blk_cell BK255.out 2).trans rfl; have hcz34_3 : w32.cell? ⟨gb255, 3, none⟩ = some (.int .i64 0) := (blk_cell BK255.out 3).trans rfl; have hfz34_0 := blk_frozen BK255.out 0; have hfz34_1 := blk_frozen BK255.out 1; have hfz34_2 := blk_frozen BK255.out 2; have hfz34_3 := blk_frozen BK255.out 3))
        have n0_ : Aside0 (Kd.R (Kd.int .i64) 3 ((((w32.setCell ⟨gb255, 0, none⟩ (.int .i64 t251)).setCell ⟨gb255, 1, none⟩ (.int .i64 t252)).setCell ⟨gb255, 2, none⟩ (.int .i64 t253)).setCell ⟨gb255, 3, none⟩ (.int .i64 t254)) w.heap.size (fun _ => True) (.slice Ao30 t248.length co30) t248) := ⟨by (with_reducible repeat (first | apply rA | apply rN | apply rW)); exact Kd.R_mono (Kd.R_far (p := ⟨gb255, 3, none⟩) (Kd.R_far (p := ⟨gb255, 2, none⟩) (Kd.R_far (p := ⟨gb255, 1, none⟩) (Kd.R_far (p := ⟨gb255, 0, none⟩) (Kd.R_types HO250.out BK255.out (by decide)) (fun _ hk => hk.2) (.int .i64 t251)) (fun _ hk => hk.2) (.int .i64 t252)) (fun _ hk => hk.2) (.int .i64 t253)) (fun _ hk => hk.2) (.int .i64 t254)) (fun _ hk => trivial)⟩
        have n1_ : Aside0 (((((w32.setCell ⟨gb255, 0, none⟩ (.int .i64 t251)).setCell ⟨gb255, 1, none⟩ (.int .i64 t252)).setCell ⟨gb255, 2, none⟩ (.int .i64 t253)).setCell ⟨gb255, 3, none⟩ (.int .i64 t254)).heap[gb241]? = some (.cells #[.int .i64 a0_0, .int .i64 a0_1, .int .i64 a0_2, .int .i64 a0_3] 23 (0, 0))) := ⟨by (with_reducible repeat (first | refine bN ?_ _ | refine bW ?_ | refine bA ?_ _)); refine blk_far ?_ NB241_255.out _; (with_reducible repeat (first | refine bN ?_ _ | refine bW ?_ | refine bA ?_ _)); refine blk_far ?_ NB241_255.out _; (with_reducible repeat (first | refine bN ?_ _ | refine bW ?_ | refine bA ?_ _)); refine blk_far ?_ NB241_255.out _; (with_reducible repeat (first | refine bN ?_ _ | refine bW ?_ | refine bA ?_ _)); refine blk_far ?_ NB241_255.out _; (with_reducible repeat (first | refine bN ?_ _ | refine bW ?_ | refine bA ?_ _)); exact BK241.out⟩
        have n2_ : Aside0 (((((w32.setCell ⟨gb255, 0, none⟩ (.int .i64 t251)).setCell ⟨gb255, 1, none⟩ (.int .i64 t252)).setCell ⟨gb255, 2, none⟩ (.int .i64 t253)).setCell ⟨gb255, 3, none⟩ (.int .i64 t254)).heap[gb255]? = some (.cells #[.int .i64 t251, .int .i64 t252, .int .i64 t253, .int .i64 t254] 23 (0, 0))) := ⟨by (with_reducible repeat (first | refine bN ?_ _ | refine bW ?_ | refine bA ?_ _)); refine blk_put (cs := #[.int .i64 t251, .int .i64 t252, .int .i64 t253, .int .i64 0]) ?_ 3 _ rfl; (with_reducible repeat (first | refine bN ?_ _ | refine bW ?_ | refine bA ?_ _)); refine blk_put (cs := #[.int .i64 t251, .int .i64 t252, .int .i64 0, .int .i64 0]) ?_ 2 _ rfl; (with_reducible repeat (first | refine bN ?_ _ | refine bW ?_ | refine bA ?_ _)); refine blk_put (cs := #[.int .i64 t251, .int .i64 0, .int .i64 0, .int .i64 0]) ?_ 1 _ rfl; (with_reducible repeat (first | refine bN ?_ _ | refine bW ?_ | refine bA ?_ _)); refine blk_put (cs := #[.int .i64 0, .int .i64 0, .int .i64 0, .int .i64 0]) ?_ 0 _ rfl; (with_reducible repeat (first | refine bN ?_ _ | refine bW ?_ | refine bA ?_ _)); exact BK255.out⟩
        have n3_ : Aside0 (Below w.heap.size w ((((w32.setCell ⟨gb255, 0, none⟩ (.int .i64 t251)).setCell ⟨gb255, 1, none⟩ (.int .i64 t252)).setCell ⟨gb255, 2, none⟩ (.int .i64 t253)).setCell ⟨gb255, 3, none⟩ (.int .i64 t254))) := ⟨by repeat (first | (with_reducible first | exact HB.out | apply lA | apply lN | apply lW | refine lS ?_ GE241.out | refine lS ?_ GE255.out) | exact HB.out)⟩
        (try clear HO250)
        (try clear BK241)
        (try clear BK255)
        (try clear HB)
        generalize ((((w32.setCell ⟨gb255, 0, none⟩ (.int .i64 t251)).setCell ⟨gb255, 1, none⟩ (.int .i64 t252)).setCell ⟨gb255, 2, none⟩ (.int .i64 t253)).setCell ⟨gb255, 3, none⟩ (.int .i64 t254)) = w35 at n0_ n1_ n2_ n3_ ⊢
        have HO250 := n0_
        have BK241 := n1_
        have BK255 := n2_
        have HB := n3_
        clear n0_ n1_ n2_ n3_
        have n0_ := aM (rW HO250.out)
        have n1_ := aM (bW BK241.out)
        have n2_ := aM (bW BK255.out)
        have n3_ := aM (lW HB.out)
        clear HO250
        clear BK241
        clear BK255
        clear HB
        have HO250 := n0_
        have BK241 := n1_
        have BK255 := n2_
        have HB := n3_
        clear n0_ n1_ n2_ n3_
        refine start_ (n := 7) (S := fun w' => w'.cell? ⟨gb241, 0, none⟩ = some (.int .i64 a0_0) ∧ w'.cell? ⟨gb241, 1, none⟩ = some (.int .i64 a0_1) ∧ w'.cell? ⟨gb241, 2, none⟩ = some (.int .i64 a0_2) ∧ w'.cell? ⟨gb241, 3, none⟩ = some (.int .i64 a0_3)) (ds := []) #[false, false, false, false, false, false, false] (by kernel_rfl) rfl rfl ⟨(blk_cell BK241.out 0).trans rfl, (blk_cell BK241.out 1).trans rfl, (blk_cell BK241.out 2).trans rfl, (blk_cell BK241.out 3).trans rfl⟩ (fun hHeld => ?_)
        generalize w35.drew = w36 at HO250 BK241 BK255 HB hHeld ⊢
        refine take_ (i := 0) (N := some 26) (v := ?_) (a' := ?_) #[true, false, false, false, false, false, false] rfl rfl (by kernel_rfl) (fun _ _ _ h => h) (Or.inl ⟨by rfl, ?_⟩) hHeld ?_ ?_
        rotate_left
        ·rintro w' ⟨s0, s1, s2, s3⟩
         go_simp
         first | with_reducible rfl | (simp [Instr.field, asAgg, part]; done) | (simp [Instr.field, asAgg, part]; rfl)
        rotate_left
        ·simp only [Act.put, sT, sZ, sS, i64_w, i32_w]
         rfl
        refine join_ (σ := Value × Value × Nat) 1 #[true, true, true, true, true, true, false] (fun s_ => [(27, s_.1), (28, .agg #[.int .i64 t259, .int .i64 t260, .int .i64 t261, .int .i64 t262]), (29, s_.2.1), (30, .agg #[.int .i64 t266, .int .i64 t267, .int .i64 t268, .int .i64 t269]), (6, .pointer (some ⟨s_.2.2, 0, none⟩))]) (fun s_ w' => (w'.cell? ⟨gb241, 0, none⟩ = some (.int .i64 a0_0) ∧ w'.cell? ⟨gb241, 1, none⟩ = some (.int .i64 a0_1) ∧ w'.cell? ⟨gb241, 2, none⟩ = some (.int .i64 a0_2) ∧ w'.cell? ⟨gb241, 3, none⟩ = some (.int .i64 a0_3)) ∧ (Kd.R (Kd.int .i64) 3 w' w.heap.size (fun k_ => some k_ ≠ (s_.1 : Value).ownBlock ∧ some k_ ≠ (s_.2.1 : Value).ownBlock) (.slice Ao30 t248.length co30) t248) ∧ (Kd.R (Kd.int .i64) 3 w' w.heap.size (fun k_ => some k_ ≠ (.slice Ao30 t248.length co30 : Value).ownBlock ∧ some k_ ≠ (s_.2.1 : Value).ownBlock) s_.1 t256) ∧ (Kd.R (Kd.int .i64) 3 w' w.heap.size (fun k_ => some k_ ≠ (.slice Ao30 t248.length co30 : Value).ownBlock ∧ some k_ ≠ (s_.1 : Value).ownBlock) s_.2.1 t263) ∧ (w'.heap[gb241]? = some (.cells #[.int .i64 a0_0, .int .i64 a0_1, .int .i64 a0_2, .int .i64 a0_3] 23 (0, 0))) ∧ (w'.heap[gb255]? = some (.cells #[.int .i64 t251, .int .i64 t252, .int .i64 t253, .int .i64 t254] 23 (0, 0))) ∧ (w'.heap[s_.2.2]? = some (.cells #[.int .i64 0, .int .i64 0, .int .i64 0, .int .i64 0] 23 (0, 0))) ∧ (w.heap.size ≤ s_.2.2) ∧ (w.heap.size ≤ s_.2.2) ∧ (gb241 ≠ s_.2.2) ∧ (s_.2.2 ≠ gb241) ∧ (gb255 ≠ s_.2.2) ∧ (s_.2.2 ≠ gb255) ∧ (Below w.heap.size w w')) ?_ ?_
        rotate_left
        ·intro hJ1_2_3_4_5
         refine join_ (σ := Value × Value) 2 #[true, true, true, true, true, false, false] (fun s_ => [(27, s_.1), (28, .agg #[.int .i64 t259, .int .i64 t260, .int .i64 t261, .int .i64 t262]), (29, s_.2), (30, .agg #[.int .i64 t266, .int .i64 t267, .int .i64 t268, .int .i64 t269])]) (fun s_ w' => (w'.cell? ⟨gb241, 0, none⟩ = some (.int .i64 a0_0) ∧ w'.cell? ⟨gb241, 1, none⟩ = some (.int .i64 a0_1) ∧ w'.cell? ⟨gb241, 2, none⟩ = some (.int .i64 a0_2) ∧ w'.cell? ⟨gb241, 3, none⟩ = some (.int .i64 a0_3)) ∧ (Kd.R (Kd.int .i64) 3 w' w.heap.size (fun k_ => some k_ ≠ (s_.1 : Value).ownBlock ∧ some k_ ≠ (s_.2 : Value).ownBlock) (.slice Ao30 t248.length co30) t248) ∧ (Kd.R (Kd.int .i64) 3 w' w.heap.size (fun k_ => some k_ ≠ (.slice Ao30 t248.length co30 : Value).ownBlock ∧ some k_ ≠ (s_.2 : Value).ownBlock) s_.1 t256) ∧ (Kd.R (Kd.int .i64) 3 w' w.heap.size (fun k_ => some k_ ≠ (.slice Ao30 t248.length co30 : Value).ownBlock ∧ some k_ ≠ (s_.1 : Value).ownBlock) s_.2 t263) ∧ (w'.heap[gb241]? = some (.cells #[.int .i64 a0_0, .int .i64 a0_1, .int .i64 a0_2, .int .i64 a0_3] 23 (0, 0))) ∧ (w'.heap[gb255]? = some (.cells #[.int .i64 t251, .int .i64 t252, .int .i64 t253, .int .i64 t254] 23 (0, 0))) ∧ (Below w.heap.size w w')) ?_ ?_
         rotate_left
         ·intro hJ1_2_3_4
          refine join_ (σ := Value × Value × Nat) 2 #[true, true, true, true, false, true, false] (fun s_ => [(27, s_.1), (28, .agg #[.int .i64 t259, .int .i64 t260, .int .i64 t261, .int .i64 t262]), (29, s_.2.1), (6, .pointer (some ⟨s_.2.2, 0, none⟩))]) (fun s_ w' => (w'.cell? ⟨gb241, 0, none⟩ = some (.int .i64 a0_0) ∧ w'.cell? ⟨gb241, 1, none⟩ = some (.int .i64 a0_1) ∧ w'.cell? ⟨gb241, 2, none⟩ = some (.int .i64 a0_2) ∧ w'.cell? ⟨gb241, 3, none⟩ = some (.int .i64 a0_3)) ∧ (Kd.R (Kd.int .i64) 3 w' w.heap.size (fun k_ => some k_ ≠ (s_.1 : Value).ownBlock ∧ some k_ ≠ (s_.2.1 : Value).ownBlock) (.slice Ao30 t248.length co30) t248) ∧ (Kd.R (Kd.int .i64) 3 w' w.heap.size (fun k_ => some k_ ≠ (.slice Ao30 t248.length co30 : Value).ownBlock ∧ some k_ ≠ (s_.2.1 : Value).ownBlock) s_.1 t256) ∧ (Kd.R (Kd.int .i64) 3 w' w.heap.size (fun k_ => some k_ ≠ (.slice Ao30 t248.length co30 : Value).ownBlock ∧ some k_ ≠ (s_.1 : Value).ownBlock) s_.2.1 t263) ∧ (w'.heap[gb241]? = some (.cells #[.int .i64 a0_0, .int .i64 a0_1, .int .i64 a0_2, .int .i64 a0_3] 23 (0, 0))) ∧ (w'.heap[gb255]? = some (.cells #[.int .i64 t251, .int .i64 t252, .int .i64 t253, .int .i64 t254] 23 (0, 0))) ∧ (w'.heap[s_.2.2]? = some (.cells #[.int .i64 0, .int .i64 0, .int .i64 0, .int .i64 0] 23 (0, 0))) ∧ (w.heap.size ≤ s_.2.2) ∧ (w.heap.size ≤ s_.2.2) ∧ (gb241 ≠ s_.2.2) ∧ (s_.2.2 ≠ gb241) ∧ (gb255 ≠ s_.2.2) ∧ (s_.2.2 ≠ gb255) ∧ (Below w.heap.size w w')) ?_ ?_
          rotate_left
          ·intro hJ1_2_3_5
           refine join_ (σ := Value × Value) 3 #[true, true, true, true, false, false, false] (fun s_ => [(27, s_.1), (28, .agg #[.int .i64 t259, .int .i64 t260, .int .i64 t261, .int .i64 t262]), (29, s_.2)]) (fun s_ w' => (w'.cell? ⟨gb241, 0, none⟩ = some (.int .i64 a0_0) ∧ w'.cell? ⟨gb241, 1, none⟩ = some (.int .i64 a0_1) ∧ w'.cell? ⟨gb241, 2, none⟩ = some (.int .i64 a0_2) ∧ w'.cell? ⟨gb241, 3, none⟩ = some (.int .i64 a0_3)) ∧ (Kd.R (Kd.int .i64) 3 w' w.heap.size (fun k_ => some k_ ≠ (s_.1 : Value).ownBlock ∧ some k_ ≠ (s_.2 : Value).ownBlock) (.slice Ao30 t248.length co30) t248) ∧ (Kd.R (Kd.int .i64) 3 w' w.heap.size (fun k_ => some k_ ≠ (.slice Ao30 t248.length co30 : Value).ownBlock ∧ some k_ ≠ (s_.2 : Value).ownBlock) s_.1 t256) ∧ (Kd.R (Kd.int .i64) 3 w' w.heap.size (fun k_ => some k_ ≠ (.slice Ao30 t248.length co30 : Value).ownBlock ∧ some k_ ≠ (s_.1 : Value).ownBlock) s_.2 t263) ∧ (w'.heap[gb241]? = some (.cells #[.int .i64 a0_0, .int .i64 a0_1, .int .i64 a0_2, .int .i64 a0_3] 23 (0, 0))) ∧ (w'.heap[gb255]? = some (.cells #[.int .i64 t251, .int .i64 t252, .int .i64 t253, .int .i64 t254] 23 (0, 0))) ∧ (Below w.heap.size w w')) ?_ ?_
           rotate_left
           ·intro hJ1_2_3
            refine join_ (σ := Value × Nat) 3 #[true, true, true, false, false, true, false] (fun s_ => [(27, s_.1), (28, .agg #[.int .i64 t259, .int .i64 t260, .int .i64 t261, .int .i64 t262]), (6, .pointer (some ⟨s_.2, 0, none⟩))]) (fun s_ w' => (w'.cell? ⟨gb241, 0, none⟩ = some (.int .i64 a0_0) ∧ w'.cell? ⟨gb241, 1, none⟩ = some (.int .i64 a0_1) ∧ w'.cell? ⟨gb241, 2, none⟩ = some (.int .i64 a0_2) ∧ w'.cell? ⟨gb241, 3, none⟩ = some (.int .i64 a0_3)) ∧ (Kd.R (Kd.int .i64) 3 w' w.heap.size (fun k_ => some k_ ≠ (s_.1 : Value).ownBlock) (.slice Ao30 t248.length co30) t248) ∧ (Kd.R (Kd.int .i64) 3 w' w.heap.size (fun k_ => some k_ ≠ (.slice Ao30 t248.length co30 : Value).ownBlock) s_.1 t256) ∧ (w'.heap[gb241]? = some (.cells #[.int .i64 a0_0, .int .i64 a0_1, .int .i64 a0_2, .int .i64 a0_3] 23 (0, 0))) ∧ (w'.heap[gb255]? = some (.cells #[.int .i64 t251, .int .i64 t252, .int .i64 t253, .int .i64 t254] 23 (0, 0))) ∧ (w'.heap[s_.2]? = some (.cells #[.int .i64 0, .int .i64 0, .int .i64 0, .int .i64 0] 23 (0, 0))) ∧ (w.heap.size ≤ s_.2) ∧ (w.heap.size ≤ s_.2) ∧ (gb241 ≠ s_.2) ∧ (s_.2 ≠ gb241) ∧ (gb255 ≠ s_.2) ∧ (s_.2 ≠ gb255) ∧ (Below w.heap.size w w')) ?_ ?_
            rotate_left
            ·intro hJ1_2_5
             refine join_ (σ := Value) 4 #[true, true, true, false, false, false, false] (fun s_ => [(27, s_), (28, .agg #[.int .i64 t259, .int .i64 t260, .int .i64 t261, .int .i64 t262])]) (fun s_ w' => (w'.cell? ⟨gb241, 0, none⟩ = some (.int .i64 a0_0) ∧ w'.cell? ⟨gb241, 1, none⟩ = some (.int .i64 a0_1) ∧ w'.cell? ⟨gb241, 2, none⟩ = some (.int .i64 a0_2) ∧ w'.cell? ⟨gb241, 3, none⟩ = some (.int .i64 a0_3)) ∧ (Kd.R (Kd.int .i64) 3 w' w.heap.size (fun k_ => some k_ ≠ (s_ : Value).ownBlock) (.slice Ao30 t248.length co30) t248) ∧ (Kd.R (Kd.int .i64) 3 w' w.heap.size (fun k_ => some k_ ≠ (.slice Ao30 t248.length co30 : Value).ownBlock) s_ t256) ∧ (w'.heap[gb241]? = some (.cells #[.int .i64 a0_0, .int .i64 a0_1, .int .i64 a0_2, .int .i64 a0_3] 23 (0, 0))) ∧ (w'.heap[gb255]? = some (.cells #[.int .i64 t251, .int .i64 t252, .int .i64 t253, .int .i64 t254] 23 (0, 0))) ∧ (Below w.heap.size w w')) ?_ ?_
             rotate_left
             ·intro hJ1_2
              refine join_ (σ := Value × Nat) 4 #[true, true, false, false, false, true, false] (fun s_ => [(27, s_.1), (6, .pointer (some ⟨s_.2, 0, none⟩))]) (fun s_ w' => (w'.cell? ⟨gb241, 0, none⟩ = some (.int .i64 a0_0) ∧ w'.cell? ⟨gb241, 1, none⟩ = some (.int .i64 a0_1) ∧ w'.cell? ⟨gb241, 2, none⟩ = some (.int .i64 a0_2) ∧ w'.cell? ⟨gb241, 3, none⟩ = some (.int .i64 a0_3)) ∧ (Kd.R (Kd.int .i64) 3 w' w.heap.size (fun k_ => some k_ ≠ (s_.1 : Value).ownBlock) (.slice Ao30 t248.length co30) t248) ∧ (Kd.R (Kd.int .i64) 3 w' w.heap.size (fun k_ => some k_ ≠ (.slice Ao30 t248.length co30 : Value).ownBlock) s_.1 t256) ∧ (w'.heap[gb241]? = some (.cells #[.int .i64 a0_0, .int .i64 a0_1, .int .i64 a0_2, .int .i64 a0_3] 23 (0, 0))) ∧ (w'.heap[gb255]? = some (.cells #[.int .i64 t251, .int .i64 t252, .int .i64 t253, .int .i64 t254] 23 (0, 0))) ∧ (w'.heap[s_.2]? = some (.cells #[.int .i64 0, .int .i64 0, .int .i64 0, .int .i64 0] 23 (0, 0))) ∧ (w.heap.size ≤ s_.2) ∧ (w.heap.size ≤ s_.2) ∧ (gb241 ≠ s_.2) ∧ (s_.2 ≠ gb241) ∧ (gb255 ≠ s_.2) ∧ (s_.2 ≠ gb255) ∧ (Below w.heap.size w w')) ?_ ?_
              rotate_left
              ·intro hJ1_5
               refine join_ (σ := Value) 5 #[true, true, false, false, false, false, false] (fun s_ => [(27, s_)]) (fun s_ w' => (w'.cell? ⟨gb241, 0, none⟩ = some (.int .i64 a0_0) ∧ w'.cell? ⟨gb241, 1, none⟩ = some (.int .i64 a0_1) ∧ w'.cell? ⟨gb241, 2, none⟩ = some (.int .i64 a0_2) ∧ w'.cell? ⟨gb241, 3, none⟩ = some (.int .i64 a0_3)) ∧ (Kd.R (Kd.int .i64) 3 w' w.heap.size (fun k_ => some k_ ≠ (s_ : Value).ownBlock) (.slice Ao30 t248.length co30) t248) ∧ (Kd.R (Kd.int .i64) 3 w' w.heap.size (fun k_ => some k_ ≠ (.slice Ao30 t248.length co30 : Value).ownBlock) s_ t256) ∧ (w'.heap[gb241]? = some (.cells #[.int .i64 a0_0, .int .i64 a0_1, .int .i64 a0_2, .int .i64 a0_3] 23 (0, 0))) ∧ (w'.heap[gb255]? = some (.cells #[.int .i64 t251, .int .i64 t252, .int .i64 t253, .int .i64 t254] 23 (0, 0))) ∧ (Below w.heap.size w w')) ?_ ?_
               rotate_left
               ·intro hJ1
                refine join_ (σ := Nat) 5 #[true, false, false, false, false, true, false] (fun s_ => [(6, .pointer (some ⟨s_, 0, none⟩))]) (fun s_ w' => (w'.cell? ⟨gb241, 0, none⟩ = some (.int .i64 a0_0) ∧ w'.cell? ⟨gb241, 1, none⟩ = some (.int .i64 a0_1) ∧ w'.cell? ⟨gb241, 2, none⟩ = some (.int .i64 a0_2) ∧ w'.cell? ⟨gb241, 3, none⟩ = some (.int .i64 a0_3)) ∧ (Kd.R (Kd.int .i64) 3 w' w.heap.size (fun _ => True) (.slice Ao30 t248.length co30) t248) ∧ (w'.heap[gb241]? = some (.cells #[.int .i64 a0_0, .int .i64 a0_1, .int .i64 a0_2, .int .i64 a0_3] 23 (0, 0))) ∧ (w'.heap[gb255]? = some (.cells #[.int .i64 t251, .int .i64 t252, .int .i64 t253, .int .i64 t254] 23 (0, 0))) ∧ (w'.heap[s_]? = some (.cells #[.int .i64 0, .int .i64 0, .int .i64 0, .int .i64 0] 23 (0, 0))) ∧ (w.heap.size ≤ s_) ∧ (w.heap.size ≤ s_) ∧ (gb241 ≠ s_) ∧ (s_ ≠ gb241) ∧ (gb255 ≠ s_) ∧ (s_ ≠ gb255) ∧ (Below w.heap.size w w')) ?_ ?_
                rotate_left
                ·intro hJ5
                 refine two_ (i := 1) (j := 5) (Ni := some 27) (Nj := some 6) #[true, true, false, false, false, false, false] #[true, false, false, false, false, true, false] rfl rfl rfl rfl (by kernel_rfl) (by decide) (by decide) (fun K hK => ?_) (fun K hK => ?_)
                 ·skip
                  refine goes_ Try.func19 (by kernel_rfl) rfl #[.int .i64 1, .int .i64 255] (by rfl) rfl rfl (by (try simp only [List.map_toArray, List.map_cons, List.map_nil]); first | done | rfl | (simp only [List.length_drop, List.length_take]; rfl)) ?_
                  with_reducible refine (phaetonlaw08_times.calls kj2 1 255 t256 _ A18.out).mono ?_
                  rintro e w37 ⟨v257, rfl, ho0, hb⟩
                  refine ⟨_, rfl, ?_⟩
                  have n0_ := aM (Kd.R_elder' (by (with_reducible repeat (first | apply rA | apply rN | apply rW)); exact HO250.out) (Kd.R_base ho0) hb)
                  have n1_ := aM (Kd.R_lower (Kd.R_new' ho0 (Kd.R_lt (by (with_reducible repeat (first | apply rA | apply rN | apply rW)); exact HO250.out))) (below_size (by repeat (first | (with_reducible first | exact HB.out | apply lA | apply lN | apply lW | refine lS ?_ GE241.out | refine lS ?_ GE255.out) | exact HB.out))))
                  have n2_ := aM (blk_below (g := gb241) (o := .cells #[.int .i64 a0_0, .int .i64 a0_1, .int .i64 a0_2, .int .i64 a0_3] 23 (0, 0)) (by (with_reducible repeat (first | refine bN ?_ _ | refine bW ?_ | refine bA ?_ _)); exact BK241.out) hb)
                  have n3_ := aM (blk_below (g := gb255) (o := .cells #[.int .i64 t251, .int .i64 t252, .int .i64 t253, .int .i64 t254] 23 (0, 0)) (by (with_reducible repeat (first | refine bN ?_ _ | refine bW ?_ | refine bA ?_ _)); exact BK255.out) hb)
                  have n4_ := aM (below_step (by repeat (first | (with_reducible first | exact HB.out | apply lA | apply lN | apply lW | refine lS ?_ GE241.out | refine lS ?_ GE255.out) | exact HB.out)) hb)
                  clear HO250
                  clear BK241
                  clear BK255
                  clear HB
                  have HO250 := n0_
                  have HO258 := n1_
                  have BK241 := n2_
                  have BK255 := n3_
                  have HB := n4_
                  clear n0_ n1_ n2_ n3_ n4_
                  (try clear hb)
                  (try clear hb2)
                  (try clear hk)
                  (try clear hi)
                  (try clear ho0)
                  refine hK.out _ _ ⟨(blk_cell BK241.out 0).trans rfl, (blk_cell BK241.out 1).trans rfl, (blk_cell BK241.out 2).trans rfl, (blk_cell BK241.out 3).trans rfl⟩ (fun hHeld => ?_)
                  clear hK K
                  refine norm_ (a' := ?_) ?_ ?_
                  rotate_left
                  ·show Act.put _ (some 27) _ = _
                   simp only [Act.put, sT, sZ, sS, i64_w, i32_w]
                   rfl
                  exact norm_ (by first | (simp only [putAll, Act.put, sT, sZ, sS]; done) | (simp only [putAll, Act.put, sT, sZ, sS]; rfl)) (hJ1 (v257) _ ⟨hHeld, (by (with_reducible repeat (first | apply rA | apply rN | apply rW)); exact Kd.R_mono HO250.out (fun _ hk => hk.2)), (by (with_reducible repeat (first | apply rA | apply rN | apply rW)); exact Kd.R_mono HO258.out (fun _ hk => hk.2)), (by (with_reducible repeat (first | refine bN ?_ _ | refine bW ?_ | refine bA ?_ _)); exact BK241.out), (by (with_reducible repeat (first | refine bN ?_ _ | refine bW ?_ | refine bA ?_ _)); exact BK255.out), (by repeat (first | (with_reducible first | exact HB.out | apply lA | apply lN | apply lW | refine lS ?_ GE241.out | refine lS ?_ GE255.out) | exact HB.out))⟩)
                 ·skip
                  refine box_step ?hg (N := 6) ?hd (cs := #[.int .i64 0, .int .i64 0, .int .i64 0, .int .i64 0]) (t := 23) ?hr ?_; (case hd => rfl); (case hg => rfl); (case hr => first | (go_simp; done) | (go_simp; rfl))
                  intro gb270 hg w37 hbox hb
                  have n0_ := aM (Kd.R_below (by (with_reducible repeat (first | apply rA | apply rN | apply rW)); exact HO250.out) hb)
                  have n1_ := aM (blk_below (g := gb241) (o := .cells #[.int .i64 a0_0, .int .i64 a0_1, .int .i64 a0_2, .int .i64 a0_3] 23 (0, 0)) (by (with_reducible repeat (first | refine bN ?_ _ | refine bW ?_ | refine bA ?_ _)); exact BK241.out) hb)
                  have n2_ := aM (blk_below (g := gb255) (o := .cells #[.int .i64 t251, .int .i64 t252, .int .i64 t253, .int .i64 t254] 23 (0, 0)) (by (with_reducible repeat (first | refine bN ?_ _ | refine bW ?_ | refine bA ?_ _)); exact BK255.out) hb)
                  have n3_ := aM (below_step (by repeat (first | (with_reducible first | exact HB.out | apply lA | apply lN | apply lW | refine lS ?_ GE241.out | refine lS ?_ GE255.out) | exact HB.out)) hb)
                  have n4_ := aM (hbox)
                  have n5_ := aM ((by rw [hg]; exact (below_size (by repeat (first | (with_reducible first | exact HB.out | apply lA | apply lN | apply lW | refine lS ?_ GE241.out | refine lS ?_ GE255.out) | exact HB.out))) : w.heap.size ≤ gb270))
                  have n6_ := aM ((by rw [hg]; exact (below_size (by repeat (first | (with_reducible first | exact HB.out | apply lA | apply lN | apply lW | refine lS ?_ GE241.out | refine lS ?_ GE255.out) | exact HB.out))) : w.heap.size ≤ gb270))
                  have n7_ := aM ((by rw [hg]; exact Nat.ne_of_lt (blk_lt (g := gb241) (o := .cells #[.int .i64 a0_0, .int .i64 a0_1, .int .i64 a0_2, .int .i64 a0_3] 23 (0, 0)) (by (with_reducible repeat (first | refine bN ?_ _ | refine bW ?_ | refine bA ?_ _)); exact BK241.out)) : gb241 ≠ gb270))
                  have n8_ := aM ((by rw [hg]; exact Nat.ne_of_gt (blk_lt (g := gb241) (o := .cells #[.int .i64 a0_0, .int .i64 a0_1, .int .i64 a0_2, .int .i64 a0_3] 23 (0, 0)) (by (with_reducible repeat (first | refine bN ?_ _ | refine bW ?_ | refine bA ?_ _)); exact BK241.out)) : gb270 ≠ gb241))
                  have n9_ := aM ((by rw [hg]; exact Nat.ne_of_lt (blk_lt (g := gb255) (o := .cells #[.int .i64 t251, .int .i64 t252, .int .i64 t253, .int .i64 t254] 23 (0, 0)) (by (with_reducible repeat (first | refine bN ?_ _ | refine bW ?_ | refine bA ?_ _)); exact BK255.out)) : gb255 ≠ gb270))
                  have n10_ := aM ((by rw [hg]; exact Nat.ne_of_gt (blk_lt (g := gb255) (o := .cells #[.int .i64 t251, .int .i64 t252, .int .i64 t253, .int .i64 t254] 23 (0, 0)) (by (with_reducible repeat (first | refine bN ?_ _ | refine bW ?_ | refine bA ?_ _)); exact BK255.out)) : gb270 ≠ gb255))
                  clear HO250
                  clear BK241
                  clear BK255
                  clear HB
                  have HO250 := n0_
                  have BK241 := n1_
                  have BK255 := n2_
                  have HB := n3_
                  have BK270 := n4_
                  have GW270 := n5_
                  have GE270 := n6_
                  have NB241_270 := n7_
                  have NB270_241 := n8_
                  have NB255_270 := n9_
                  have NB270_255 := n10_
                  clear n0_ n1_ n2_ n3_ n4_ n5_ n6_ n7_ n8_ n9_ n10_
                  clear hb hbox hg
                  refine hK.out _ _ ⟨(blk_cell BK241.out 0).trans rfl, (blk_cell BK241.out 1).trans rfl, (blk_cell BK241.out 2).trans rfl, (blk_cell BK241.out 3).trans rfl⟩ (fun hHeld => ?_)
                  clear hK K
                  refine norm_ (a' := ?_) ?_ ?_
                  rotate_left
                  ·show Act.put _ (some 6) _ = _
                   simp only [Act.put, sT, sZ, sS, i64_w, i32_w]
                   rfl
                  exact norm_ (by first | (simp only [putAll, Act.put, sT, sZ, sS]; done) | (simp only [putAll, Act.put, sT, sZ, sS]; rfl)) (hJ5 (gb270) _ ⟨hHeld, (by (with_reducible repeat (first | apply rA | apply rN | apply rW)); exact HO250.out), (by (with_reducible repeat (first | refine bN ?_ _ | refine bW ?_ | refine bA ?_ _)); exact BK241.out), (by (with_reducible repeat (first | refine bN ?_ _ | refine bW ?_ | refine bA ?_ _)); exact BK255.out), (by (with_reducible repeat (first | refine bN ?_ _ | refine bW ?_ | refine bA ?_ _)); exact BK270.out), GW270.out, GE270.out, NB241_270.out, NB270_241.out, NB255_270.out, NB270_255.out, (by repeat (first | (with_reducible first | exact HB.out | apply lA | apply lN | apply lW | refine lS ?_ GE241.out | refine lS ?_ GE255.out | refine lS ?_ GE270.out) | exact HB.out))⟩)
                ·skip
                 rintro gb270 w38 ⟨hS_, h0_, h1_, h2_, h3_, h4_, h5_, h6_, h7_, h8_, h9_, h10_⟩
                 have n0_ : Aside0 (Kd.R (Kd.int .i64) 3 w38 w.heap.size (fun _ => True) (.slice Ao30 t248.length co30) t248) := ⟨h0_⟩
                 have n1_ : Aside0 (w38.heap[gb241]? = some (.cells #[.int .i64 a0_0, .int .i64 a0_1, .int .i64 a0_2, .int .i64 a0_3] 23 (0, 0))) := ⟨h1_⟩
                 have n2_ : Aside0 (w38.heap[gb255]? = some (.cells #[.int .i64 t251, .int .i64 t252, .int .i64 t253, .int .i64 t254] 23 (0, 0))) := ⟨h2_⟩
                 have n3_ : Aside0 (w38.heap[gb270]? = some (.cells #[.int .i64 0, .int .i64 0, .int .i64 0, .int .i64 0] 23 (0, 0))) := ⟨h3_⟩
                 have n4_ : Aside0 (w.heap.size ≤ gb270) := ⟨h4_⟩
                 have n5_ : Aside0 (w.heap.size ≤ gb270) := ⟨h5_⟩
                 have n6_ : Aside0 (gb241 ≠ gb270) := ⟨h6_⟩
                 have n7_ : Aside0 (gb270 ≠ gb241) := ⟨h7_⟩
                 have n8_ : Aside0 (gb255 ≠ gb270) := ⟨h8_⟩
                 have n9_ : Aside0 (gb270 ≠ gb255) := ⟨h9_⟩
                 have n10_ : Aside0 (Below w.heap.size w w38) := ⟨h10_⟩
                 clear HO250
                 clear BK241
                 clear BK255
                 clear HB
                 clear h0_ h1_ h2_ h3_ h4_ h5_ h6_ h7_ h8_ h9_ h10_
                 have HO250 := n0_
                 have BK241 := n1_
                 have BK255 := n2_
                 have BK270 := n3_
                 have GW270 := n4_
                 have GE270 := n5_
                 have NB241_270 := n6_
                 have NB270_241 := n7_
                 have NB255_270 := n8_
                 have NB270_255 := n9_
                 have HB := n10_
                 clear n0_ n1_ n2_ n3_ n4_ n5_ n6_ n7_ n8_ n9_ n10_
                 have hHeld : w38.cell? ⟨gb241, 0, none⟩ = some (.int .i64 a0_0) ∧ w38.cell? ⟨gb241, 1, none⟩ = some (.int .i64 a0_1) ∧ w38.cell? ⟨gb241, 2, none⟩ = some (.int .i64 a0_2) ∧ w38.cell? ⟨gb241, 3, none⟩ = some (.int .i64 a0_3) := hS_
                 refine norm_ (a' := ?_) ?_ ?_
                 rotate_left
                 ·simp only [putAll, Act.put, sT, sZ, sS]
                  rfl
                 refine one_ (i := 1) (N := some 27) #[true, true, false, false, false, true, false] rfl rfl (by kernel_rfl) (by decide) (fun K hK => ?_)
                 refine goes_ Try.func19 (by kernel_rfl) rfl #[.int .i64 1, .int .i64 255] (by rfl) rfl rfl (by (try simp only [List.map_toArray, List.map_cons, List.map_nil]); first | done | rfl | (simp only [List.length_drop, List.length_take]; rfl)) ?_
                 with_reducible refine (phaetonlaw08_times.calls kj2 1 255 t256 _ A18.out).mono ?_
                 rintro e w39 ⟨v257, rfl, ho0, hb⟩
                 refine ⟨_, rfl, ?_⟩
                 have n0_ := aM (Kd.R_elder' (by (with_reducible repeat (first | apply rA | apply rN | apply rW)); exact HO250.out) (Kd.R_base ho0) hb)
                 have n1_ := aM (Kd.R_lower (Kd.R_new' ho0 (Kd.R_lt (by (with_reducible repeat (first | apply rA | apply rN | apply rW)); exact HO250.out))) (below_size (by repeat (first | (with_reducible first | exact HB.out | apply lA | apply lN | apply lW | refine lS ?_ GE241.out | refine lS ?_ GE255.out | refine lS ?_ GE270.out) | exact HB.out))))
                 have n2_ := aM (blk_below (g := gb241) (o := .cells #[.int .i64 a0_0, .int .i64 a0_1, .int .i64 a0_2, .int .i64 a0_3] 23 (0, 0)) (by (with_reducible repeat (first | refine bN ?_ _ | refine bW ?_ | refine bA ?_ _)); exact BK241.out) hb)
                 have n3_ := aM (blk_below (g := gb255) (o := .cells #[.int .i64 t251, .int .i64 t252, .int .i64 t253, .int .i64 t254] 23 (0, 0)) (by (with_reducible repeat (first | refine bN ?_ _ | refine bW ?_ | refine bA ?_ _)); exact BK255.out) hb)
                 have n4_ := aM (blk_below (g := gb270) (o := .cells #[.int .i64 0, .int .i64 0, .int .i64 0, .int .i64 0] 23 (0, 0)) (by (with_reducible repeat (first | refine bN ?_ _ | refine bW ?_ | refine bA ?_ _)); exact BK270.out) hb)
                 have n5_ := aM (below_step (by repeat (first | (with_reducible first | exact HB.out | apply lA | apply lN | apply lW | refine lS ?_ GE241.out | refine lS ?_ GE255.out | refine lS ?_ GE270.out) | exact HB.out)) hb)
                 clear HO250
                 clear BK241
                 clear BK255
                 clear BK270
                 clear HB
                 have HO250 := n0_
                 have HO258 := n1_
                 have BK241 := n2_
                 have BK255 := n3_
                 have BK270 := n4_
                 have HB := n5_
                 clear n0_ n1_ n2_ n3_ n4_ n5_
                 (try clear hb)
                 (try clear hb2)
                 (try clear hk)
                 (try clear hi)
                 (try clear ho0)
                 refine hK.out _ _ ⟨(blk_cell BK241.out 0).trans rfl, (blk_cell BK241.out 1).trans rfl, (blk_cell BK241.out 2).trans rfl, (blk_cell BK241.out 3).trans rfl⟩ (fun hHeld => ?_)
                 clear hK K
                 refine norm_ (a' := ?_) ?_ ?_
                 rotate_left
                 ·show Act.put _ (some 27) _ = _
                  simp only [Act.put, sT, sZ, sS, i64_w, i32_w]
                  rfl
                 exact norm_ (by first | (simp only [putAll, Act.put, sT, sZ, sS]; done) | (simp only [putAll, Act.put, sT, sZ, sS]; rfl)) (hJ1_5 (v257, gb270) _ ⟨hHeld, (by (with_reducible repeat (first | apply rA | apply rN | apply rW)); exact Kd.R_mono HO250.out (fun _ hk => hk.2)), (by (with_reducible repeat (first | apply rA | apply rN | apply rW)); exact Kd.R_mono HO258.out (fun _ hk => hk.2)), (by (with_reducible repeat (first | refine bN ?_ _ | refine bW ?_ | refine bA ?_ _)); exact BK241.out), (by (with_reducible repeat (first | refine bN ?_ _ | refine bW ?_ | refine bA ?_ _)); exact BK255.out), (by (with_reducible repeat (first | refine bN ?_ _ | refine bW ?_ | refine bA ?_ _)); exact BK270.out), GW270.out, GE270.out, NB241_270.out, NB270_241.out, NB255_270.out, NB270_255.out, (by repeat (first | (with_reducible first | exact HB.out | apply lA | apply lN | apply lW | refine lS ?_ GE241.out | refine lS ?_ GE255.out | refine lS ?_ GE270.out) | exact HB.out))⟩)
               ·skip
                rintro v257 w38 ⟨hS_, h0_, h1_, h2_, h3_, h4_⟩
                have n0_ : Aside0 (Kd.R (Kd.int .i64) 3 w38 w.heap.size (fun k_ => some k_ ≠ (v257 : Value).ownBlock) (.slice Ao30 t248.length co30) t248) := ⟨h0_⟩
                have n1_ : Aside0 (Kd.R (Kd.int .i64) 3 w38 w.heap.size (fun k_ => some k_ ≠ (.slice Ao30 t248.length co30 : Value).ownBlock) v257 t256) := ⟨h1_⟩
                have n2_ : Aside0 (w38.heap[gb241]? = some (.cells #[.int .i64 a0_0, .int .i64 a0_1, .int .i64 a0_2, .int .i64 a0_3] 23 (0, 0))) := ⟨h2_⟩
                have n3_ : Aside0 (w38.heap[gb255]? = some (.cells #[.int .i64 t251, .int .i64 t252, .int .i64 t253, .int .i64 t254] 23 (0, 0))) := ⟨h3_⟩
                have n4_ : Aside0 (Below w.heap.size w w38) := ⟨h4_⟩
                clear HO250
                clear BK241
                clear BK255
                clear HB
                clear h0_ h1_ h2_ h3_ h4_
                have HO250 := n0_
                have HO258 := n1_
                have BK241 := n2_
                have BK255 := n3_
                have HB := n4_
                clear n0_ n1_ n2_ n3_ n4_
                have hHeld : w38.cell? ⟨gb241, 0, none⟩ = some (.int .i64 a0_0) ∧ w38.cell? ⟨gb241, 1, none⟩ = some (.int .i64 a0_1) ∧ w38.cell? ⟨gb241, 2, none⟩ = some (.int .i64 a0_2) ∧ w38.cell? ⟨gb241, 3, none⟩ = some (.int .i64 a0_3) := hS_
                obtain ⟨Ao39, co39, eo39⟩ := Kd.R_slice HO258.out
                (first | subst eo39 | (injection eo39 with f1_ f2_ f3_; have f4_ := f1_.symm; have f5_ := f3_.symm; clear f1_ f2_ f3_; subst f4_; subst f5_))
                refine norm_ (a' := ?_) ?_ ?_
                rotate_left
                ·simp only [putAll, Act.put, sT, sZ, sS]
                 rfl
                refine two_ (i := 2) (j := 5) (Ni := some 28) (Nj := some 6) #[true, true, true, false, false, false, false] #[true, true, false, false, false, true, false] rfl rfl rfl rfl (by kernel_rfl) (by decide) (by decide) (fun K hK => ?_) (fun K hK => ?_)
                ·skip
                 refine goes_ Try.func17 (by kernel_rfl) rfl #[.agg #[.int .i64 a0_0, .int .i64 a0_1, .int .i64 a0_2, .int .i64 a0_3], .slice Ao39 t256.length co39] (by rfl) rfl rfl (by (try simp only [List.map_toArray, List.map_cons, List.map_nil]); first | done | rfl | (simp only [List.length_drop, List.length_take]; rfl)) ?_
                 with_reducible refine (count_Steps.calls kj2 a0_0 a0_1 a0_2 a0_3 _ _ t256 t259 t260 t261 t262 _ ?side1 ?side2 A19.out).mono ?_
                 (case side1 => repeat (first | exact (Kd.R_reads' HO258.out).2.2 | (with_reducible refine Kd.C_alloc ?_ _) | (with_reducible refine Kd.C_drewN ?_ _) | (with_reducible refine Kd.C_drew ?_)))
                 (case side2 => exact (Kd.R_reads' HO258.out).2.1)
                 rintro e w40 ⟨rfl, hb⟩
                 refine ⟨_, rfl, ?_⟩
                 have n0_ := aM (Kd.R_below (by (with_reducible repeat (first | apply rA | apply rN | apply rW)); exact HO250.out) hb)
                 have n1_ := aM (Kd.R_below (by (with_reducible repeat (first | apply rA | apply rN | apply rW)); exact HO258.out) hb)
                 have n2_ := aM (blk_below (g := gb241) (o := .cells #[.int .i64 a0_0, .int .i64 a0_1, .int .i64 a0_2, .int .i64 a0_3] 23 (0, 0)) (by (with_reducible repeat (first | refine bN ?_ _ | refine bW ?_ | refine bA ?_ _)); exact BK241.out) hb)
                 have n3_ := aM (blk_below (g := gb255) (o := .cells #[.int .i64 t251, .int .i64 t252, .int .i64 t253, .int .i64 t254] 23 (0, 0)) (by (with_reducible repeat (first | refine bN ?_ _ | refine bW ?_ | refine bA ?_ _)); exact BK255.out) hb)
                 have n4_ := aM (below_step (by repeat (first | (with_reducible first | exact HB.out | apply lA | apply lN | apply lW | refine lS ?_ GE241.out | refine lS ?_ GE255.out) | exact HB.out)) hb)
                 clear HO250
                 clear HO258
                 clear BK241
                 clear BK255
                 clear HB
                 have HO250 := n0_
                 have HO258 := n1_
                 have BK241 := n2_
                 have BK255 := n3_
                 have HB := n4_
                 clear n0_ n1_ n2_ n3_ n4_
                 (try clear hb)
                 (try clear hb2)
                 (try clear hk)
                 (try clear hi)
                 refine hK.out _ _ ⟨(blk_cell BK241.out 0).trans rfl, (blk_cell BK241.out 1).trans rfl, (blk_cell BK241.out 2).trans rfl, (blk_cell BK241.out 3).trans rfl⟩ (fun hHeld => ?_)
                 clear hK K
                 refine norm_ (a' := ?_) ?_ ?_
                 rotate_left
                 ·show Act.put _ (some 28) _ = _
                  simp only [Act.put, sT, sZ, sS, i64_w, i32_w]
                  rfl
                 exact norm_ (by first | (simp only [putAll, Act.put, sT, sZ, sS]; done) | (simp only [putAll, Act.put, sT, sZ, sS]; rfl)) (hJ1_2 (.slice Ao39 t256.length co39) _ ⟨hHeld, (by (with_reducible repeat (first | apply rA | apply rN | apply rW)); exact HO250.out), (by (with_reducible repeat (first | apply rA | apply rN | apply rW)); exact HO258.out), (by (with_reducible repeat (first | refine bN ?_ _ | refine bW ?_ | refine bA ?_ _)); exact BK241.out), (by (with_reducible repeat (first | refine bN ?_ _ | refine bW ?_ | refine bA ?_ _)); exact BK255.out), (by repeat (first | (with_reducible first | exact HB.out | apply lA | apply lN | apply lW | refine lS ?_ GE241.out | refine lS ?_ GE255.out) | exact HB.out))⟩)
                ·skip
                 refine box_step ?hg (N := 6) ?hd (cs := #[.int .i64 0, .int .i64 0, .int .i64 0, .int .i64 0]) (t := 23) ?hr ?_; (case hd => rfl); (case hg => rfl); (case hr => first | (go_simp; done) | (go_simp; rfl))
                 intro gb270 hg w39 hbox hb
                 have n0_ := aM (Kd.R_below (by (with_reducible repeat (first | apply rA | apply rN | apply rW)); exact HO250.out) hb)
                 have n1_ := aM (Kd.R_below (by (with_reducible repeat (first | apply rA | apply rN | apply rW)); exact HO258.out) hb)
                 have n2_ := aM (blk_below (g := gb241) (o := .cells #[.int .i64 a0_0, .int .i64 a0_1, .int .i64 a0_2, .int .i64 a0_3] 23 (0, 0)) (by (with_reducible repeat (first | refine bN ?_ _ | refine bW ?_ | refine bA ?_ _)); exact BK241.out) hb)
                 have n3_ := aM (blk_below (g := gb255) (o := .cells #[.int .i64 t251, .int .i64 t252, .int .i64 t253, .int .i64 t254] 23 (0, 0)) (by (with_reducible repeat (first | refine bN ?_ _ | refine bW ?_ | refine bA ?_ _)); exact BK255.out) hb)
                 have n4_ := aM (below_step (by repeat (first | (with_reducible first | exact HB.out | apply lA | apply lN | apply lW | refine lS ?_ GE241.out | refine lS ?_ GE255.out) | exact HB.out)) hb)
                 have n5_ := aM (hbox)
                 have n6_ := aM ((by rw [hg]; exact (below_size (by repeat (first | (with_reducible first | exact HB.out | apply lA | apply lN | apply lW | refine lS ?_ GE241.out | refine lS ?_ GE255.out) | exact HB.out))) : w.heap.size ≤ gb270))
                 have n7_ := aM ((by rw [hg]; exact (below_size (by repeat (first | (with_reducible first | exact HB.out | apply lA | apply lN | apply lW | refine lS ?_ GE241.out | refine lS ?_ GE255.out) | exact HB.out))) : w.heap.size ≤ gb270))
                 have n8_ := aM ((by rw [hg]; exact Nat.ne_of_lt (blk_lt (g := gb241) (o := .cells #[.int .i64 a0_0, .int .i64 a0_1, .int .i64 a0_2, .int .i64 a0_3] 23 (0, 0)) (by (with_reducible repeat (first | refine bN ?_ _ | refine bW ?_ | refine bA ?_ _)); exact BK241.out)) : gb241 ≠ gb270))
                 have n9_ := aM ((by rw [hg]; exact Nat.ne_of_gt (blk_lt (g := gb241) (o := .cells #[.int .i64 a0_0, .int .i64 a0_1, .int .i64 a0_2, .int .i64 a0_3] 23 (0, 0)) (by (with_reducible repeat (first | refine bN ?_ _ | refine bW ?_ | refine bA ?_ _)); exact BK241.out)) : gb270 ≠ gb241))
                 have n10_ := aM ((by rw [hg]; exact Nat.ne_of_lt (blk_lt (g := gb255) (o := .cells #[.int .i64 t251, .int .i64 t252, .int .i64 t253, .int .i64 t254] 23 (0, 0)) (by (with_reducible repeat (first | refine bN ?_ _ | refine bW ?_ | refine bA ?_ _)); exact BK255.out)) : gb255 ≠ gb270))
                 have n11_ := aM ((by rw [hg]; exact Nat.ne_of_gt (blk_lt (g := gb255) (o := .cells #[.int .i64 t251, .int .i64 t252, .int .i64 t253, .int .i64 t254] 23 (0, 0)) (by (with_reducible repeat (first | refine bN ?_ _ | refine bW ?_ | refine bA ?_ _)); exact BK255.out)) : gb270 ≠ gb255))
                 clear HO250
                 clear HO258
                 clear BK241
                 clear BK255
                 clear HB
                 have HO250 := n0_
                 have HO258 := n1_
                 have BK241 := n2_
                 have BK255 := n3_
                 have HB := n4_
                 have BK270 := n5_
                 have GW270 := n6_
                 have GE270 := n7_
                 have NB241_270 := n8_
                 have NB270_241 := n9_
                 have NB255_270 := n10_
                 have NB270_255 := n11_
                 clear n0_ n1_ n2_ n3_ n4_ n5_ n6_ n7_ n8_ n9_ n10_ n11_
                 clear hb hbox hg
                 refine hK.out _ _ ⟨(blk_cell BK241.out 0).trans rfl, (blk_cell BK241.out 1).trans rfl, (blk_cell BK241.out 2).trans rfl, (blk_cell BK241.out 3).trans rfl⟩ (fun hHeld => ?_)
                 clear hK K
                 refine norm_ (a' := ?_) ?_ ?_
                 rotate_left
                 ·show Act.put _ (some 6) _ = _
                  simp only [Act.put, sT, sZ, sS, i64_w, i32_w]
                  rfl
                 exact norm_ (by first | (simp only [putAll, Act.put, sT, sZ, sS]; done) | (simp only [putAll, Act.put, sT, sZ, sS]; rfl)) (hJ1_5 ((.slice Ao39 t256.length co39), gb270) _ ⟨hHeld, (by (with_reducible repeat (first | apply rA | apply rN | apply rW)); exact HO250.out), (by (with_reducible repeat (first | apply rA | apply rN | apply rW)); exact HO258.out), (by (with_reducible repeat (first | refine bN ?_ _ | refine bW ?_ | refine bA ?_ _)); exact BK241.out), (by (with_reducible repeat (first | refine bN ?_ _ | refine bW ?_ | refine bA ?_ _)); exact BK255.out), (by (with_reducible repeat (first | refine bN ?_ _ | refine bW ?_ | refine bA ?_ _)); exact BK270.out), GW270.out, GE270.out, NB241_270.out, NB270_241.out, NB255_270.out, NB270_255.out, (by repeat (first | (with_reducible first | exact HB.out | apply lA | apply lN | apply lW | refine lS ?_ GE241.out | refine lS ?_ GE255.out | refine lS ?_ GE270.out) | exact HB.out))⟩)
              ·skip
               rintro ⟨v257, gb270⟩ w39 ⟨hS_, h0_, h1_, h2_, h3_, h4_, h5_, h6_, h7_, h8_, h9_, h10_, h11_⟩
               have n0_ : Aside0 (Kd.R (Kd.int .i64) 3 w39 w.heap.size (fun k_ => some k_ ≠ (v257 : Value).ownBlock) (.slice Ao30 t248.length co30) t248) := ⟨h0_⟩
               have n1_ : Aside0 (Kd.R (Kd.int .i64) 3 w39 w.heap.size (fun k_ => some k_ ≠ (.slice Ao30 t248.length co30 : Value).ownBlock) v257 t256) := ⟨h1_⟩
               have n2_ : Aside0 (w39.heap[gb241]? = some (.cells #[.int .i64 a0_0, .int .i64 a0_1, .int .i64 a0_2, .int .i64 a0_3] 23 (0, 0))) := ⟨h2_⟩
               have n3_ : Aside0 (w39.heap[gb255]? = some (.cells #[.int .i64 t251, .int .i64 t252, .int .i64 t253, .int .i64 t254] 23 (0, 0))) := ⟨h3_⟩
               have n4_ : Aside0 (w39.heap[gb270]? = some (.cells #[.int .i64 0, .int .i64 0, .int .i64 0, .int .i64 0] 23 (0, 0))) := ⟨h4_⟩
               have n5_ : Aside0 (w.heap.size ≤ gb270) := ⟨h5_⟩
               have n6_ : Aside0 (w.heap.size ≤ gb270) := ⟨h6_⟩
               have n7_ : Aside0 (gb241 ≠ gb270) := ⟨h7_⟩
               have n8_ : Aside0 (gb270 ≠ gb241) := ⟨h8_⟩
               have n9_ : Aside0 (gb255 ≠ gb270) := ⟨h9_⟩
               have n10_ : Aside0 (gb270 ≠ gb255) := ⟨h10_⟩
               have n11_ : Aside0 (Below w.heap.size w w39) := ⟨h11_⟩
               clear HO250
               clear BK241
               clear BK255
               clear HB
               clear h0_ h1_ h2_ h3_ h4_ h5_ h6_ h7_ h8_ h9_ h10_ h11_
               have HO250 := n0_
               have HO258 := n1_
               have BK241 := n2_
               have BK255 := n3_
               have BK270 := n4_
               have GW270 := n5_
               have GE270 := n6_
               have NB241_270 := n7_
               have NB270_241 := n8_
               have NB255_270 := n9_
               have NB270_255 := n10_
               have HB := n11_
               clear n0_ n1_ n2_ n3_ n4_ n5_ n6_ n7_ n8_ n9_ n10_ n11_
               have hHeld : w39.cell? ⟨gb241, 0, none⟩ = some (.int .i64 a0_0) ∧ w39.cell? ⟨gb241, 1, none⟩ = some (.int .i64 a0_1) ∧ w39.cell? ⟨gb241, 2, none⟩ = some (.int .i64 a0_2) ∧ w39.cell? ⟨gb241, 3, none⟩ = some (.int .i64 a0_3) := hS_
               obtain ⟨Ao40, co40, eo40⟩ := Kd.R_slice HO258.out
               (first | subst eo40 | (injection eo40 with f1_ f2_ f3_; have f4_ := f1_.symm; have f5_ := f3_.symm; clear f1_ f2_ f3_; subst f4_; subst f5_))
               refine norm_ (a' := ?_) ?_ ?_
               rotate_left
               ·simp only [putAll, Act.put, sT, sZ, sS]
                rfl
               refine one_ (i := 2) (N := some 28) #[true, true, true, false, false, true, false] rfl rfl (by kernel_rfl) (by decide) (fun K hK => ?_)
               refine goes_ Try.func17 (by kernel_rfl) rfl #[.agg #[.int .i64 a0_0, .int .i64 a0_1, .int .i64 a0_2, .int .i64 a0_3], .slice Ao40 t256.length co40] (by rfl) rfl rfl (by (try simp only [List.map_toArray, List.map_cons, List.map_nil]); first | done | rfl | (simp only [List.length_drop, List.length_take]; rfl)) ?_
               with_reducible refine (count_Steps.calls kj2 a0_0 a0_1 a0_2 a0_3 _ _ t256 t259 t260 t261 t262 _ ?side1 ?side2 A19.out).mono ?_
               (case side1 => repeat (first | exact (Kd.R_reads' HO258.out).2.2 | (with_reducible refine Kd.C_alloc ?_ _) | (with_reducible refine Kd.C_drewN ?_ _) | (with_reducible refine Kd.C_drew ?_)))
               (case side2 => exact (Kd.R_reads' HO258.out).2.1)
               rintro e w41 ⟨rfl, hb⟩
               refine ⟨_, rfl, ?_⟩
               have n0_ := aM (Kd.R_below (by (with_reducible repeat (first | apply rA | apply rN | apply rW)); exact HO250.out) hb)
               have n1_ := aM (Kd.R_below (by (with_reducible repeat (first | apply rA | apply rN | apply rW)); exact HO258.out) hb)
               have n2_ := aM (blk_below (g := gb241) (o := .cells #[.int .i64 a0_0, .int .i64 a0_1, .int .i64 a0_2, .int .i64 a0_3] 23 (0, 0)) (by (with_reducible repeat (first | refine bN ?_ _ | refine bW ?_ | refine bA ?_ _)); exact BK241.out) hb)
               have n3_ := aM (blk_below (g := gb255) (o := .cells #[.int .i64 t251, .int .i64 t252, .int .i64 t253, .int .i64 t254] 23 (0, 0)) (by (with_reducible repeat (first | refine bN ?_ _ | refine bW ?_ | refine bA ?_ _)); exact BK255.out) hb)
               have n4_ := aM (blk_below (g := gb270) (o := .cells #[.int .i64 0, .int .i64 0, .int .i64 0, .int .i64 0] 23 (0, 0)) (by (with_reducible repeat (first | refine bN ?_ _ | refine bW ?_ | refine bA ?_ _)); exact BK270.out) hb)
               have n5_ := aM (below_step (by repeat (first | (with_reducible first | exact HB.out | apply lA | apply lN | apply lW | refine lS ?_ GE241.out | refine lS ?_ GE255.out | refine lS ?_ GE270.out) | exact HB.out)) hb)
               clear HO250
               clear HO258
               clear BK241
               clear BK255
               clear BK270
               clear HB
               have HO250 := n0_
               have HO258 := n1_
               have BK241 := n2_
               have BK255 := n3_
               have BK270 := n4_
               have HB := n5_
               clear n0_ n1_ n2_ n3_ n4_ n5_
               (try clear hb)
               (try clear hb2)
               (try clear hk)
               (try clear hi)
               refine hK.out _ _ ⟨(blk_cell BK241.out 0).trans rfl, (blk_cell BK241.out 1).trans rfl, (blk_cell BK241.out 2).trans rfl, (blk_cell BK241.out 3).trans rfl⟩ (fun hHeld => ?_)
               clear hK K
               refine norm_ (a' := ?_) ?_ ?_
               rotate_left
               ·show Act.put _ (some 28) _ = _
                simp only [Act.put, sT, sZ, sS, i64_w, i32_w]
                rfl
               exact norm_ (by first | (simp only [putAll, Act.put, sT, sZ, sS]; done) | (simp only [putAll, Act.put, sT, sZ, sS]; rfl)) (hJ1_2_5 (.slice Ao40 t256.length co40, gb270) _ ⟨hHeld, (by (with_reducible repeat (first | apply rA | apply rN | apply rW)); exact HO250.out), (by (with_reducible repeat (first | apply rA | apply rN | apply rW)); exact HO258.out), (by (with_reducible repeat (first | refine bN ?_ _ | refine bW ?_ | refine bA ?_ _)); exact BK241.out), (by (with_reducible repeat (first | refine bN ?_ _ | refine bW ?_ | refine bA ?_ _)); exact BK255.out), (by (with_reducible repeat (first | refine bN ?_ _ | refine bW ?_ | refine bA ?_ _)); exact BK270.out), GW270.out, GE270.out, NB241_270.out, NB270_241.out, NB255_270.out, NB270_255.out, (by repeat (first | (with_reducible first | exact HB.out | apply lA | apply lN | apply lW | refine lS ?_ GE241.out | refine lS ?_ GE255.out | refine lS ?_ GE270.out) | exact HB.out))⟩)
             ·skip
              rintro v257 w40 ⟨hS_, h0_, h1_, h2_, h3_, h4_⟩
              have n0_ : Aside0 (Kd.R (Kd.int .i64) 3 w40 w.heap.size (fun k_ => some k_ ≠ (v257 : Value).ownBlock) (.slice Ao30 t248.length co30) t248) := ⟨h0_⟩
              have n1_ : Aside0 (Kd.R (Kd.int .i64) 3 w40 w.heap.size (fun k_ => some k_ ≠ (.slice Ao30 t248.length co30 : Value).ownBlock) v257 t256) := ⟨h1_⟩
              have n2_ : Aside0 (w40.heap[gb241]? = some (.cells #[.int .i64 a0_0, .int .i64 a0_1, .int .i64 a0_2, .int .i64 a0_3] 23 (0, 0))) := ⟨h2_⟩
              have n3_ : Aside0 (w40.heap[gb255]? = some (.cells #[.int .i64 t251, .int .i64 t252, .int .i64 t253, .int .i64 t254] 23 (0, 0))) := ⟨h3_⟩
              have n4_ : Aside0 (Below w.heap.size w w40) := ⟨h4_⟩
              clear HO250
              clear BK241
              clear BK255
              clear HB
              clear h0_ h1_ h2_ h3_ h4_
              have HO250 := n0_
              have HO258 := n1_
              have BK241 := n2_
              have BK255 := n3_
              have HB := n4_
              clear n0_ n1_ n2_ n3_ n4_
              have hHeld : w40.cell? ⟨gb241, 0, none⟩ = some (.int .i64 a0_0) ∧ w40.cell? ⟨gb241, 1, none⟩ = some (.int .i64 a0_1) ∧ w40.cell? ⟨gb241, 2, none⟩ = some (.int .i64 a0_2) ∧ w40.cell? ⟨gb241, 3, none⟩ = some (.int .i64 a0_3) := hS_
              refine norm_ (a' := ?_) ?_ ?_
              rotate_left
              ·simp only [putAll, Act.put, sT, sZ, sS]
               rfl
              refine two_ (i := 3) (j := 5) (Ni := some 29) (Nj := some 6) #[true, true, true, true, false, false, false] #[true, true, true, false, false, true, false] rfl rfl rfl rfl (by kernel_rfl) (by decide) (by decide) (fun K hK => ?_) (fun K hK => ?_)
              ·skip
               refine goes_ Try.func19 (by kernel_rfl) rfl #[.int .i64 2, .int .i64 255] (by rfl) rfl rfl (by (try simp only [List.map_toArray, List.map_cons, List.map_nil]); first | done | rfl | (simp only [List.length_drop, List.length_take]; rfl)) ?_
               with_reducible refine (phaetonlaw08_times.calls kj2 2 255 t263 _ A20.out).mono ?_
               rintro e w41 ⟨v264, rfl, ho0, hb⟩
               refine ⟨_, rfl, ?_⟩
               have n0_ := aM (Kd.R_elder' (by (with_reducible repeat (first | apply rA | apply rN | apply rW)); exact HO250.out) (Kd.R_base ho0) hb)
               have n1_ := aM (Kd.R_elder' (by (with_reducible repeat (first | apply rA | apply rN | apply rW)); exact HO258.out) (Kd.R_base ho0) hb)
               have n2_ := aM (Kd.R_lower (Kd.R_new' (Kd.R_new' ho0 (Kd.R_lt (by (with_reducible repeat (first | apply rA | apply rN | apply rW)); exact HO250.out))) (Kd.R_lt (by (with_reducible repeat (first | apply rA | apply rN | apply rW)); exact HO258.out))) (below_size (by repeat (first | (with_reducible first | exact HB.out | apply lA | apply lN | apply lW | refine lS ?_ GE241.out | refine lS ?_ GE255.out) | exact HB.out))))
               have n3_ := aM (blk_below (g := gb241) (o := .cells #[.int .i64 a0_0, .int .i64 a0_1, .int .i64 a0_2, .int .i64 a0_3] 23 (0, 0)) (by (with_reducible repeat (first | refine bN ?_ _ | refine bW ?_ | refine bA ?_ _)); exact BK241.out) hb)
               have n4_ := aM (blk_below (g := gb255) (o := .cells #[.int .i64 t251, .int .i64 t252, .int .i64 t253, .int .i64 t254] 23 (0, 0)) (by (with_reducible repeat (first | refine bN ?_ _ | refine bW ?_ | refine bA ?_ _)); exact BK255.out) hb)
               have n5_ := aM (below_step (by repeat (first | (with_reducible first | exact HB.out | apply lA | apply lN | apply lW | refine lS ?_ GE241.out | refine lS ?_ GE255.out) | exact HB.out)) hb)
               clear HO250
               clear HO258
               clear BK241
               clear BK255
               clear HB
               have HO250 := n0_
               have HO258 := n1_
               have HO265 := n2_
               have BK241 := n3_
               have BK255 := n4_
               have HB := n5_
               clear n0_ n1_ n2_ n3_ n4_ n5_
               (try clear hb)
               (try clear hb2)
               (try clear hk)
               (try clear hi)
               (try clear ho0)
               refine hK.out _ _ ⟨(blk_cell BK241.out 0).trans rfl, (blk_cell BK241.out 1).trans rfl, (blk_cell BK241.out 2).trans rfl, (blk_cell BK241.out 3).trans rfl⟩ (fun hHeld => ?_)
               clear hK K
               refine norm_ (a' := ?_) ?_ ?_
               rotate_left
               ·show Act.put _ (some 29) _ = _
                simp only [Act.put, sT, sZ, sS, i64_w, i32_w]
                rfl
               exact norm_ (by first | (simp only [putAll, Act.put, sT, sZ, sS]; done) | (simp only [putAll, Act.put, sT, sZ, sS]; rfl)) (hJ1_2_3 (v257, v264) _ ⟨hHeld, (by (with_reducible repeat (first | apply rA | apply rN | apply rW)); exact HO250.out), (by (with_reducible repeat (first | apply rA | apply rN | apply rW)); exact HO258.out), (by (with_reducible repeat (first | apply rA | apply rN | apply rW)); exact Kd.R_mono HO265.out (fun _ hk => ⟨hk.1.2, hk.2⟩)), (by (with_reducible repeat (first | refine bN ?_ _ | refine bW ?_ | refine bA ?_ _)); exact BK241.out), (by (with_reducible repeat (first | refine bN ?_ _ | refine bW ?_ | refine bA ?_ _)); exact BK255.out), (by repeat (first | (with_reducible first | exact HB.out | apply lA | apply lN | apply lW | refine lS ?_ GE241.out | refine lS ?_ GE255.out) | exact HB.out))⟩)
              ·skip
               refine box_step ?hg (N := 6) ?hd (cs := #[.int .i64 0, .int .i64 0, .int .i64 0, .int .i64 0]) (t := 23) ?hr ?_; (case hd => rfl); (case hg => rfl); (case hr => first | (go_simp; done) | (go_simp; rfl))
               intro gb270 hg w41 hbox hb
               have n0_ := aM (Kd.R_below (by (with_reducible repeat (first | apply rA | apply rN | apply rW)); exact HO250.out) hb)
               have n1_ := aM (Kd.R_below (by (with_reducible repeat (first | apply rA | apply rN | apply rW)); exact HO258.out) hb)
               have n2_ := aM (blk_below (g := gb241) (o := .cells #[.int .i64 a0_0, .int .i64 a0_1, .int .i64 a0_2, .int .i64 a0_3] 23 (0, 0)) (by (with_reducible repeat (first | refine bN ?_ _ | refine bW ?_ | refine bA ?_ _)); exact BK241.out) hb)
               have n3_ := aM (blk_below (g := gb255) (o := .cells #[.int .i64 t251, .int .i64 t252, .int .i64 t253, .int .i64 t254] 23 (0, 0)) (by (with_reducible repeat (first | refine bN ?_ _ | refine bW ?_ | refine bA ?_ _)); exact BK255.out) hb)
               have n4_ := aM (below_step (by repeat (first | (with_reducible first | exact HB.out | apply lA | apply lN | apply lW | refine lS ?_ GE241.out | refine lS ?_ GE255.out) | exact HB.out)) hb)
               have n5_ := aM (hbox)
               have n6_ := aM ((by rw [hg]; exact (below_size (by repeat (first | (with_reducible first | exact HB.out | apply lA | apply lN | apply lW | refine lS ?_ GE241.out | refine lS ?_ GE255.out) | exact HB.out))) : w.heap.size ≤ gb270))
               have n7_ := aM ((by rw [hg]; exact (below_size (by repeat (first | (with_reducible first | exact HB.out | apply lA | apply lN | apply lW | refine lS ?_ GE241.out | refine lS ?_ GE255.out) | exact HB.out))) : w.heap.size ≤ gb270))
               have n8_ := aM ((by rw [hg]; exact Nat.ne_of_lt (blk_lt (g := gb241) (o := .cells #[.int .i64 a0_0, .int .i64 a0_1, .int .i64 a0_2, .int .i64 a0_3] 23 (0, 0)) (by (with_reducible repeat (first | refine bN ?_ _ | refine bW ?_ | refine bA ?_ _)); exact BK241.out)) : gb241 ≠ gb270))
               have n9_ := aM ((by rw [hg]; exact Nat.ne_of_gt (blk_lt (g := gb241) (o := .cells #[.int .i64 a0_0, .int .i64 a0_1, .int .i64 a0_2, .int .i64 a0_3] 23 (0, 0)) (by (with_reducible repeat (first | refine bN ?_ _ | refine bW ?_ | refine bA ?_ _)); exact BK241.out)) : gb270 ≠ gb241))
               have n10_ := aM ((by rw [hg]; exact Nat.ne_of_lt (blk_lt (g := gb255) (o := .cells #[.int .i64 t251, .int .i64 t252, .int .i64 t253, .int .i64 t254] 23 (0, 0)) (by (with_reducible repeat (first | refine bN ?_ _ | refine bW ?_ | refine bA ?_ _)); exact BK255.out)) : gb255 ≠ gb270))
               have n11_ := aM ((by rw [hg]; exact Nat.ne_of_gt (blk_lt (g := gb255) (o := .cells #[.int .i64 t251, .int .i64 t252, .int .i64 t253, .int .i64 t254] 23 (0, 0)) (by (with_reducible repeat (first | refine bN ?_ _ | refine bW ?_ | refine bA ?_ _)); exact BK255.out)) : gb270 ≠ gb255))
               clear HO250
               clear HO258
               clear BK241
               clear BK255
               clear HB
               have HO250 := n0_
               have HO258 := n1_
               have BK241 := n2_
               have BK255 := n3_
               have HB := n4_
               have BK270 := n5_
               have GW270 := n6_
               have GE270 := n7_
               have NB241_270 := n8_
               have NB270_241 := n9_
               have NB255_270 := n10_
               have NB270_255 := n11_
               clear n0_ n1_ n2_ n3_ n4_ n5_ n6_ n7_ n8_ n9_ n10_ n11_
               clear hb hbox hg
               refine hK.out _ _ ⟨(blk_cell BK241.out 0).trans rfl, (blk_cell BK241.out 1).trans rfl, (blk_cell BK241.out 2).trans rfl, (blk_cell BK241.out 3).trans rfl⟩ (fun hHeld => ?_)
               clear hK K
               refine norm_ (a' := ?_) ?_ ?_
               rotate_left
               ·show Act.put _ (some 6) _ = _
                simp only [Act.put, sT, sZ, sS, i64_w, i32_w]
                rfl
               exact norm_ (by first | (simp only [putAll, Act.put, sT, sZ, sS]; done) | (simp only [putAll, Act.put, sT, sZ, sS]; rfl)) (hJ1_2_5 (v257, gb270) _ ⟨hHeld, (by (with_reducible repeat (first | apply rA | apply rN | apply rW)); exact HO250.out), (by (with_reducible repeat (first | apply rA | apply rN | apply rW)); exact HO258.out), (by (with_reducible repeat (first | refine bN ?_ _ | refine bW ?_ | refine bA ?_ _)); exact BK241.out), (by (with_reducible repeat (first | refine bN ?_ _ | refine bW ?_ | refine bA ?_ _)); exact BK255.out), (by (with_reducible repeat (first | refine bN ?_ _ | refine bW ?_ | refine bA ?_ _)); exact BK270.out), GW270.out, GE270.out, NB241_270.out, NB270_241.out, NB255_270.out, NB270_255.out, (by repeat (first | (with_reducible first | exact HB.out | apply lA | apply lN | apply lW | refine lS ?_ GE241.out | refine lS ?_ GE255.out | refine lS ?_ GE270.out) | exact HB.out))⟩)
            ·skip
             rintro ⟨v257, gb270⟩ w41 ⟨hS_, h0_, h1_, h2_, h3_, h4_, h5_, h6_, h7_, h8_, h9_, h10_, h11_⟩
             have n0_ : Aside0 (Kd.R (Kd.int .i64) 3 w41 w.heap.size (fun k_ => some k_ ≠ (v257 : Value).ownBlock) (.slice Ao30 t248.length co30) t248) := ⟨h0_⟩
             have n1_ : Aside0 (Kd.R (Kd.int .i64) 3 w41 w.heap.size (fun k_ => some k_ ≠ (.slice Ao30 t248.length co30 : Value).ownBlock) v257 t256) := ⟨h1_⟩
             have n2_ : Aside0 (w41.heap[gb241]? = some (.cells #[.int .i64 a0_0, .int .i64 a0_1, .int .i64 a0_2, .int .i64 a0_3] 23 (0, 0))) := ⟨h2_⟩
             have n3_ : Aside0 (w41.heap[gb255]? = some (.cells #[.int .i64 t251, .int .i64 t252, .int .i64 t253, .int .i64 t254] 23 (0, 0))) := ⟨h3_⟩
             have n4_ : Aside0 (w41.heap[gb270]? = some (.cells #[.int .i64 0, .int .i64 0, .int .i64 0, .int .i64 0] 23 (0, 0))) := ⟨h4_⟩
             have n5_ : Aside0 (w.heap.size ≤ gb270) := ⟨h5_⟩
             have n6_ : Aside0 (w.heap.size ≤ gb270) := ⟨h6_⟩
             have n7_ : Aside0 (gb241 ≠ gb270) := ⟨h7_⟩
             have n8_ : Aside0 (gb270 ≠ gb241) := ⟨h8_⟩
             have n9_ : Aside0 (gb255 ≠ gb270) := ⟨h9_⟩
             have n10_ : Aside0 (gb270 ≠ gb255) := ⟨h10_⟩
             have n11_ : Aside0 (Below w.heap.size w w41) := ⟨h11_⟩
             clear HO250
             clear BK241
             clear BK255
             clear HB
             clear h0_ h1_ h2_ h3_ h4_ h5_ h6_ h7_ h8_ h9_ h10_ h11_
             have HO250 := n0_
             have HO258 := n1_
             have BK241 := n2_
             have BK255 := n3_
             have BK270 := n4_
             have GW270 := n5_
             have GE270 := n6_
             have NB241_270 := n7_
             have NB270_241 := n8_
             have NB255_270 := n9_
             have NB270_255 := n10_
             have HB := n11_
             clear n0_ n1_ n2_ n3_ n4_ n5_ n6_ n7_ n8_ n9_ n10_ n11_
             have hHeld : w41.cell? ⟨gb241, 0, none⟩ = some (.int .i64 a0_0) ∧ w41.cell? ⟨gb241, 1, none⟩ = some (.int .i64 a0_1) ∧ w41.cell? ⟨gb241, 2, none⟩ = some (.int .i64 a0_2) ∧ w41.cell? ⟨gb241, 3, none⟩ = some (.int .i64 a0_3) := hS_
             refine norm_ (a' := ?_) ?_ ?_
             rotate_left
             ·simp only [putAll, Act.put, sT, sZ, sS]
              rfl
             refine one_ (i := 3) (N := some 29) #[true, true, true, true, false, true, false] rfl rfl (by kernel_rfl) (by decide) (fun K hK => ?_)
             refine goes_ Try.func19 (by kernel_rfl) rfl #[.int .i64 2, .int .i64 255] (by rfl) rfl rfl (by (try simp only [List.map_toArray, List.map_cons, List.map_nil]); first | done | rfl | (simp only [List.length_drop, List.length_take]; rfl)) ?_
             with_reducible refine (phaetonlaw08_times.calls kj2 2 255 t263 _ A20.out).mono ?_
             rintro e w42 ⟨v264, rfl, ho0, hb⟩
             refine ⟨_, rfl, ?_⟩
             have n0_ := aM (Kd.R_elder' (by (with_reducible repeat (first | apply rA | apply rN | apply rW)); exact HO250.out) (Kd.R_base ho0) hb)
             have n1_ := aM (Kd.R_elder' (by (with_reducible repeat (first | apply rA | apply rN | apply rW)); exact HO258.out) (Kd.R_base ho0) hb)
             have n2_ := aM (Kd.R_lower (Kd.R_new' (Kd.R_new' ho0 (Kd.R_lt (by (with_reducible repeat (first | apply rA | apply rN | apply rW)); exact HO250.out))) (Kd.R_lt (by (with_reducible repeat (first | apply rA | apply rN | apply rW)); exact HO258.out))) (below_size (by repeat (first | (with_reducible first | exact HB.out | apply lA | apply lN | apply lW | refine lS ?_ GE241.out | refine lS ?_ GE255.out | refine lS ?_ GE270.out) | exact HB.out))))
             have n3_ := aM (blk_below (g := gb241) (o := .cells #[.int .i64 a0_0, .int .i64 a0_1, .int .i64 a0_2, .int .i64 a0_3] 23 (0, 0)) (by (with_reducible repeat (first | refine bN ?_ _ | refine bW ?_ | refine bA ?_ _)); exact BK241.out) hb)
             have n4_ := aM (blk_below (g := gb255) (o := .cells #[.int .i64 t251, .int .i64 t252, .int .i64 t253, .int .i64 t254] 23 (0, 0)) (by (with_reducible repeat (first | refine bN ?_ _ | refine bW ?_ | refine bA ?_ _)); exact BK255.out) hb)
             have n5_ := aM (blk_below (g := gb270) (o := .cells #[.int .i64 0, .int .i64 0, .int .i64 0, .int .i64 0] 23 (0, 0)) (by (with_reducible repeat (first | refine bN ?_ _ | refine bW ?_ | refine bA ?_ _)); exact BK270.out) hb)
             have n6_ := aM (below_step (by repeat (first | (with_reducible first | exact HB.out | apply lA | apply lN | apply lW | refine lS ?_ GE241.out | refine lS ?_ GE255.out | refine lS ?_ GE270.out) | exact HB.out)) hb)
             clear HO250
             clear HO258
             clear BK241
             clear BK255
             clear BK270
             clear HB
             have HO250 := n0_
             have HO258 := n1_
             have HO265 := n2_
             have BK241 := n3_
             have BK255 := n4_
             have BK270 := n5_
             have HB := n6_
             clear n0_ n1_ n2_ n3_ n4_ n5_ n6_
             (try clear hb)
             (try clear hb2)
             (try clear hk)
             (try clear hi)
             (try clear ho0)
             refine hK.out _ _ ⟨(blk_cell BK241.out 0).trans rfl, (blk_cell BK241.out 1).trans rfl, (blk_cell BK241.out 2).trans rfl, (blk_cell BK241.out 3).trans rfl⟩ (fun hHeld => ?_)
             clear hK K
             refine norm_ (a' := ?_) ?_ ?_
             rotate_left
             ·show Act.put _ (some 29) _ = _
              simp only [Act.put, sT, sZ, sS, i64_w, i32_w]
              rfl
             exact norm_ (by first | (simp only [putAll, Act.put, sT, sZ, sS]; done) | (simp only [putAll, Act.put, sT, sZ, sS]; rfl)) (hJ1_2_3_5 (v257, v264, gb270) _ ⟨hHeld, (by (with_reducible repeat (first | apply rA | apply rN | apply rW)); exact HO250.out), (by (with_reducible repeat (first | apply rA | apply rN | apply rW)); exact HO258.out), (by (with_reducible repeat (first | apply rA | apply rN | apply rW)); exact Kd.R_mono HO265.out (fun _ hk => ⟨hk.1.2, hk.2⟩)), (by (with_reducible repeat (first | refine bN ?_ _ | refine bW ?_ | refine bA ?_ _)); exact BK241.out), (by (with_reducible repeat (first | refine bN ?_ _ | refine bW ?_ | refine bA ?_ _)); exact BK255.out), (by (with_reducible repeat (first | refine bN ?_ _ | refine bW ?_ | refine bA ?_ _)); exact BK270.out), GW270.out, GE270.out, NB241_270.out, NB270_241.out, NB255_270.out, NB270_255.out, (by repeat (first | (with_reducible first | exact HB.out | apply lA | apply lN | apply lW | refine lS ?_ GE241.out | refine lS ?_ GE255.out | refine lS ?_ GE270.out) | exact HB.out))⟩)
           ·skip
            rintro ⟨v257, v264⟩ w41 ⟨hS_, h0_, h1_, h2_, h3_, h4_, h5_⟩
            have n0_ : Aside0 (Kd.R (Kd.int .i64) 3 w41 w.heap.size (fun k_ => some k_ ≠ (v257 : Value).ownBlock ∧ some k_ ≠ (v264 : Value).ownBlock) (.slice Ao30 t248.length co30) t248) := ⟨h0_⟩
            have n1_ : Aside0 (Kd.R (Kd.int .i64) 3 w41 w.heap.size (fun k_ => some k_ ≠ (.slice Ao30 t248.length co30 : Value).ownBlock ∧ some k_ ≠ (v264 : Value).ownBlock) v257 t256) := ⟨h1_⟩
            have n2_ : Aside0 (Kd.R (Kd.int .i64) 3 w41 w.heap.size (fun k_ => some k_ ≠ (.slice Ao30 t248.length co30 : Value).ownBlock ∧ some k_ ≠ (v257 : Value).ownBlock) v264 t263) := ⟨h2_⟩
            have n3_ : Aside0 (w41.heap[gb241]? = some (.cells #[.int .i64 a0_0, .int .i64 a0_1, .int .i64 a0_2, .int .i64 a0_3] 23 (0, 0))) := ⟨h3_⟩
            have n4_ : Aside0 (w41.heap[gb255]? = some (.cells #[.int .i64 t251, .int .i64 t252, .int .i64 t253, .int .i64 t254] 23 (0, 0))) := ⟨h4_⟩
            have n5_ : Aside0 (Below w.heap.size w w41) := ⟨h5_⟩
            clear HO250
            clear BK241
            clear BK255
            clear HB
            clear h0_ h1_ h2_ h3_ h4_ h5_
            have HO250 := n0_
            have HO258 := n1_
            have HO265 := n2_
            have BK241 := n3_
            have BK255 := n4_
            have HB := n5_
            clear n0_ n1_ n2_ n3_ n4_ n5_
            have hHeld : w41.cell? ⟨gb241, 0, none⟩ = some (.int .i64 a0_0) ∧ w41.cell? ⟨gb241, 1, none⟩ = some (.int .i64 a0_1) ∧ w41.cell? ⟨gb241, 2, none⟩ = some (.int .i64 a0_2) ∧ w41.cell? ⟨gb241, 3, none⟩ = some (.int .i64 a0_3) := hS_
            obtain ⟨Ao42, co42, eo42⟩ := Kd.R_slice HO265.out
            (first | subst eo42 | (injection eo42 with f1_ f2_ f3_; have f4_ := f1_.symm; have f5_ := f3_.symm; clear f1_ f2_ f3_; subst f4_; subst f5_))
            refine norm_ (a' := ?_) ?_ ?_
            rotate_left
            ·simp only [putAll, Act.put, sT, sZ, sS]
             rfl
            refine two_ (i := 4) (j := 5) (Ni := some 30) (Nj := some 6) #[true, true, true, true, true, false, false] #[true, true, true, true, false, true, false] rfl rfl rfl rfl (by kernel_rfl) (by decide) (by decide) (fun K hK => ?_) (fun K hK => ?_)
            ·skip
             refine goes_ Try.func17 (by kernel_rfl) rfl #[.agg #[.int .i64 t259, .int .i64 t260, .int .i64 t261, .int .i64 t262], .slice Ao42 t263.length co42] (by rfl) rfl rfl (by (try simp only [List.map_toArray, List.map_cons, List.map_nil]); first | done | rfl | (simp only [List.length_drop, List.length_take]; rfl)) ?_
             with_reducible refine (count_Steps.calls kj2 t259 t260 t261 t262 _ _ t263 t266 t267 t268 t269 _ ?side1 ?side2 A21.out).mono ?_
             (case side1 => repeat (first | exact (Kd.R_reads' HO265.out).2.2 | (with_reducible refine Kd.C_alloc ?_ _) | (with_reducible refine Kd.C_drewN ?_ _) | (with_reducible refine Kd.C_drew ?_)))
             (case side2 => exact (Kd.R_reads' HO265.out).2.1)
             rintro e w43 ⟨rfl, hb⟩
             refine ⟨_, rfl, ?_⟩
             have n0_ := aM (Kd.R_below (by (with_reducible repeat (first | apply rA | apply rN | apply rW)); exact HO250.out) hb)
             have n1_ := aM (Kd.R_below (by (with_reducible repeat (first | apply rA | apply rN | apply rW)); exact HO258.out) hb)
             have n2_ := aM (Kd.R_below (by (with_reducible repeat (first | apply rA | apply rN | apply rW)); exact HO265.out) hb)
             have n3_ := aM (blk_below (g := gb241) (o := .cells #[.int .i64 a0_0, .int .i64 a0_1, .int .i64 a0_2, .int .i64 a0_3] 23 (0, 0)) (by (with_reducible repeat (first | refine bN ?_ _ | refine bW ?_ | refine bA ?_ _)); exact BK241.out) hb)
             have n4_ := aM (blk_below (g := gb255) (o := .cells #[.int .i64 t251, .int .i64 t252, .int .i64 t253, .int .i64 t254] 23 (0, 0)) (by (with_reducible repeat (first | refine bN ?_ _ | refine bW ?_ | refine bA ?_ _)); exact BK255.out) hb)
             have n5_ := aM (below_step (by repeat (first | (with_reducible first | exact HB.out | apply lA | apply lN | apply lW | refine lS ?_ GE241.out | refine lS ?_ GE255.out) | exact HB.out)) hb)
             clear HO250
             clear HO258
             clear HO265
             clear BK241
             clear BK255
             clear HB
             have HO250 := n0_
             have HO258 := n1_
             have HO265 := n2_
             have BK241 := n3_
             have BK255 := n4_
             have HB := n5_
             clear n0_ n1_ n2_ n3_ n4_ n5_
             (try clear hb)
             (try clear hb2)
             (try clear hk)
             (try clear hi)
             refine hK.out _ _ ⟨(blk_cell BK241.out 0).trans rfl, (blk_cell BK241.out 1).trans rfl, (blk_cell BK241.out 2).trans rfl, (blk_cell BK241.out 3).trans rfl⟩ (fun hHeld => ?_)
             clear hK K
             refine norm_ (a' := ?_) ?_ ?_
             rotate_left
             ·show Act.put _ (some 30) _ = _
              simp only [Act.put, sT, sZ, sS, i64_w, i32_w]
              rfl
             exact norm_ (by first | (simp only [putAll, Act.put, sT, sZ, sS]; done) | (simp only [putAll, Act.put, sT, sZ, sS]; rfl)) (hJ1_2_3_4 (v257, .slice Ao42 t263.length co42) _ ⟨hHeld, (by (with_reducible repeat (first | apply rA | apply rN | apply rW)); exact HO250.out), (by (with_reducible repeat (first | apply rA | apply rN | apply rW)); exact HO258.out), (by (with_reducible repeat (first | apply rA | apply rN | apply rW)); exact HO265.out), (by (with_reducible repeat (first | refine bN ?_ _ | refine bW ?_ | refine bA ?_ _)); exact BK241.out), (by (with_reducible repeat (first | refine bN ?_ _ | refine bW ?_ | refine bA ?_ _)); exact BK255.out), (by repeat (first | (with_reducible first | exact HB.out | apply lA | apply lN | apply lW | refine lS ?_ GE241.out | refine lS ?_ GE255.out) | exact HB.out))⟩)
            ·skip
             refine box_step ?hg (N := 6) ?hd (cs := #[.int .i64 0, .int .i64 0, .int .i64 0, .int .i64 0]) (t := 23) ?hr ?_; (case hd => rfl); (case hg => rfl); (case hr => first | (go_simp; done) | (go_simp; rfl))
             intro gb270 hg w42 hbox hb
             have n0_ := aM (Kd.R_below (by (with_reducible repeat (first | apply rA | apply rN | apply rW)); exact HO250.out) hb)
             have n1_ := aM (Kd.R_below (by (with_reducible repeat (first | apply rA | apply rN | apply rW)); exact HO258.out) hb)
             have n2_ := aM (Kd.R_below (by (with_reducible repeat (first | apply rA | apply rN | apply rW)); exact HO265.out) hb)
             have n3_ := aM (blk_below (g := gb241) (o := .cells #[.int .i64 a0_0, .int .i64 a0_1, .int .i64 a0_2, .int .i64 a0_3] 23 (0, 0)) (by (with_reducible repeat (first | refine bN ?_ _ | refine bW ?_ | refine bA ?_ _)); exact BK241.out) hb)
             have n4_ := aM (blk_below (g := gb255) (o := .cells #[.int .i64 t251, .int .i64 t252, .int .i64 t253, .int .i64 t254] 23 (0, 0)) (by (with_reducible repeat (first | refine bN ?_ _ | refine bW ?_ | refine bA ?_ _)); exact BK255.out) hb)
             have n5_ := aM (below_step (by repeat (first | (with_reducible first | exact HB.out | apply lA | apply lN | apply lW | refine lS ?_ GE241.out | refine lS ?_ GE255.out) | exact HB.out)) hb)
             have n6_ := aM (hbox)
             have n7_ := aM ((by rw [hg]; exact (below_size (by repeat (first | (with_reducible first | exact HB.out | apply lA | apply lN | apply lW | refine lS ?_ GE241.out | refine lS ?_ GE255.out) | exact HB.out))) : w.heap.size ≤ gb270))
             have n8_ := aM ((by rw [hg]; exact (below_size (by repeat (first | (with_reducible first | exact HB.out | apply lA | apply lN | apply lW | refine lS ?_ GE241.out | refine lS ?_ GE255.out) | exact HB.out))) : w.heap.size ≤ gb270))
             have n9_ := aM ((by rw [hg]; exact Nat.ne_of_lt (blk_lt (g := gb241) (o := .cells #[.int .i64 a0_0, .int .i64 a0_1, .int .i64 a0_2, .int .i64 a0_3] 23 (0, 0)) (by (with_reducible repeat (first | refine bN ?_ _ | refine bW ?_ | refine bA ?_ _)); exact BK241.out)) : gb241 ≠ gb270))
             have n10_ := aM ((by rw [hg]; exact Nat.ne_of_gt (blk_lt (g := gb241) (o := .cells #[.int .i64 a0_0, .int .i64 a0_1, .int .i64 a0_2, .int .i64 a0_3] 23 (0, 0)) (by (with_reducible repeat (first | refine bN ?_ _ | refine bW ?_ | refine bA ?_ _)); exact BK241.out)) : gb270 ≠ gb241))
             have n11_ := aM ((by rw [hg]; exact Nat.ne_of_lt (blk_lt (g := gb255) (o := .cells #[.int .i64 t251, .int .i64 t252, .int .i64 t253, .int .i64 t254] 23 (0, 0)) (by (with_reducible repeat (first | refine bN ?_ _ | refine bW ?_ | refine bA ?_ _)); exact BK255.out)) : gb255 ≠ gb270))
             have n12_ := aM ((by rw [hg]; exact Nat.ne_of_gt (blk_lt (g := gb255) (o := .cells #[.int .i64 t251, .int .i64 t252, .int .i64 t253, .int .i64 t254] 23 (0, 0)) (by (with_reducible repeat (first | refine bN ?_ _ | refine bW ?_ | refine bA ?_ _)); exact BK255.out)) : gb270 ≠ gb255))
             clear HO250
             clear HO258
             clear HO265
             clear BK241
             clear BK255
             clear HB
             have HO250 := n0_
             have HO258 := n1_
             have HO265 := n2_
             have BK241 := n3_
             have BK255 := n4_
             have HB := n5_
             have BK270 := n6_
             have GW270 := n7_
             have GE270 := n8_
             have NB241_270 := n9_
             have NB270_241 := n10_
             have NB255_270 := n11_
             have NB270_255 := n12_
             clear n0_ n1_ n2_ n3_ n4_ n5_ n6_ n7_ n8_ n9_ n10_ n11_ n12_
             clear hb hbox hg
             refine hK.out _ _ ⟨(blk_cell BK241.out 0).trans rfl, (blk_cell BK241.out 1).trans rfl, (blk_cell BK241.out 2).trans rfl, (blk_cell BK241.out 3).trans rfl⟩ (fun hHeld => ?_)
             clear hK K
             refine norm_ (a' := ?_) ?_ ?_
             rotate_left
             ·show Act.put _ (some 6) _ = _
              simp only [Act.put, sT, sZ, sS, i64_w, i32_w]
              rfl
             exact norm_ (by first | (simp only [putAll, Act.put, sT, sZ, sS]; done) | (simp only [putAll, Act.put, sT, sZ, sS]; rfl)) (hJ1_2_3_5 (v257, (.slice Ao42 t263.length co42), gb270) _ ⟨hHeld, (by (with_reducible repeat (first | apply rA | apply rN | apply rW)); exact HO250.out), (by (with_reducible repeat (first | apply rA | apply rN | apply rW)); exact HO258.out), (by (with_reducible repeat (first | apply rA | apply rN | apply rW)); exact HO265.out), (by (with_reducible repeat (first | refine bN ?_ _ | refine bW ?_ | refine bA ?_ _)); exact BK241.out), (by (with_reducible repeat (first | refine bN ?_ _ | refine bW ?_ | refine bA ?_ _)); exact BK255.out), (by (with_reducible repeat (first | refine bN ?_ _ | refine bW ?_ | refine bA ?_ _)); exact BK270.out), GW270.out, GE270.out, NB241_270.out, NB270_241.out, NB255_270.out, NB270_255.out, (by repeat (first | (with_reducible first | exact HB.out | apply lA | apply lN | apply lW | refine lS ?_ GE241.out | refine lS ?_ GE255.out | refine lS ?_ GE270.out) | exact HB.out))⟩)
          ·skip
           rintro ⟨v257, v264, gb270⟩ w42 ⟨hS_, h0_, h1_, h2_, h3_, h4_, h5_, h6_, h7_, h8_, h9_, h10_, h11_, h12_⟩
           have n0_ : Aside0 (Kd.R (Kd.int .i64) 3 w42 w.heap.size (fun k_ => some k_ ≠ (v257 : Value).ownBlock ∧ some k_ ≠ (v264 : Value).ownBlock) (.slice Ao30 t248.length co30) t248) := ⟨h0_⟩
           have n1_ : Aside0 (Kd.R (Kd.int .i64) 3 w42 w.heap.size (fun k_ => some k_ ≠ (.slice Ao30 t248.length co30 : Value).ownBlock ∧ some k_ ≠ (v264 : Value).ownBlock) v257 t256) := ⟨h1_⟩
           have n2_ : Aside0 (Kd.R (Kd.int .i64) 3 w42 w.heap.size (fun k_ => some k_ ≠ (.slice Ao30 t248.length co30 : Value).ownBlock ∧ some k_ ≠ (v257 : Value).ownBlock) v264 t263) := ⟨h2_⟩
           have n3_ : Aside0 (w42.heap[gb241]? = some (.cells #[.int .i64 a0_0, .int .i64 a0_1, .int .i64 a0_2, .int .i64 a0_3] 23 (0, 0))) := ⟨h3_⟩
           have n4_ : Aside0 (w42.heap[gb255]? = some (.cells #[.int .i64 t251, .int .i64 t252, .int .i64 t253, .int .i64 t254] 23 (0, 0))) := ⟨h4_⟩
           have n5_ : Aside0 (w42.heap[gb270]? = some (.cells #[.int .i64 0, .int .i64 0, .int .i64 0, .int .i64 0] 23 (0, 0))) := ⟨h5_⟩
           have n6_ : Aside0 (w.heap.size ≤ gb270) := ⟨h6_⟩
           have n7_ : Aside0 (w.heap.size ≤ gb270) := ⟨h7_⟩
           have n8_ : Aside0 (gb241 ≠ gb270) := ⟨h8_⟩
           have n9_ : Aside0 (gb270 ≠ gb241) := ⟨h9_⟩
           have n10_ : Aside0 (gb255 ≠ gb270) := ⟨h10_⟩
           have n11_ : Aside0 (gb270 ≠ gb255) := ⟨h11_⟩
           have n12_ : Aside0 (Below w.heap.size w w42) := ⟨h12_⟩
           clear HO250
           clear BK241
           clear BK255
           clear HB
           clear h0_ h1_ h2_ h3_ h4_ h5_ h6_ h7_ h8_ h9_ h10_ h11_ h12_
           have HO250 := n0_
           have HO258 := n1_
           have HO265 := n2_
           have BK241 := n3_
           have BK255 := n4_
           have BK270 := n5_
           have GW270 := n6_
           have GE270 := n7_
           have NB241_270 := n8_
           have NB270_241 := n9_
           have NB255_270 := n10_
           have NB270_255 := n11_
           have HB := n12_
           clear n0_ n1_ n2_ n3_ n4_ n5_ n6_ n7_ n8_ n9_ n10_ n11_ n12_
           have hHeld : w42.cell? ⟨gb241, 0, none⟩ = some (.int .i64 a0_0) ∧ w42.cell? ⟨gb241, 1, none⟩ = some (.int .i64 a0_1) ∧ w42.cell? ⟨gb241, 2, none⟩ = some (.int .i64 a0_2) ∧ w42.cell? ⟨gb241, 3, none⟩ = some (.int .i64 a0_3) := hS_
           obtain ⟨Ao43, co43, eo43⟩ := Kd.R_slice HO265.out
           (first | subst eo43 | (injection eo43 with f1_ f2_ f3_; have f4_ := f1_.symm; have f5_ := f3_.symm; clear f1_ f2_ f3_; subst f4_; subst f5_))
           refine norm_ (a' := ?_) ?_ ?_
           rotate_left
           ·simp only [putAll, Act.put, sT, sZ, sS]
            rfl
           refine one_ (i := 4) (N := some 30) #[true, true, true, true, true, true, false] rfl rfl (by kernel_rfl) (by decide) (fun K hK => ?_)
           refine goes_ Try.func17 (by kernel_rfl) rfl #[.agg #[.int .i64 t259, .int .i64 t260, .int .i64 t261, .int .i64 t262], .slice Ao43 t263.length co43] (by rfl) rfl rfl (by (try simp only [List.map_toArray, List.map_cons, List.map_nil]); first | done | rfl | (simp only [List.length_drop, List.length_take]; rfl)) ?_
           with_reducible refine (count_Steps.calls kj2 t259 t260 t261 t262 _ _ t263 t266 t267 t268 t269 _ ?side1 ?side2 A21.out).mono ?_
           (case side1 => repeat (first | exact (Kd.R_reads' HO265.out).2.2 | (with_reducible refine Kd.C_alloc ?_ _) | (with_reducible refine Kd.C_drewN ?_ _) | (with_reducible refine Kd.C_drew ?_)))
           (case side2 => exact (Kd.R_reads' HO265.out).2.1)
           rintro e w44 ⟨rfl, hb⟩
           refine ⟨_, rfl, ?_⟩
           have n0_ := aM (Kd.R_below (by (with_reducible repeat (first | apply rA | apply rN | apply rW)); exact HO250.out) hb)
           have n1_ := aM (Kd.R_below (by (with_reducible repeat (first | apply rA | apply rN | apply rW)); exact HO258.out) hb)
           have n2_ := aM (Kd.R_below (by (with_reducible repeat (first | apply rA | apply rN | apply rW)); exact HO265.out) hb)
           have n3_ := aM (blk_below (g := gb241) (o := .cells #[.int .i64 a0_0, .int .i64 a0_1, .int .i64 a0_2, .int .i64 a0_3] 23 (0, 0)) (by (with_reducible repeat (first | refine bN ?_ _ | refine bW ?_ | refine bA ?_ _)); exact BK241.out) hb)
           have n4_ := aM (blk_below (g := gb255) (o := .cells #[.int .i64 t251, .int .i64 t252, .int .i64 t253, .int .i64 t254] 23 (0, 0)) (by (with_reducible repeat (first | refine bN ?_ _ | refine bW ?_ | refine bA ?_ _)); exact BK255.out) hb)
           have n5_ := aM (blk_below (g := gb270) (o := .cells #[.int .i64 0, .int .i64 0, .int .i64 0, .int .i64 0] 23 (0, 0)) (by (with_reducible repeat (first | refine bN ?_ _ | refine bW ?_ | refine bA ?_ _)); exact BK270.out) hb)
           have n6_ := aM (below_step (by repeat (first | (with_reducible first | exact HB.out | apply lA | apply lN | apply lW | refine lS ?_ GE241.out | refine lS ?_ GE255.out | refine lS ?_ GE270.out) | exact HB.out)) hb)
           clear HO250
           clear HO258
           clear HO265
           clear BK241
           clear BK255
           clear BK270
           clear HB
           have HO250 := n0_
           have HO258 := n1_
           have HO265 := n2_
           have BK241 := n3_
           have BK255 := n4_
           have BK270 := n5_
           have HB := n6_
           clear n0_ n1_ n2_ n3_ n4_ n5_ n6_
           (try clear hb)
           (try clear hb2)
           (try clear hk)
           (try clear hi)
           refine hK.out _ _ ⟨(blk_cell BK241.out 0).trans rfl, (blk_cell BK241.out 1).trans rfl, (blk_cell BK241.out 2).trans rfl, (blk_cell BK241.out 3).trans rfl⟩ (fun hHeld => ?_)
           clear hK K
           refine norm_ (a' := ?_) ?_ ?_
           rotate_left
           ·show Act.put _ (some 30) _ = _
            simp only [Act.put, sT, sZ, sS, i64_w, i32_w]
            rfl
           exact norm_ (by first | (simp only [putAll, Act.put, sT, sZ, sS]; done) | (simp only [putAll, Act.put, sT, sZ, sS]; rfl)) (hJ1_2_3_4_5 (v257, .slice Ao43 t263.length co43, gb270) _ ⟨hHeld, (by (with_reducible repeat (first | apply rA | apply rN | apply rW)); exact HO250.out), (by (with_reducible repeat (first | apply rA | apply rN | apply rW)); exact HO258.out), (by (with_reducible repeat (first | apply rA | apply rN | apply rW)); exact HO265.out), (by (with_reducible repeat (first | refine bN ?_ _ | refine bW ?_ | refine bA ?_ _)); exact BK241.out), (by (with_reducible repeat (first | refine bN ?_ _ | refine bW ?_ | refine bA ?_ _)); exact BK255.out), (by (with_reducible repeat (first | refine bN ?_ _ | refine bW ?_ | refine bA ?_ _)); exact BK270.out), GW270.out, GE270.out, NB241_270.out, NB270_241.out, NB255_270.out, NB270_255.out, (by repeat (first | (with_reducible first | exact HB.out | apply lA | apply lN | apply lW | refine lS ?_ GE241.out | refine lS ?_ GE255.out | refine lS ?_ GE270.out) | exact HB.out))⟩)
         ·skip
          rintro ⟨v257, v264⟩ w43 ⟨hS_, h0_, h1_, h2_, h3_, h4_, h5_⟩
          have n0_ : Aside0 (Kd.R (Kd.int .i64) 3 w43 w.heap.size (fun k_ => some k_ ≠ (v257 : Value).ownBlock ∧ some k_ ≠ (v264 : Value).ownBlock) (.slice Ao30 t248.length co30) t248) := ⟨h0_⟩
          have n1_ : Aside0 (Kd.R (Kd.int .i64) 3 w43 w.heap.size (fun k_ => some k_ ≠ (.slice Ao30 t248.length co30 : Value).ownBlock ∧ some k_ ≠ (v264 : Value).ownBlock) v257 t256) := ⟨h1_⟩
          have n2_ : Aside0 (Kd.R (Kd.int .i64) 3 w43 w.heap.size (fun k_ => some k_ ≠ (.slice Ao30 t248.length co30 : Value).ownBlock ∧ some k_ ≠ (v257 : Value).ownBlock) v264 t263) := ⟨h2_⟩
          have n3_ : Aside0 (w43.heap[gb241]? = some (.cells #[.int .i64 a0_0, .int .i64 a0_1, .int .i64 a0_2, .int .i64 a0_3] 23 (0, 0))) := ⟨h3_⟩
          have n4_ : Aside0 (w43.heap[gb255]? = some (.cells #[.int .i64 t251, .int .i64 t252, .int .i64 t253, .int .i64 t254] 23 (0, 0))) := ⟨h4_⟩
          have n5_ : Aside0 (Below w.heap.size w w43) := ⟨h5_⟩
          clear HO250
          clear BK241
          clear BK255
          clear HB
          clear h0_ h1_ h2_ h3_ h4_ h5_
          have HO250 := n0_
          have HO258 := n1_
          have HO265 := n2_
          have BK241 := n3_
          have BK255 := n4_
          have HB := n5_
          clear n0_ n1_ n2_ n3_ n4_ n5_
          have hHeld : w43.cell? ⟨gb241, 0, none⟩ = some (.int .i64 a0_0) ∧ w43.cell? ⟨gb241, 1, none⟩ = some (.int .i64 a0_1) ∧ w43.cell? ⟨gb241, 2, none⟩ = some (.int .i64 a0_2) ∧ w43.cell? ⟨gb241, 3, none⟩ = some (.int .i64 a0_3) := hS_
          refine norm_ (a' := ?_) ?_ ?_
          rotate_left
          ·simp only [putAll, Act.put, sT, sZ, sS]
           rfl
          refine one_ (i := 5) (N := some 6) #[true, true, true, true, true, true, false] rfl rfl (by kernel_rfl) (by decide) (fun K hK => ?_)
          refine box_step ?hg (N := 6) ?hd (cs := #[.int .i64 0, .int .i64 0, .int .i64 0, .int .i64 0]) (t := 23) ?hr ?_; (case hd => rfl); (case hg => rfl); (case hr => first | (go_simp; done) | (go_simp; rfl))
          intro gb270 hg w44 hbox hb
          have n0_ := aM (Kd.R_below (by (with_reducible repeat (first | apply rA | apply rN | apply rW)); exact HO250.out) hb)
          have n1_ := aM (Kd.R_below (by (with_reducible repeat (first | apply rA | apply rN | apply rW)); exact HO258.out) hb)
          have n2_ := aM (Kd.R_below (by (with_reducible repeat (first | apply rA | apply rN | apply rW)); exact HO265.out) hb)
          have n3_ := aM (blk_below (g := gb241) (o := .cells #[.int .i64 a0_0, .int .i64 a0_1, .int .i64 a0_2, .int .i64 a0_3] 23 (0, 0)) (by (with_reducible repeat (first | refine bN ?_ _ | refine bW ?_ | refine bA ?_ _)); exact BK241.out) hb)
          have n4_ := aM (blk_below (g := gb255) (o := .cells #[.int .i64 t251, .int .i64 t252, .int .i64 t253, .int .i64 t254] 23 (0, 0)) (by (with_reducible repeat (first | refine bN ?_ _ | refine bW ?_ | refine bA ?_ _)); exact BK255.out) hb)
          have n5_ := aM (below_step (by repeat (first | (with_reducible first | exact HB.out | apply lA | apply lN | apply lW | refine lS ?_ GE241.out | refine lS ?_ GE255.out) | exact HB.out)) hb)
          have n6_ := aM (hbox)
          have n7_ := aM ((by rw [hg]; exact (below_size (by repeat (first | (with_reducible first | exact HB.out | apply lA | apply lN | apply lW | refine lS ?_ GE241.out | refine lS ?_ GE255.out) | exact HB.out))) : w.heap.size ≤ gb270))
          have n8_ := aM ((by rw [hg]; exact (below_size (by repeat (first | (with_reducible first | exact HB.out | apply lA | apply lN | apply lW | refine lS ?_ GE241.out | refine lS ?_ GE255.out) | exact HB.out))) : w.heap.size ≤ gb270))
          have n9_ := aM ((by rw [hg]; exact Nat.ne_of_lt (blk_lt (g := gb241) (o := .cells #[.int .i64 a0_0, .int .i64 a0_1, .int .i64 a0_2, .int .i64 a0_3] 23 (0, 0)) (by (with_reducible repeat (first | refine bN ?_ _ | refine bW ?_ | refine bA ?_ _)); exact BK241.out)) : gb241 ≠ gb270))
          have n10_ := aM ((by rw [hg]; exact Nat.ne_of_gt (blk_lt (g := gb241) (o := .cells #[.int .i64 a0_0, .int .i64 a0_1, .int .i64 a0_2, .int .i64 a0_3] 23 (0, 0)) (by (with_reducible repeat (first | refine bN ?_ _ | refine bW ?_ | refine bA ?_ _)); exact BK241.out)) : gb270 ≠ gb241))
          have n11_ := aM ((by rw [hg]; exact Nat.ne_of_lt (blk_lt (g := gb255) (o := .cells #[.int .i64 t251, .int .i64 t252, .int .i64 t253, .int .i64 t254] 23 (0, 0)) (by (with_reducible repeat (first | refine bN ?_ _ | refine bW ?_ | refine bA ?_ _)); exact BK255.out)) : gb255 ≠ gb270))
          have n12_ := aM ((by rw [hg]; exact Nat.ne_of_gt (blk_lt (g := gb255) (o := .cells #[.int .i64 t251, .int .i64 t252, .int .i64 t253, .int .i64 t254] 23 (0, 0)) (by (with_reducible repeat (first | refine bN ?_ _ | refine bW ?_ | refine bA ?_ _)); exact BK255.out)) : gb270 ≠ gb255))
          clear HO250
          clear HO258
          clear HO265
          clear BK241
          clear BK255
          clear HB
          have HO250 := n0_
          have HO258 := n1_
          have HO265 := n2_
          have BK241 := n3_
          have BK255 := n4_
          have HB := n5_
          have BK270 := n6_
          have GW270 := n7_
          have GE270 := n8_
          have NB241_270 := n9_
          have NB270_241 := n10_
          have NB255_270 := n11_
          have NB270_255 := n12_
          clear n0_ n1_ n2_ n3_ n4_ n5_ n6_ n7_ n8_ n9_ n10_ n11_ n12_
          clear hb hbox hg
          refine hK.out _ _ ⟨(blk_cell BK241.out 0).trans rfl, (blk_cell BK241.out 1).trans rfl, (blk_cell BK241.out 2).trans rfl, (blk_cell BK241.out 3).trans rfl⟩ (fun hHeld => ?_)
          clear hK K
          refine norm_ (a' := ?_) ?_ ?_
          rotate_left
          ·show Act.put _ (some 6) _ = _
           simp only [Act.put, sT, sZ, sS, i64_w, i32_w]
           rfl
          exact norm_ (by first | (simp only [putAll, Act.put, sT, sZ, sS]; done) | (simp only [putAll, Act.put, sT, sZ, sS]; rfl)) (hJ1_2_3_4_5 (v257, v264, gb270) _ ⟨hHeld, (by (with_reducible repeat (first | apply rA | apply rN | apply rW)); exact HO250.out), (by (with_reducible repeat (first | apply rA | apply rN | apply rW)); exact HO258.out), (by (with_reducible repeat (first | apply rA | apply rN | apply rW)); exact HO265.out), (by (with_reducible repeat (first | refine bN ?_ _ | refine bW ?_ | refine bA ?_ _)); exact BK241.out), (by (with_reducible repeat (first | refine bN ?_ _ | refine bW ?_ | refine bA ?_ _)); exact BK255.out), (by (with_reducible repeat (first | refine bN ?_ _ | refine bW ?_ | refine bA ?_ _)); exact BK270.out), GW270.out, GE270.out, NB241_270.out, NB270_241.out, NB255_270.out, NB270_255.out, (by repeat (first | (with_reducible first | exact HB.out | apply lA | apply lN | apply lW | refine lS ?_ GE241.out | refine lS ?_ GE255.out | refine lS ?_ GE270.out) | exact HB.out))⟩)
        rintro ⟨v257, v264, gb270⟩ w44 ⟨hS_, h0_, h1_, h2_, h3_, h4_, h5_, h6_, h7_, h8_, h9_, h10_, h11_, h12_⟩
        have n0_ : Aside0 (Kd.R (Kd.int .i64) 3 w44 w.heap.size (fun k_ => some k_ ≠ (v257 : Value).ownBlock ∧ some k_ ≠ (v264 : Value).ownBlock) (.slice Ao30 t248.length co30) t248) := ⟨h0_⟩
        have n1_ : Aside0 (Kd.R (Kd.int .i64) 3 w44 w.heap.size (fun k_ => some k_ ≠ (.slice Ao30 t248.length co30 : Value).ownBlock ∧ some k_ ≠ (v264 : Value).ownBlock) v257 t256) := ⟨h1_⟩
        have n2_ : Aside0 (Kd.R (Kd.int .i64) 3 w44 w.heap.size (fun k_ => some k_ ≠ (.slice Ao30 t248.length co30 : Value).ownBlock ∧ some k_ ≠ (v257 : Value).ownBlock) v264 t263) := ⟨h2_⟩
        have n3_ : Aside0 (w44.heap[gb241]? = some (.cells #[.int .i64 a0_0, .int .i64 a0_1, .int .i64 a0_2, .int .i64 a0_3] 23 (0, 0))) := ⟨h3_⟩
        have n4_ : Aside0 (w44.heap[gb255]? = some (.cells #[.int .i64 t251, .int .i64 t252, .int .i64 t253, .int .i64 t254] 23 (0, 0))) := ⟨h4_⟩
        have n5_ : Aside0 (w44.heap[gb270]? = some (.cells #[.int .i64 0, .int .i64 0, .int .i64 0, .int .i64 0] 23 (0, 0))) := ⟨h5_⟩
        have n6_ : Aside0 (w.heap.size ≤ gb270) := ⟨h6_⟩
        have n7_ : Aside0 (w.heap.size ≤ gb270) := ⟨h7_⟩
        have n8_ : Aside0 (gb241 ≠ gb270) := ⟨h8_⟩
        have n9_ : Aside0 (gb270 ≠ gb241) := ⟨h9_⟩
        have n10_ : Aside0 (gb255 ≠ gb270) := ⟨h10_⟩
        have n11_ : Aside0 (gb270 ≠ gb255) := ⟨h11_⟩
        have n12_ : Aside0 (Below w.heap.size w w44) := ⟨h12_⟩
        clear HO250
        clear BK241
        clear BK255
        clear HB
        clear h0_ h1_ h2_ h3_ h4_ h5_ h6_ h7_ h8_ h9_ h10_ h11_ h12_
        have HO250 := n0_
        have HO258 := n1_
        have HO265 := n2_
        have BK241 := n3_
        have BK255 := n4_
        have BK270 := n5_
        have GW270 := n6_
        have GE270 := n7_
        have NB241_270 := n8_
        have NB270_241 := n9_
        have NB255_270 := n10_
        have NB270_255 := n11_
        have HB := n12_
        clear n0_ n1_ n2_ n3_ n4_ n5_ n6_ n7_ n8_ n9_ n10_ n11_ n12_
        have hHeld : w44.cell? ⟨gb241, 0, none⟩ = some (.int .i64 a0_0) ∧ w44.cell? ⟨gb241, 1, none⟩ = some (.int .i64 a0_1) ∧ w44.cell? ⟨gb241, 2, none⟩ = some (.int .i64 a0_2) ∧ w44.cell? ⟨gb241, 3, none⟩ = some (.int .i64 a0_3) := hS_
        refine norm_ (a' := ?_) ?_ ?_
        rotate_left
        ·simp only [putAll, Act.put, sT, sZ, sS]
         rfl
        refine one_ (i := 6) (N := none) #[true, true, true, true, true, true, true] rfl rfl (by kernel_rfl) (by decide) (fun K hK => ?_)
        have hs45 : w44.cell? ⟨gb270, 0, none⟩ = some (.int .i64 0) := (blk_cell BK270.out 0).trans rfl
        have hfs45 := blk_frozen BK270.out 0
        have hns45_0 := NB241_270.out
        have hns45_1 := NB255_270.out
        have hms45_0 := NB270_241.out
        have hms45_1 := NB270_255.out
        have hs46 : w44.cell? ⟨gb270, 1, none⟩ = some (.int .i64 0) := (blk_cell BK270.out 1).trans rfl
        have hfs46 := blk_frozen BK270.out 1
        have hns46_0 := NB241_270.out
        have hns46_1 := NB255_270.out
        have hms46_0 := NB270_241.out
        have hms46_1 := NB270_255.out
        have hs47 : w44.cell? ⟨gb270, 2, none⟩ = some (.int .i64 0) := (blk_cell BK270.out 2).trans rfl
        have hfs47 := blk_frozen BK270.out 2
        have hns47_0 := NB241_270.out
        have hns47_1 := NB255_270.out
        have hms47_0 := NB270_241.out
        have hms47_1 := NB270_255.out
        have hs48 : w44.cell? ⟨gb270, 3, none⟩ = some (.int .i64 0) := (blk_cell BK270.out 3).trans rfl
        have hfs48 := blk_frozen BK270.out 3
        have hns48_0 := NB241_270.out
        have hns48_1 := NB255_270.out
        have hms48_0 := NB270_241.out
        have hms48_1 := NB270_255.out
        refine skip_ (w1 := ?_) (by rfl) rfl ?_ ?_
        rotate_left
        ·go_simp
         rfl
        refine hK.out _ _ ⟨((cell_far (p := ⟨gb270, _, none⟩) NB241_270.out _).trans (((cell_far (p := ⟨gb270, _, none⟩) NB241_270.out _).trans (((cell_far (p := ⟨gb270, _, none⟩) NB241_270.out _).trans (((cell_far (p := ⟨gb270, _, none⟩) NB241_270.out _).trans (hHeld.1)))))))), ((cell_far (p := ⟨gb270, _, none⟩) NB241_270.out _).trans (((cell_far (p := ⟨gb270, _, none⟩) NB241_270.out _).trans (((cell_far (p := ⟨gb270, _, none⟩) NB241_270.out _).trans (((cell_far (p := ⟨gb270, _, none⟩) NB241_270.out _).trans (hHeld.2.1)))))))), ((cell_far (p := ⟨gb270, _, none⟩) NB241_270.out _).trans (((cell_far (p := ⟨gb270, _, none⟩) NB241_270.out _).trans (((cell_far (p := ⟨gb270, _, none⟩) NB241_270.out _).trans (((cell_far (p := ⟨gb270, _, none⟩) NB241_270.out _).trans (hHeld.2.2.1)))))))), ((cell_far (p := ⟨gb270, _, none⟩) NB241_270.out _).trans (((cell_far (p := ⟨gb270, _, none⟩) NB241_270.out _).trans (((cell_far (p := ⟨gb270, _, none⟩) NB241_270.out _).trans (((cell_far (p := ⟨gb270, _, none⟩) NB241_270.out _).trans (hHeld.2.2.2))))))))⟩ (fun hHeld => ?_)
        clear hK K
        refine done_ (by kernel_rfl) ?_
        try go_wp2
        have n0_ : Aside0 (Kd.R (Kd.int .i64) 3 ((((w44.setCell ⟨gb270, 0, none⟩ (.int .i64 t266)).setCell ⟨gb270, 1, none⟩ (.int .i64 t267)).setCell ⟨gb270, 2, none⟩ (.int .i64 t268)).setCell ⟨gb270, 3, none⟩ (.int .i64 t269)) w.heap.size (fun k_ => some k_ ≠ (v257 : Value).ownBlock ∧ some k_ ≠ (v264 : Value).ownBlock) (.slice Ao30 t248.length co30) t248) := ⟨by (with_reducible repeat (first | apply rA | apply rN | apply rW)); exact Kd.R_mono (Kd.R_far (p := ⟨gb270, 3, none⟩) (Kd.R_far (p := ⟨gb270, 2, none⟩) (Kd.R_far (p := ⟨gb270, 1, none⟩) (Kd.R_far (p := ⟨gb270, 0, none⟩) (Kd.R_types HO250.out BK270.out (by decide)) (fun _ hk => hk.2) (.int .i64 t266)) (fun _ hk => hk.2) (.int .i64 t267)) (fun _ hk => hk.2) (.int .i64 t268)) (fun _ hk => hk.2) (.int .i64 t269)) (fun _ hk => ⟨hk.1.1, hk.1.2⟩)⟩
        have n1_ : Aside0 (Kd.R (Kd.int .i64) 3 ((((w44.setCell ⟨gb270, 0, none⟩ (.int .i64 t266)).setCell ⟨gb270, 1, none⟩ (.int .i64 t267)).setCell ⟨gb270, 2, none⟩ (.int .i64 t268)).setCell ⟨gb270, 3, none⟩ (.int .i64 t269)) w.heap.size (fun k_ => some k_ ≠ (.slice Ao30 t248.length co30 : Value).ownBlock ∧ some k_ ≠ (v264 : Value).ownBlock) v257 t256) := ⟨by (with_reducible repeat (first | apply rA | apply rN | apply rW)); exact Kd.R_mono (Kd.R_far (p := ⟨gb270, 3, none⟩) (Kd.R_far (p := ⟨gb270, 2, none⟩) (Kd.R_far (p := ⟨gb270, 1, none⟩) (Kd.R_far (p := ⟨gb270, 0, none⟩) (Kd.R_types HO258.out BK270.out (by decide)) (fun _ hk => hk.2) (.int .i64 t266)) (fun _ hk => hk.2) (.int .i64 t267)) (fun _ hk => hk.2) (.int .i64 t268)) (fun _ hk => hk.2) (.int .i64 t269)) (fun _ hk => ⟨hk.1.1, hk.1.2⟩)⟩
        have n2_ : Aside0 (Kd.R (Kd.int .i64) 3 ((((w44.setCell ⟨gb270, 0, none⟩ (.int .i64 t266)).setCell ⟨gb270, 1, none⟩ (.int .i64 t267)).setCell ⟨gb270, 2, none⟩ (.int .i64 t268)).setCell ⟨gb270, 3, none⟩ (.int .i64 t269)) w.heap.size (fun k_ => some k_ ≠ (.slice Ao30 t248.length co30 : Value).ownBlock ∧ some k_ ≠ (v257 : Value).ownBlock) v264 t263) := ⟨by (with_reducible repeat (first | apply rA | apply rN | apply rW)); exact Kd.R_mono (Kd.R_far (p := ⟨gb270, 3, none⟩) (Kd.R_far (p := ⟨gb270, 2, none⟩) (Kd.R_far (p := ⟨gb270, 1, none⟩) (Kd.R_far (p := ⟨gb270, 0, none⟩) (Kd.R_types HO265.out BK270.out (by decide)) (fun _ hk => hk.2) (.int .i64 t266)) (fun _ hk => hk.2) (.int .i64 t267)) (fun _ hk => hk.2) (.int .i64 t268)) (fun _ hk => hk.2) (.int .i64 t269)) (fun _ hk => ⟨hk.1.1, hk.1.2⟩)⟩
        have n3_ : Aside0 (((((w44.setCell ⟨gb270, 0, none⟩ (.int .i64 t266)).setCell ⟨gb270, 1, none⟩ (.int .i64 t267)).setCell ⟨gb270, 2, none⟩ (.int .i64 t268)).setCell ⟨gb270, 3, none⟩ (.int .i64 t269)).heap[gb241]? = some (.cells #[.int .i64 a0_0, .int .i64 a0_1, .int .i64 a0_2, .int .i64 a0_3] 23 (0, 0))) := ⟨by (with_reducible repeat (first | refine bN ?_ _ | refine bW ?_ | refine bA ?_ _)); refine blk_far ?_ NB241_270.out _; (with_reducible repeat (first | refine bN ?_ _ | refine bW ?_ | refine bA ?_ _)); refine blk_far ?_ NB241_270.out _; (with_reducible repeat (first | refine bN ?_ _ | refine bW ?_ | refine bA ?_ _)); refine blk_far ?_ NB241_270.out _; (with_reducible repeat (first | refine bN ?_ _ | refine bW ?_ | refine bA ?_ _)); refine blk_far ?_ NB241_270.out _; (with_reducible repeat (first | refine bN ?_ _ | refine bW ?_ | refine bA ?_ _)); exact BK241.out⟩
        have n4_ : Aside0 (((((w44.setCell ⟨gb270, 0, none⟩ (.int .i64 t266)).setCell ⟨gb270, 1, none⟩ (.int .i64 t267)).setCell ⟨gb270, 2, none⟩ (.int .i64 t268)).setCell ⟨gb270, 3, none⟩ (.int .i64 t269)).heap[gb255]? = some (.cells #[.int .i64 t251, .int .i64 t252, .int .i64 t253, .int .i64 t254] 23 (0, 0))) := ⟨by (with_reducible repeat (first | refine bN ?_ _ | refine bW ?_ | refine bA ?_ _)); refine blk_far ?_ NB255_270.out _; (with_reducible repeat (first | refine bN ?_ _ | refine bW ?_ | refine bA ?_ _)); refine blk_far ?_ NB255_270.out _; (with_reducible repeat (first | refine bN ?_ _ | refine bW ?_ | refine bA ?_ _)); refine blk_far ?_ NB255_270.out _; (with_reducible repeat (first | refine bN ?_ _ | refine bW ?_ | refine bA ?_ _)); refine blk_far ?_ NB255_270.out _; (with_reducible repeat (first | refine bN ?_ _ | refine bW ?_ | refine bA ?_ _)); exact BK255.out⟩
        have n5_ : Aside0 (((((w44.setCell ⟨gb270, 0, none⟩ (.int .i64 t266)).setCell ⟨gb270, 1, none⟩ (.int .i64 t267)).setCell ⟨gb270, 2, none⟩ (.int .i64 t268)).setCell ⟨gb270, 3, none⟩ (.int .i64 t269)).heap[gb270]? = some (.cells #[.int .i64 t266, .int .i64 t267, .int .i64 t268, .int .i64 t269] 23 (0, 0))) := ⟨by (with_reducible repeat (first | refine bN ?_ _ | refine bW ?_ | refine bA ?_ _)); refine blk_put (cs := #[.int .i64 t266, .int .i64 t267, .int .i64 t268, .int .i64 0]) ?_ 3 _ rfl; (with_reducible repeat (first | refine bN ?_ _ | refine bW ?_ | refine bA ?_ _)); refine blk_put (cs := #[.int .i64 t266, .int .i64 t267, .int .i64 0, .int .i64 0]) ?_ 2 _ rfl; (with_reducible repeat (first | refine bN ?_ _ | refine bW ?_ | refine bA ?_ _)); refine blk_put (cs := #[.int .i64 t266, .int .i64 0, .int .i64 0, .int .i64 0]) ?_ 1 _ rfl; (with_reducible repeat (first | refine bN ?_ _ | refine bW ?_ | refine bA ?_ _)); refine blk_put (cs := #[.int .i64 0, .int .i64 0, .int .i64 0, .int .i64 0]) ?_ 0 _ rfl; (with_reducible repeat (first | refine bN ?_ _ | refine bW ?_ | refine bA ?_ _)); exact BK270.out⟩
        have n6_ : Aside0 (Below w.heap.size w ((((w44.setCell ⟨gb270, 0, none⟩ (.int .i64 t266)).setCell ⟨gb270, 1, none⟩ (.int .i64 t267)).setCell ⟨gb270, 2, none⟩ (.int .i64 t268)).setCell ⟨gb270, 3, none⟩ (.int .i64 t269))) := ⟨by repeat (first | (with_reducible first | exact HB.out | apply lA | apply lN | apply lW | refine lS ?_ GE241.out | refine lS ?_ GE255.out | refine lS ?_ GE270.out) | exact HB.out)⟩
        (try clear HO250)
        (try clear HO258)
        (try clear HO265)
        (try clear BK241)
        (try clear BK255)
        (try clear BK270)
        (try clear HB)
        generalize ((((w44.setCell ⟨gb270, 0, none⟩ (.int .i64 t266)).setCell ⟨gb270, 1, none⟩ (.int .i64 t267)).setCell ⟨gb270, 2, none⟩ (.int .i64 t268)).setCell ⟨gb270, 3, none⟩ (.int .i64 t269)) = w49 at n0_ n1_ n2_ n3_ n4_ n5_ n6_ ⊢
        have HO250 := n0_
        have HO258 := n1_
        have HO265 := n2_
        have BK241 := n3_
        have BK255 := n4_
        have BK270 := n5_
        have HB := n6_
        clear n0_ n1_ n2_ n3_ n4_ n5_ n6_
        have n0_ := aM (rW HO250.out)
        have n1_ := aM (rW HO258.out)
        have n2_ := aM (rW HO265.out)
        have n3_ := aM (bW BK241.out)
        have n4_ := aM (bW BK255.out)
        have n5_ := aM (bW BK270.out)
        have n6_ := aM (lW HB.out)
        clear HO250
        clear HO258
        clear HO265
        clear BK241
        clear BK255
        clear BK270
        clear HB
        have HO250 := n0_
        have HO258 := n1_
        have HO265 := n2_
        have BK241 := n3_
        have BK255 := n4_
        have BK270 := n5_
        have HB := n6_
        clear n0_ n1_ n2_ n3_ n4_ n5_ n6_
        refine start_ (n := 26) (S := fun w' => w'.cell? ⟨gb255, 0, none⟩ = some (.int .i64 t251) ∧ w'.cell? ⟨gb255, 1, none⟩ = some (.int .i64 t252) ∧ w'.cell? ⟨gb255, 2, none⟩ = some (.int .i64 t253) ∧ w'.cell? ⟨gb255, 3, none⟩ = some (.int .i64 t254) ∧ w'.cell? ⟨gb270, 0, none⟩ = some (.int .i64 t266) ∧ w'.cell? ⟨gb270, 1, none⟩ = some (.int .i64 t267) ∧ w'.cell? ⟨gb270, 2, none⟩ = some (.int .i64 t268) ∧ w'.cell? ⟨gb270, 3, none⟩ = some (.int .i64 t269)) (ds := []) #[false, false, false, false, false, false, false, false, false, false, false, false, false, false, false, false, false, false, false, false, false, false, false, false, false, false] (by kernel_rfl) rfl rfl ⟨(blk_cell BK255.out 0).trans rfl, (blk_cell BK255.out 1).trans rfl, (blk_cell BK255.out 2).trans rfl, (blk_cell BK255.out 3).trans rfl, (blk_cell BK270.out 0).trans rfl, (blk_cell BK270.out 1).trans rfl, (blk_cell BK270.out 2).trans rfl, (blk_cell BK270.out 3).trans rfl⟩ (fun hHeld => ?_); refine with_tabW phaetonlaw08_CountBack.tab7 phaetonlaw08_CountBack.bits7 (fun HT_ HW_ => ?_)
        generalize w49.drew = w50 at HO250 HO258 HO265 BK241 BK255 BK270 HB hHeld ⊢
        refine pure_ (i := 0) (N := some 31) (v := ?_) (a' := ?_) #[true, false, false, false, false, false, false, false, false, false, false, false, false, false, false, false, false, false, false, false, false, false, false, false, false, false] rfl rfl (any_of HT_.out (by kernel_rfl)) (fun _ _ _ h => h) (Or.inl ⟨by rfl, ?_⟩) ?_ ?_
        rotate_left
        ·intro w'
         go_simp
         first | with_reducible rfl | (simp [Instr.field, asAgg, part]; done) | (simp [Instr.field, asAgg, part]; rfl)
        rotate_left
        ·simp only [Act.put, sT, sZ, sS, i64_w, i32_w]
         rfl
        refine pure_ (i := 1) (N := some 32) (v := ?_) (a' := ?_) #[true, true, false, false, false, false, false, false, false, false, false, false, false, false, false, false, false, false, false, false, false, false, false, false, false, false] rfl rfl (any_of HT_.out (by kernel_rfl)) (fun _ _ _ h => h) (Or.inl ⟨by rfl, ?_⟩) ?_ ?_
        rotate_left
        ·intro w'
         go_simp
         first | with_reducible rfl | (simp [Instr.field, asAgg, part]; done) | (simp [Instr.field, asAgg, part]; rfl)
        rotate_left
        ·simp only [Act.put, sT, sZ, sS, i64_w, i32_w]
         rfl
        refine pure_ (i := 2) (N := some 33) (v := ?_) (a' := ?_) #[true, true, true, false, false, false, false, false, false, false, false, false, false, false, false, false, false, false, false, false, false, false, false, false, false, false] rfl rfl (any_of HT_.out (by kernel_rfl)) (fun _ _ _ h => h) (Or.inl ⟨by rfl, ?_⟩) ?_ ?_
        rotate_left
        ·intro w'
         go_simp
         first | with_reducible rfl | (simp [Instr.field, asAgg, part]; done) | (simp [Instr.field, asAgg, part]; rfl)
        rotate_left
        ·simp only [Act.put, sT, sZ, sS, i64_w, i32_w]
         rfl
        refine take_ (i := 3) (N := some 34) (v := ?_) (a' := ?_) #[true, true, true, true, false, false, false, false, false, false, false, false, false, false, false, false, false, false, false, false, false, false, false, false, false, false] rfl rfl (take_ofW HT_.out HW_.out (by kernel_rfl)) (fun _ _ _ h => h) (Or.inl ⟨by rfl, ?_⟩) hHeld ?_ ?_
        rotate_left
        ·rintro w' ⟨s0, s1, s2, s3, s4, s5, s6, s7⟩
         go_simp
         first | with_reducible rfl | (simp [Instr.field, asAgg, part]; done) | (simp [Instr.field, asAgg, part]; rfl)
        rotate_left
        ·simp only [Act.put, sT, sZ, sS, i64_w, i32_w]
         rfl
        refine pure_ (i := 4) (N := some 35) (v := ?_) (a' := ?_) #[true, true, true, true, true, false, false, false, false, false, false, false, false, false, false, false, false, false, false, false, false, false, false, false, false, false] rfl rfl (any_of HT_.out (by kernel_rfl)) (fun _ _ _ h => h) (Or.inl ⟨by rfl, ?_⟩) ?_ ?_
        rotate_left
        ·intro w'
         go_simp
         first | with_reducible rfl | (simp [Instr.field, asAgg, part]; done) | (simp [Instr.field, asAgg, part]; rfl)
        rotate_left
        ·simp only [Act.put, sT, sZ, sS, i64_w, i32_w]
         rfl
        refine pure_ (i := 5) (N := some 36) (v := ?_) (a' := ?_) #[true, true, true, true, true, true, false, false, false, false, false, false, false, false, false, false, false, false, false, false, false, false, false, false, false, false] rfl rfl (any_of HT_.out (by kernel_rfl)) (fun _ _ _ h => h) (Or.inl ⟨by rfl, ?_⟩) ?_ ?_
        rotate_left
        ·intro w'
         go_simp
         first | with_reducible rfl | (simp [Instr.field, asAgg, part]; done) | (simp [Instr.field, asAgg, part]; rfl)
        rotate_left
        ·simp only [Act.put, sT, sZ, sS, i64_w, i32_w]
         rfl
        refine pure_ (i := 6) (N := some 37) (v := ?_) (a' := ?_) #[true, true, true, true, true, true, true, false, false, false, false, false, false, false, false, false, false, false, false, false, false, false, false, false, false, false] rfl rfl (any_of HT_.out (by kernel_rfl)) (fun _ _ _ h => h) (Or.inl ⟨by rfl, ?_⟩) ?_ ?_
        rotate_left
        ·intro w'
         go_simp
         first | with_reducible rfl | (simp [Instr.field, asAgg, part]; done) | (simp [Instr.field, asAgg, part]; rfl)
        rotate_left
        ·simp only [Act.put, sT, sZ, sS, i64_w, i32_w]
         rfl
        refine take_ (i := 7) (N := some 38) (v := ?_) (a' := ?_) #[true, true, true, true, true, true, true, true, false, false, false, false, false, false, false, false, false, false, false, false, false, false, false, false, false, false] rfl rfl (take_ofW HT_.out HW_.out (by kernel_rfl)) (fun _ _ _ h => h) (Or.inl ⟨by rfl, ?_⟩) hHeld ?_ ?_
        rotate_left
        ·rintro w' ⟨s0, s1, s2, s3, s4, s5, s6, s7⟩
         go_simp
         first | with_reducible rfl | (simp [Instr.field, asAgg, part]; done) | (simp [Instr.field, asAgg, part]; rfl)
        rotate_left
        ·simp only [Act.put, sT, sZ, sS, i64_w, i32_w]
         rfl
        refine one_ (i := 8) (N := some 39) #[true, true, true, true, true, true, true, true, true, false, false, false, false, false, false, false, false, false, false, false, false, false, false, false, false, false] rfl rfl (one_of HT_.out (by kernel_rfl)) (by decide) (fun K hK => ?_)
        refine goes_ Try.func13 (by kernel_rfl) rfl #[] (by rfl) rfl rfl (by (try simp only [List.map_toArray, List.map_cons, List.map_nil]); first | done | rfl | (simp only [List.length_drop, List.length_take]; rfl)) ?_
        with_reducible refine (count_New.calls  t271 t272 t273 t274 _ A24.out).mono ?_
        rintro e w51 ⟨rfl, hb⟩
        refine ⟨_, rfl, ?_⟩
        have n0_ := aM (Kd.R_below (by (with_reducible repeat (first | apply rA | apply rN | apply rW)); exact HO250.out) hb)
        have n1_ := aM (Kd.R_below (by (with_reducible repeat (first | apply rA | apply rN | apply rW)); exact HO258.out) hb)
        have n2_ := aM (Kd.R_below (by (with_reducible repeat (first | apply rA | apply rN | apply rW)); exact HO265.out) hb)
        have n3_ := aM (blk_below (g := gb241) (o := .cells #[.int .i64 a0_0, .int .i64 a0_1, .int .i64 a0_2, .int .i64 a0_3] 23 (0, 0)) (by (with_reducible repeat (first | refine bN ?_ _ | refine bW ?_ | refine bA ?_ _)); exact BK241.out) hb)
        have n4_ := aM (blk_below (g := gb255) (o := .cells #[.int .i64 t251, .int .i64 t252, .int .i64 t253, .int .i64 t254] 23 (0, 0)) (by (with_reducible repeat (first | refine bN ?_ _ | refine bW ?_ | refine bA ?_ _)); exact BK255.out) hb)
        have n5_ := aM (blk_below (g := gb270) (o := .cells #[.int .i64 t266, .int .i64 t267, .int .i64 t268, .int .i64 t269] 23 (0, 0)) (by (with_reducible repeat (first | refine bN ?_ _ | refine bW ?_ | refine bA ?_ _)); exact BK270.out) hb)
        have n6_ := aM (below_step (by repeat (first | (with_reducible first | exact HB.out | apply lA | apply lN | apply lW | refine lS ?_ GE241.out | refine lS ?_ GE255.out | refine lS ?_ GE270.out) | exact HB.out)) hb)
        clear HO250
        clear HO258
        clear HO265
        clear BK241
        clear BK255
        clear BK270
        clear HB
        have HO250 := n0_
        have HO258 := n1_
        have HO265 := n2_
        have BK241 := n3_
        have BK255 := n4_
        have BK270 := n5_
        have HB := n6_
        clear n0_ n1_ n2_ n3_ n4_ n5_ n6_
        (try clear hb)
        (try clear hb2)
        (try clear hk)
        (try clear hi)
        refine hK.out _ _ ⟨(blk_cell BK255.out 0).trans rfl, (blk_cell BK255.out 1).trans rfl, (blk_cell BK255.out 2).trans rfl, (blk_cell BK255.out 3).trans rfl, (blk_cell BK270.out 0).trans rfl, (blk_cell BK270.out 1).trans rfl, (blk_cell BK270.out 2).trans rfl, (blk_cell BK270.out 3).trans rfl⟩ (fun hHeld => ?_)
        clear hK K
        refine norm_ (a' := ?_) ?_ ?_
        rotate_left
        ·show Act.put _ (some 39) _ = _
         simp only [Act.put, sT, sZ, sS, i64_w, i32_w]
         rfl
        refine pure_ (i := 9) (N := some 40) (v := ?_) (a' := ?_) #[true, true, true, true, true, true, true, true, true, true, false, false, false, false, false, false, false, false, false, false, false, false, false, false, false, false] rfl rfl (any_of HT_.out (by kernel_rfl)) (fun _ _ _ h => h) (Or.inl ⟨by rfl, ?_⟩) ?_ ?_
        rotate_left
        ·intro w'
         go_simp
         first | with_reducible rfl | (simp [Instr.field, asAgg, part]; done) | (simp [Instr.field, asAgg, part]; rfl)
        rotate_left
        ·simp only [Act.put, sT, sZ, sS, i64_w, i32_w]
         rfl
        refine pure_ (i := 10) (N := some 41) (v := ?_) (a' := ?_) #[true, true, true, true, true, true, true, true, true, true, true, false, false, false, false, false, false, false, false, false, false, false, false, false, false, false] rfl rfl (any_of HT_.out (by kernel_rfl)) (fun _ _ _ h => h) (Or.inl ⟨by rfl, ?_⟩) ?_ ?_
        rotate_left
        ·intro w'
         go_simp
         first | with_reducible rfl | (simp [Instr.field, asAgg, part]; done) | (simp [Instr.field, asAgg, part]; rfl)
        rotate_left
        ·simp only [Act.put, sT, sZ, sS, i64_w, i32_w]
         rfl
        refine pure_ (i := 11) (N := some 42) (v := ?_) (a' := ?_) #[true, true, true, true, true, true, true, true, true, true, true, true, false, false, false, false, false, false, false, false, false, false, false, false, false, false] rfl rfl (any_of HT_.out (by kernel_rfl)) (fun _ _ _ h => h) (Or.inl ⟨by rfl, ?_⟩) ?_ ?_
        rotate_left
        ·intro w'
         go_simp
         first | with_reducible rfl | (simp [Instr.field, asAgg, part]; done) | (simp [Instr.field, asAgg, part]; rfl)
        rotate_left
        ·simp only [Act.put, sT, sZ, sS, i64_w, i32_w]
         rfl
        refine pure_ (i := 12) (N := some 43) (v := ?_) (a' := ?_) #[true, true, true, true, true, true, true, true, true, true, true, true, true, false, false, false, false, false, false, false, false, false, false, false, false, false] rfl rfl (any_of HT_.out (by kernel_rfl)) (fun _ _ _ h => h) (Or.inl ⟨by rfl, ?_⟩) ?_ ?_
        rotate_left
        ·intro w'
         go_simp
         first | with_reducible rfl | (simp [Instr.field, asAgg, part]; done) | (simp [Instr.field, asAgg, part]; rfl)
        rotate_left
        ·simp only [Act.put, sT, sZ, sS, i64_w, i32_w]
         rfl
        refine pure_ (i := 13) (N := some 44) (v := ?_) (a' := ?_) #[true, true, true, true, true, true, true, true, true, true, true, true, true, true, false, false, false, false, false, false, false, false, false, false, false, false] rfl rfl (any_of HT_.out (by kernel_rfl)) (fun _ _ _ h => h) (Or.inl ⟨by rfl, ?_⟩) ?_ ?_
        rotate_left
        ·intro w'
         go_simp
         first | with_reducible rfl | (simp [Instr.field, asAgg, part]; done) | (simp [Instr.field, asAgg, part]; rfl)
        rotate_left
        ·simp only [Act.put, sT, sZ, sS, i64_w, i32_w]
         rfl
        refine pure_ (i := 14) (N := some 45) (v := ?_) (a' := ?_) #[true, true, true, true, true, true, true, true, true, true, true, true, true, true, true, false, false, false, false, false, false, false, false, false, false, false] rfl rfl (any_of HT_.out (by kernel_rfl)) (fun _ _ _ h => h) (Or.inl ⟨by rfl, ?_⟩) ?_ ?_
        rotate_left
        ·intro w'
         go_simp
         first | with_reducible rfl | (simp [Instr.field, asAgg, part]; done) | (simp [Instr.field, asAgg, part]; rfl)
        rotate_left
        ·simp only [Act.put, sT, sZ, sS, i64_w, i32_w]
         rfl
        refine pure_ (i := 15) (N := some 46) (v := undef) (a' := ?_) #[true, true, true, true, true, true, true, true, true, true, true, true, true, true, true, true, false, false, false, false, false, false, false, false, false, false] rfl rfl (any_of HT_.out (by kernel_rfl)) (fun _ _ _ h => h) (Or.inr ⟨by rfl, rfl⟩) ?_ ?_
        rotate_left
        ·simp only [Act.put, sT, sZ, sS, i64_w, i32_w]
         rfl
        refine pure_ (i := 16) (N := some 47) (v := undef) (a' := ?_) #[true, true, true, true, true, true, true, true, true, true, true, true, true, true, true, true, true, false, false, false, false, false, false, false, false, false] rfl rfl (any_of HT_.out (by kernel_rfl)) (fun _ _ _ h => h) (Or.inr ⟨by rfl, rfl⟩) ?_ ?_
        rotate_left
        ·simp only [Act.put, sT, sZ, sS, i64_w, i32_w]
         rfl
        refine pure_ (i := 17) (N := some 48) (v := undef) (a' := ?_) #[true, true, true, true, true, true, true, true, true, true, true, true, true, true, true, true, true, true, false, false, false, false, false, false, false, false] rfl rfl (any_of HT_.out (by kernel_rfl)) (fun _ _ _ h => h) (Or.inr ⟨by rfl, rfl⟩) ?_ ?_
        rotate_left
        ·simp only [Act.put, sT, sZ, sS, i64_w, i32_w]
         rfl
        refine pure_ (i := 18) (N := some 49) (v := undef) (a' := ?_) #[true, true, true, true, true, true, true, true, true, true, true, true, true, true, true, true, true, true, true, false, false, false, false, false, false, false] rfl rfl (any_of HT_.out (by kernel_rfl)) (fun _ _ _ h => h) (Or.inr ⟨by rfl, rfl⟩) ?_ ?_
        rotate_left
        ·simp only [Act.put, sT, sZ, sS, i64_w, i32_w]
         rfl
        refine pure_ (i := 19) (N := some 50) (v := undef) (a' := ?_) #[true, true, true, true, true, true, true, true, true, true, true, true, true, true, true, true, true, true, true, true, false, false, false, false, false, false] rfl rfl (any_of HT_.out (by kernel_rfl)) (fun _ _ _ h => h) (Or.inr ⟨by rfl, rfl⟩) ?_ ?_
        rotate_left
        ·simp only [Act.put, sT, sZ, sS, i64_w, i32_w]
         rfl
        refine pure_ (i := 20) (N := some 51) (v := undef) (a' := ?_) #[true, true, true, true, true, true, true, true, true, true, true, true, true, true, true, true, true, true, true, true, true, false, false, false, false, false] rfl rfl (any_of HT_.out (by kernel_rfl)) (fun _ _ _ h => h) (Or.inr ⟨by rfl, rfl⟩) ?_ ?_
        rotate_left
        ·simp only [Act.put, sT, sZ, sS, i64_w, i32_w]
         rfl
        refine pure_ (i := 21) (N := some 52) (v := undef) (a' := ?_) #[true, true, true, true, true, true, true, true, true, true, true, true, true, true, true, true, true, true, true, true, true, true, false, false, false, false] rfl rfl (any_of HT_.out (by kernel_rfl)) (fun _ _ _ h => h) (Or.inr ⟨by rfl, rfl⟩) ?_ ?_
        rotate_left
        ·simp only [Act.put, sT, sZ, sS, i64_w, i32_w]
         rfl
        refine pure_ (i := 22) (N := some 53) (v := undef) (a' := ?_) #[true, true, true, true, true, true, true, true, true, true, true, true, true, true, true, true, true, true, true, true, true, true, true, false, false, false] rfl rfl (any_of HT_.out (by kernel_rfl)) (fun _ _ _ h => h) (Or.inr ⟨by rfl, rfl⟩) ?_ ?_
        rotate_left
        ·simp only [Act.put, sT, sZ, sS, i64_w, i32_w]
         rfl
        refine pure_ (i := 23) (N := some 54) (v := ?_) (a' := ?_) #[true, true, true, true, true, true, true, true, true, true, true, true, true, true, true, true, true, true, true, true, true, true, true, true, false, false] rfl rfl (any_of HT_.out (by kernel_rfl)) (fun _ _ _ h => h) (Or.inl ⟨by rfl, ?_⟩) ?_ ?_
        rotate_left
        ·intro w'
         go_simp
         first | with_reducible rfl | (simp [Instr.field, asAgg, part]; done) | (simp [Instr.field, asAgg, part]; rfl)
        rotate_left
        ·simp only [Act.put, sT, sZ, sS, i64_w, i32_w]
         rfl
        refine pure_ (i := 24) (N := some 55) (v := ?_) (a' := ?_) #[true, true, true, true, true, true, true, true, true, true, true, true, true, true, true, true, true, true, true, true, true, true, true, true, true, false] rfl rfl (any_of HT_.out (by kernel_rfl)) (fun _ _ _ h => h) (Or.inl ⟨by rfl, ?_⟩) ?_ ?_
        rotate_left
        ·intro w'
         go_simp
         first | with_reducible rfl | (simp [Instr.field, asAgg, part]; done) | (simp [Instr.field, asAgg, part]; rfl)
        rotate_left
        ·simp only [Act.put, sT, sZ, sS, i64_w, i32_w]
         rfl
        refine pure_ (i := 25) (N := some 2) (v := ?_) (a' := ?_) #[true, true, true, true, true, true, true, true, true, true, true, true, true, true, true, true, true, true, true, true, true, true, true, true, true, true] rfl rfl (any_of HT_.out (by kernel_rfl)) (fun _ _ _ h => h) (Or.inl ⟨by rfl, ?_⟩) ?_ ?_
        rotate_left
        ·intro w'
         go_simp
         first | with_reducible rfl | (simp [Instr.field, asAgg, part]; done) | (simp [Instr.field, asAgg, part]; rfl)
        rotate_left
        ·simp only [Act.put, sT, sZ, sS, i64_w, i32_w]
         rfl
        refine done_ (done_of HT_.out (by kernel_rfl)) ?_
        try go_wp2
        go_ret
        exact ⟨by first | rfl | (simp [errW_none, errW_some] <;> rfl) | (simp only [← hji14]; first | rfl | (simp [errW_none, errW_some] <;> rfl)) | (simp [*, errW_none, errW_some] <;> rfl), by repeat (first | (with_reducible first | exact HB.out | apply lA | apply lN | apply lW | refine lS ?_ GE241.out | refine lS ?_ GE255.out | refine lS ?_ GE270.out) | exact HB.out)⟩
       ·rw [if_neg c26] at H
        have c26b0 : ((ji14) == 0) = false := beq_eq_false_iff_ne.mpr c26
        have c26b1 : ((ji14) != 0) = true := bne_iff_ne.mpr c26
        have hjw : wrap64 (a0_0 - 127) = ji14 := by have h1_ := hji14_; have h2_ := bne_iff_ne.mp c26b1; by_cases h3_ : wrap64 (a0_0 - 127) < 0; (rw [if_pos h3_] at h1_; exact absurd h1_.symm h2_); (rw [if_neg h3_] at h1_; exact h1_)
        replace H := Option.bind_eq_some_iff.mp H
        obtain ⟨⟨t275, t276, t277, t278⟩, A520, H⟩ := H
        replace H : ((phaetonlaw08_times.f kj2 1 (wrap64 ((ji14) - 1))).bind fun t279 => ((count_Steps.f kj2 t275 t276 t277 t278 t279).bind fun bt282 => (some (bt282.2.2.1 == 2)))) = some r := H
        have A52 := aM A520
        clear A520
        replace H := Option.bind_eq_some_iff.mp H
        obtain ⟨t279, A530, H⟩ := H
        replace H : ((count_Steps.f kj2 t275 t276 t277 t278 t279).bind fun bt282 => (some (bt282.2.2.1 == 2))) = some r := H
        have A53 := aM A530
        clear A530
        replace H := Option.bind_eq_some_iff.mp H
        obtain ⟨⟨t282, t283, t284, t285⟩, A540, H⟩ := H
        replace H : (some (t284 == 2)) = some r := H
        have A54 := aM A540
        clear A540
        obtain rfl := Option.some.inj H
        have hcz55_0 : wc.cell? ⟨gb241, 0, none⟩ = some (.int .i64 a0_0) := (blk_cell BK241.out 0).trans rfl
        have hcz55_1 : wc.cell? ⟨gb241, 1, none⟩ = some (.int .i64 a0_1) := (blk_cell BK241.out 1).trans rfl
        have hcz55_2 : wc.cell? ⟨gb241, 2, none⟩ = some (.int .i64 a0_2) := (blk_cell BK241.out 2).trans rfl
        have hcz55_3 : wc.cell? ⟨gb241, 3, none⟩ = some (.int .i64 a0_3) := (blk_cell BK241.out 3).trans rfl
        have hfz55_0 := blk_frozen BK241.out 0
        have hfz55_1 := blk_frozen BK241.out 1
        have hfz55_2 := blk_frozen BK241.out 2
        have hfz55_3 := blk_frozen BK241.out 3
        try go_wp2_with (first | ((with_reducible refine gate_callee (f := 15) rfl ?_); refine goesL_ (some 22) rfl rfl Try.func15 (by kernel_rfl) rfl #[.agg #[.int .i64 a0_0, .int .i64 a0_1, .int .i64 a0_2, .int .i64 a0_3], .int .i64 2] rfl (by (try simp only [List.map_toArray, List.map_cons, List.map_nil]); first | done | rfl | (simp only [List.length_drop, List.length_take]; rfl)) ?_; (with_reducible refine (count_Step.calls a0_0 a0_1 a0_2 a0_3 2 t244 t245 t246 t247 _ A15.out).mono ?_); rintro e w56 ⟨rfl, hb⟩; refine ⟨_, rfl, ?_⟩; have n0_ := aM (blk_below (g := gb241) (o := .cells #[.int .i64 a0_0, .int .i64 a0_1, .int .i64 a0_2, .int .i64 a0_3] 23 (0, 0)) (by (with_reducible repeat (first | refine bN ?_ _ | refine bW ?_ | refine bA ?_ _)); exact BK241.out) hb); have n1_ := aM (below_step (by repeat (first | (with_reducible first | exact HB.out | apply lA | apply lN | apply lW | refine lS ?_ GE241.out) | exact HB.out)) hb); clear BK241; clear HB; have BK241 := n0_; have HB := n1_; clear n0_ n1_; (try clear hb); (try clear hb2); (try clear hk); (try clear hi)) | ((with_reducible refine gate_callee (f := 19) rfl ?_); refine goesL_ (some 24) rfl rfl Try.func19 (by kernel_rfl) rfl #[.int .i64 1, .int .i64 ji14] rfl (by (try simp only [List.map_toArray, List.map_cons, List.map_nil]); first | done | (simp only [hji14]; rfl) | (simp only [hjw]; rfl) | rfl | (simp only [List.length_drop, List.length_take]; rfl)) ?_; (with_reducible refine (phaetonlaw08_times.calls kj2 1 ji14 t248 _ A16.out).mono ?_); rintro e w57 ⟨v249, rfl, ho0, hb⟩; refine ⟨_, rfl, ?_⟩; have n0_ := aM (Kd.R_lower ho0 (below_size (by repeat (first | (with_reducible first | exact HB.out | apply lA | apply lN | apply lW | refine lS ?_ GE241.out) | exact HB.out)))); have n1_ := aM (blk_below (g := gb241) (o := .cells #[.int .i64 a0_0, .int .i64 a0_1, .int .i64 a0_2, .int .i64 a0_3] 23 (0, 0)) (by (with_reducible repeat (first | refine bN ?_ _ | refine bW ?_ | refine bA ?_ _)); exact BK241.out) hb); have n2_ := aM (below_step (by repeat (first | (with_reducible first | exact HB.out | apply lA | apply lN | apply lW | refine lS ?_ GE241.out) | exact HB.out)) hb); clear BK241; clear HB; have HO250 := n0_; have BK241 := n1_; have HB := n2_; clear n0_ n1_ n2_; (try clear hb); (try clear hb2); (try clear hk); (try clear hi); (try clear ho0); obtain ⟨Ao58, co58, eo58⟩ := Kd.R_slice HO250.out; subst eo58) | ((with_reducible refine gate_callee (f := 17) rfl ?_); refine goesL_ (some 25) rfl rfl Try.func17 (by kernel_rfl) rfl #[.agg #[.int .i64 t244, .int .i64 t245, .int .i64 t246, .int .i64 t247], .slice Ao58 t248.length co58] rfl (by (try simp only [List.map_toArray, List.map_cons, List.map_nil]); first | done | rfl | (simp only [List.length_drop, List.length_take]; rfl)) ?_; (with_reducible refine (count_Steps.calls kj2 t244 t245 t246 t247 _ _ t248 t251 t252 t253 t254 _ ?side1 ?side2 A17.out).mono ?_); (case side1 => repeat (first | exact (Kd.R_reads' HO250.out).2.2 | (with_reducible refine Kd.C_alloc ?_ _) | (with_reducible refine Kd.C_drewN ?_ _) | (with_reducible refine Kd.C_drew ?_))); (case side2 => exact (Kd.R_reads' HO250.out).2.1); rintro e w59 ⟨rfl, hb⟩; refine ⟨_, rfl, ?_⟩; have n0_ := aM (Kd.R_below (by (with_reducible repeat (first | apply rA | apply rN | apply rW)); exact HO250.out) hb); have n1_ := aM (blk_below (g := gb241) (o := .cells #[.int .i64 a0_0, .int .i64 a0_1, .int .i64 a0_2, .int .i64 a0_3] 23 (0, 0)) (by (with_reducible repeat (first | refine bN ?_ _ | refine bW ?_ | refine bA ?_ _)); exact BK241.out) hb); have n2_ := aM (below_step (by repeat (first | (with_reducible first | exact HB.out | apply lA | apply lN | apply lW | refine lS ?_ GE241.out) | exact HB.out)) hb); clear HO250; clear BK241; clear HB; have HO250 := n0_; have BK241 := n1_; have HB := n2_; clear n0_ n1_ n2_; (try clear hb); (try clear hb2); (try clear hk); (try clear hi)) | ((with_reducible refine gate_dst (N := 5) rfl ?_); refine box_event ?hg (N := 5) ?hd (cs := #[.int .i64 0, .int .i64 0, .int .i64 0, .int .i64 0]) (t := 23) ?hr ?_; (case hd => rfl); (case hg => rfl); (case hr => first | (go_simp; done) | (go_simp; rfl)); intro gb255 hg w60 hbox hb; have n0_ := aM (Kd.R_below (by (with_reducible repeat (first | apply rA | apply rN | apply rW)); exact HO250.out) hb); have n1_ := aM (blk_below (g := gb241) (o := .cells #[.int .i64 a0_0, .int .i64 a0_1, .int .i64 a0_2, .int .i64 a0_3] 23 (0, 0)) (by (with_reducible repeat (first | refine bN ?_ _ | refine bW ?_ | refine bA ?_ _)); exact BK241.out) hb); have n2_ := aM (below_step (by repeat (first | (with_reducible first | exact HB.out | apply lA | apply lN | apply lW | refine lS ?_ GE241.out) | exact HB.out)) hb); have n3_ := aM (hbox); have n4_ := aM ((by rw [hg]; exact (below_size (by repeat (first | (with_reducible first | exact HB.out | apply lA | apply lN | apply lW | refine lS ?_ GE241.out) | exact HB.out))) : w.heap.size ≤ gb255)); have n5_ := aM ((by rw [hg]; exact (below_size (by repeat (first | (with_reducible first | exact HB.out | apply lA | apply lN | apply lW | refine lS ?_ GE241.out) | exact HB.out))) : w.heap.size ≤ gb255)); have n6_ := aM ((by rw [hg]; exact Nat.ne_of_lt (blk_lt (g := gb241) (o := .cells #[.int .i64 a0_0, .int .i64 a0_1, .int .i64 a0_2, .int .i64 a0_3] 23 (0, 0)) (by (with_reducible repeat (first | refine bN ?_ _ | refine bW ?_ | refine bA ?_ _)); exact BK241.out)) : gb241 ≠ gb255)); have n7_ := aM ((by rw [hg]; exact Nat.ne_of_gt (blk_lt (g := gb241) (o := .cells #[.int .i64 a0_0, .int .i64 a0_1, .int .i64 a0_2, .int .i64 a0_3] 23 (0, 0)) (by (with_reducible repeat (first | refine bN ?_ _ | refine bW ?_ | refine bA ?_ _)); exact BK241.out)) : gb255 ≠ gb241)); clear HO250; clear BK241; clear HB; have HO250 := n0_; have BK241 := n1_; have HB := n2_; have BK255 := n3_; have GW255 := n4_; have GE255 := n5_; have NB241_255 := n6_; have NB255_241 := n7_; clear n0_ n1_ n2_ n3_ n4_ n5_ n6_ n7_; clear hb hbox hg; have hnb61 := NB255_241.out; have hnc61 := NB241_255.out; have hcz62_0 : w60.cell? ⟨gb255, 0, none⟩ = some (.int .i64 0) := (blk_cell BK255.out 0).trans rfl; have hcz62_1 : w60.cell? ⟨gb255, 1, none⟩ = some (.int .i64 0) := (blk_cell BK255.out 1).trans rfl; have hcz62_2 : w60.cell? ⟨gb255, 2, none⟩ = some (.int .i64 0) := (blk_cell BK255.out 2).trans rfl; have hcz62_3 : w60.cell? ⟨gb255, 3, none⟩ = some (.int .i64 0) := (blk_cell BK255.out 3).trans rfl; have hfz62_0 := blk_frozen BK255.out 0; have hfz62_1 := blk_frozen BK255.out 1; have hfz62_2 := blk_frozen BK255.out 2; have hfz62_3 := blk_frozen BK255.out 3))
        have n0_ : Aside0 (Kd.R (Kd.int .i64) 3 ((((w60.setCell ⟨gb255, 0, none⟩ (.int .i64 t251)).setCell ⟨gb255, 1, none⟩ (.int .i64 t252)).setCell ⟨gb255, 2, none⟩ (.int .i64 t253)).setCell ⟨gb255, 3, none⟩ (.int .i64 t254)) w.heap.size (fun _ => True) (.slice Ao58 t248.length co58) t248) := ⟨by (with_reducible repeat (first | apply rA | apply rN | apply rW)); exact Kd.R_mono (Kd.R_far (p := ⟨gb255, 3, none⟩) (Kd.R_far (p := ⟨gb255, 2, none⟩) (Kd.R_far (p := ⟨gb255, 1, none⟩) (Kd.R_far (p := ⟨gb255, 0, none⟩) (Kd.R_types HO250.out BK255.out (by decide)) (fun _ hk => hk.2) (.int .i64 t251)) (fun _ hk => hk.2) (.int .i64 t252)) (fun _ hk => hk.2) (.int .i64 t253)) (fun _ hk => hk.2) (.int .i64 t254)) (fun _ hk => trivial)⟩
        have n1_ : Aside0 (((((w60.setCell ⟨gb255, 0, none⟩ (.int .i64 t251)).setCell ⟨gb255, 1, none⟩ (.int .i64 t252)).setCell ⟨gb255, 2, none⟩ (.int .i64 t253)).setCell ⟨gb255, 3, none⟩ (.int .i64 t254)).heap[gb241]? = some (.cells #[.int .i64 a0_0, .int .i64 a0_1, .int .i64 a0_2, .int .i64 a0_3] 23 (0, 0))) := ⟨by (with_reducible repeat (first | refine bN ?_ _ | refine bW ?_ | refine bA ?_ _)); refine blk_far ?_ NB241_255.out _; (with_reducible repeat (first | refine bN ?_ _ | refine bW ?_ | refine bA ?_ _)); refine blk_far ?_ NB241_255.out _; (with_reducible repeat (first | refine bN ?_ _ | refine bW ?_ | refine bA ?_ _)); refine blk_far ?_ NB241_255.out _; (with_reducible repeat (first | refine bN ?_ _ | refine bW ?_ | refine bA ?_ _)); refine blk_far ?_ NB241_255.out _; (with_reducible repeat (first | refine bN ?_ _ | refine bW ?_ | refine bA ?_ _)); exact BK241.out⟩
        have n2_ : Aside0 (((((w60.setCell ⟨gb255, 0, none⟩ (.int .i64 t251)).setCell ⟨gb255, 1, none⟩ (.int .i64 t252)).setCell ⟨gb255, 2, none⟩ (.int .i64 t253)).setCell ⟨gb255, 3, none⟩ (.int .i64 t254)).heap[gb255]? = some (.cells #[.int .i64 t251, .int .i64 t252, .int .i64 t253, .int .i64 t254] 23 (0, 0))) := ⟨by (with_reducible repeat (first | refine bN ?_ _ | refine bW ?_ | refine bA ?_ _)); refine blk_put (cs := #[.int .i64 t251, .int .i64 t252, .int .i64 t253, .int .i64 0]) ?_ 3 _ rfl; (with_reducible repeat (first | refine bN ?_ _ | refine bW ?_ | refine bA ?_ _)); refine blk_put (cs := #[.int .i64 t251, .int .i64 t252, .int .i64 0, .int .i64 0]) ?_ 2 _ rfl; (with_reducible repeat (first | refine bN ?_ _ | refine bW ?_ | refine bA ?_ _)); refine blk_put (cs := #[.int .i64 t251, .int .i64 0, .int .i64 0, .int .i64 0]) ?_ 1 _ rfl; (with_reducible repeat (first | refine bN ?_ _ | refine bW ?_ | refine bA ?_ _)); refine blk_put (cs := #[.int .i64 0, .int .i64 0, .int .i64 0, .int .i64 0]) ?_ 0 _ rfl; (with_reducible repeat (first | refine bN ?_ _ | refine bW ?_ | refine bA ?_ _)); exact BK255.out⟩
        have n3_ : Aside0 (Below w.heap.size w ((((w60.setCell ⟨gb255, 0, none⟩ (.int .i64 t251)).setCell ⟨gb255, 1, none⟩ (.int .i64 t252)).setCell ⟨gb255, 2, none⟩ (.int .i64 t253)).setCell ⟨gb255, 3, none⟩ (.int .i64 t254))) := ⟨by repeat (first | (with_reducible first | exact HB.out | apply lA | apply lN | apply lW | refine lS ?_ GE241.out | refine lS ?_ GE255.out) | exact HB.out)⟩
        (try clear HO250)
        (try clear BK241)
        (try clear BK255)
        (try clear HB)
        generalize ((((w60.setCell ⟨gb255, 0, none⟩ (.int .i64 t251)).setCell ⟨gb255, 1, none⟩ (.int .i64 t252)).setCell ⟨gb255, 2, none⟩ (.int .i64 t253)).setCell ⟨gb255, 3, none⟩ (.int .i64 t254)) = w63 at n0_ n1_ n2_ n3_ ⊢
        have HO250 := n0_
        have BK241 := n1_
        have BK255 := n2_
        have HB := n3_
        clear n0_ n1_ n2_ n3_
        have n0_ := aM (rW HO250.out)
        have n1_ := aM (bW BK241.out)
        have n2_ := aM (bW BK255.out)
        have n3_ := aM (lW HB.out)
        clear HO250
        clear BK241
        clear BK255
        clear HB
        have HO250 := n0_
        have BK241 := n1_
        have BK255 := n2_
        have HB := n3_
        clear n0_ n1_ n2_ n3_
        refine start_ (n := 7) (S := fun w' => w'.cell? ⟨gb241, 0, none⟩ = some (.int .i64 a0_0) ∧ w'.cell? ⟨gb241, 1, none⟩ = some (.int .i64 a0_1) ∧ w'.cell? ⟨gb241, 2, none⟩ = some (.int .i64 a0_2) ∧ w'.cell? ⟨gb241, 3, none⟩ = some (.int .i64 a0_3)) (ds := []) #[false, false, false, false, false, false, false] (by kernel_rfl) rfl rfl ⟨(blk_cell BK241.out 0).trans rfl, (blk_cell BK241.out 1).trans rfl, (blk_cell BK241.out 2).trans rfl, (blk_cell BK241.out 3).trans rfl⟩ (fun hHeld => ?_)
        generalize w63.drew = w64 at HO250 BK241 BK255 HB hHeld ⊢
        refine take_ (i := 0) (N := some 26) (v := ?_) (a' := ?_) #[true, false, false, false, false, false, false] rfl rfl (by kernel_rfl) (fun _ _ _ h => h) (Or.inl ⟨by rfl, ?_⟩) hHeld ?_ ?_
        rotate_left
        ·rintro w' ⟨s0, s1, s2, s3⟩
         go_simp
         first | with_reducible rfl | (simp [Instr.field, asAgg, part]; done) | (simp [Instr.field, asAgg, part]; rfl)
        rotate_left
        ·simp only [Act.put, sT, sZ, sS, i64_w, i32_w]
         rfl
        refine join_ (σ := Value × Value × Nat) 1 #[true, true, true, true, true, true, false] (fun s_ => [(27, s_.1), (28, .agg #[.int .i64 t259, .int .i64 t260, .int .i64 t261, .int .i64 t262]), (29, s_.2.1), (30, .agg #[.int .i64 t266, .int .i64 t267, .int .i64 t268, .int .i64 t269]), (6, .pointer (some ⟨s_.2.2, 0, none⟩))]) (fun s_ w' => (w'.cell? ⟨gb241, 0, none⟩ = some (.int .i64 a0_0) ∧ w'.cell? ⟨gb241, 1, none⟩ = some (.int .i64 a0_1) ∧ w'.cell? ⟨gb241, 2, none⟩ = some (.int .i64 a0_2) ∧ w'.cell? ⟨gb241, 3, none⟩ = some (.int .i64 a0_3)) ∧ (Kd.R (Kd.int .i64) 3 w' w.heap.size (fun k_ => some k_ ≠ (s_.1 : Value).ownBlock ∧ some k_ ≠ (s_.2.1 : Value).ownBlock) (.slice Ao58 t248.length co58) t248) ∧ (Kd.R (Kd.int .i64) 3 w' w.heap.size (fun k_ => some k_ ≠ (.slice Ao58 t248.length co58 : Value).ownBlock ∧ some k_ ≠ (s_.2.1 : Value).ownBlock) s_.1 t256) ∧ (Kd.R (Kd.int .i64) 3 w' w.heap.size (fun k_ => some k_ ≠ (.slice Ao58 t248.length co58 : Value).ownBlock ∧ some k_ ≠ (s_.1 : Value).ownBlock) s_.2.1 t263) ∧ (w'.heap[gb241]? = some (.cells #[.int .i64 a0_0, .int .i64 a0_1, .int .i64 a0_2, .int .i64 a0_3] 23 (0, 0))) ∧ (w'.heap[gb255]? = some (.cells #[.int .i64 t251, .int .i64 t252, .int .i64 t253, .int .i64 t254] 23 (0, 0))) ∧ (w'.heap[s_.2.2]? = some (.cells #[.int .i64 0, .int .i64 0, .int .i64 0, .int .i64 0] 23 (0, 0))) ∧ (w.heap.size ≤ s_.2.2) ∧ (w.heap.size ≤ s_.2.2) ∧ (gb241 ≠ s_.2.2) ∧ (s_.2.2 ≠ gb241) ∧ (gb255 ≠ s_.2.2) ∧ (s_.2.2 ≠ gb255) ∧ (Below w.heap.size w w')) ?_ ?_
        rotate_left
        ·intro hJ1_2_3_4_5
         refine join_ (σ := Value × Value) 2 #[true, true, true, true, true, false, false] (fun s_ => [(27, s_.1), (28, .agg #[.int .i64 t259, .int .i64 t260, .int .i64 t261, .int .i64 t262]), (29, s_.2), (30, .agg #[.int .i64 t266, .int .i64 t267, .int .i64 t268, .int .i64 t269])]) (fun s_ w' => (w'.cell? ⟨gb241, 0, none⟩ = some (.int .i64 a0_0) ∧ w'.cell? ⟨gb241, 1, none⟩ = some (.int .i64 a0_1) ∧ w'.cell? ⟨gb241, 2, none⟩ = some (.int .i64 a0_2) ∧ w'.cell? ⟨gb241, 3, none⟩ = some (.int .i64 a0_3)) ∧ (Kd.R (Kd.int .i64) 3 w' w.heap.size (fun k_ => some k_ ≠ (s_.1 : Value).ownBlock ∧ some k_ ≠ (s_.2 : Value).ownBlock) (.slice Ao58 t248.length co58) t248) ∧ (Kd.R (Kd.int .i64) 3 w' w.heap.size (fun k_ => some k_ ≠ (.slice Ao58 t248.length co58 : Value).ownBlock ∧ some k_ ≠ (s_.2 : Value).ownBlock) s_.1 t256) ∧ (Kd.R (Kd.int .i64) 3 w' w.heap.size (fun k_ => some k_ ≠ (.slice Ao58 t248.length co58 : Value).ownBlock ∧ some k_ ≠ (s_.1 : Value).ownBlock) s_.2 t263) ∧ (w'.heap[gb241]? = some (.cells #[.int .i64 a0_0, .int .i64 a0_1, .int .i64 a0_2, .int .i64 a0_3] 23 (0, 0))) ∧ (w'.heap[gb255]? = some (.cells #[.int .i64 t251, .int .i64 t252, .int .i64 t253, .int .i64 t254] 23 (0, 0))) ∧ (Below w.heap.size w w')) ?_ ?_
         rotate_left
         ·intro hJ1_2_3_4
          refine join_ (σ := Value × Value × Nat) 2 #[true, true, true, true, false, true, false] (fun s_ => [(27, s_.1), (28, .agg #[.int .i64 t259, .int .i64 t260, .int .i64 t261, .int .i64 t262]), (29, s_.2.1), (6, .pointer (some ⟨s_.2.2, 0, none⟩))]) (fun s_ w' => (w'.cell? ⟨gb241, 0, none⟩ = some (.int .i64 a0_0) ∧ w'.cell? ⟨gb241, 1, none⟩ = some (.int .i64 a0_1) ∧ w'.cell? ⟨gb241, 2, none⟩ = some (.int .i64 a0_2) ∧ w'.cell? ⟨gb241, 3, none⟩ = some (.int .i64 a0_3)) ∧ (Kd.R (Kd.int .i64) 3 w' w.heap.size (fun k_ => some k_ ≠ (s_.1 : Value).ownBlock ∧ some k_ ≠ (s_.2.1 : Value).ownBlock) (.slice Ao58 t248.length co58) t248) ∧ (Kd.R (Kd.int .i64) 3 w' w.heap.size (fun k_ => some k_ ≠ (.slice Ao58 t248.length co58 : Value).ownBlock ∧ some k_ ≠ (s_.2.1 : Value).ownBlock) s_.1 t256) ∧ (Kd.R (Kd.int .i64) 3 w' w.heap.size (fun k_ => some k_ ≠ (.slice Ao58 t248.length co58 : Value).ownBlock ∧ some k_ ≠ (s_.1 : Value).ownBlock) s_.2.1 t263) ∧ (w'.heap[gb241]? = some (.cells #[.int .i64 a0_0, .int .i64 a0_1, .int .i64 a0_2, .int .i64 a0_3] 23 (0, 0))) ∧ (w'.heap[gb255]? = some (.cells #[.int .i64 t251, .int .i64 t252, .int .i64 t253, .int .i64 t254] 23 (0, 0))) ∧ (w'.heap[s_.2.2]? = some (.cells #[.int .i64 0, .int .i64 0, .int .i64 0, .int .i64 0] 23 (0, 0))) ∧ (w.heap.size ≤ s_.2.2) ∧ (w.heap.size ≤ s_.2.2) ∧ (gb241 ≠ s_.2.2) ∧ (s_.2.2 ≠ gb241) ∧ (gb255 ≠ s_.2.2) ∧ (s_.2.2 ≠ gb255) ∧ (Below w.heap.size w w')) ?_ ?_
          rotate_left
          ·intro hJ1_2_3_5
           refine join_ (σ := Value × Value) 3 #[true, true, true, true, false, false, false] (fun s_ => [(27, s_.1), (28, .agg #[.int .i64 t259, .int .i64 t260, .int .i64 t261, .int .i64 t262]), (29, s_.2)]) (fun s_ w' => (w'.cell? ⟨gb241, 0, none⟩ = some (.int .i64 a0_0) ∧ w'.cell? ⟨gb241, 1, none⟩ = some (.int .i64 a0_1) ∧ w'.cell? ⟨gb241, 2, none⟩ = some (.int .i64 a0_2) ∧ w'.cell? ⟨gb241, 3, none⟩ = some (.int .i64 a0_3)) ∧ (Kd.R (Kd.int .i64) 3 w' w.heap.size (fun k_ => some k_ ≠ (s_.1 : Value).ownBlock ∧ some k_ ≠ (s_.2 : Value).ownBlock) (.slice Ao58 t248.length co58) t248) ∧ (Kd.R (Kd.int .i64) 3 w' w.heap.size (fun k_ => some k_ ≠ (.slice Ao58 t248.length co58 : Value).ownBlock ∧ some k_ ≠ (s_.2 : Value).ownBlock) s_.1 t256) ∧ (Kd.R (Kd.int .i64) 3 w' w.heap.size (fun k_ => some k_ ≠ (.slice Ao58 t248.length co58 : Value).ownBlock ∧ some k_ ≠ (s_.1 : Value).ownBlock) s_.2 t263) ∧ (w'.heap[gb241]? = some (.cells #[.int .i64 a0_0, .int .i64 a0_1, .int .i64 a0_2, .int .i64 a0_3] 23 (0, 0))) ∧ (w'.heap[gb255]? = some (.cells #[.int .i64 t251, .int .i64 t252, .int .i64 t253, .int .i64 t254] 23 (0, 0))) ∧ (Below w.heap.size w w')) ?_ ?_
           rotate_left
           ·intro hJ1_2_3
            refine join_ (σ := Value × Nat) 3 #[true, true, true, false, false, true, false] (fun s_ => [(27, s_.1), (28, .agg #[.int .i64 t259, .int .i64 t260, .int .i64 t261, .int .i64 t262]), (6, .pointer (some ⟨s_.2, 0, none⟩))]) (fun s_ w' => (w'.cell? ⟨gb241, 0, none⟩ = some (.int .i64 a0_0) ∧ w'.cell? ⟨gb241, 1, none⟩ = some (.int .i64 a0_1) ∧ w'.cell? ⟨gb241, 2, none⟩ = some (.int .i64 a0_2) ∧ w'.cell? ⟨gb241, 3, none⟩ = some (.int .i64 a0_3)) ∧ (Kd.R (Kd.int .i64) 3 w' w.heap.size (fun k_ => some k_ ≠ (s_.1 : Value).ownBlock) (.slice Ao58 t248.length co58) t248) ∧ (Kd.R (Kd.int .i64) 3 w' w.heap.size (fun k_ => some k_ ≠ (.slice Ao58 t248.length co58 : Value).ownBlock) s_.1 t256) ∧ (w'.heap[gb241]? = some (.cells #[.int .i64 a0_0, .int .i64 a0_1, .int .i64 a0_2, .int .i64 a0_3] 23 (0, 0))) ∧ (w'.heap[gb255]? = some (.cells #[.int .i64 t251, .int .i64 t252, .int .i64 t253, .int .i64 t254] 23 (0, 0))) ∧ (w'.heap[s_.2]? = some (.cells #[.int .i64 0, .int .i64 0, .int .i64 0, .int .i64 0] 23 (0, 0))) ∧ (w.heap.size ≤ s_.2) ∧ (w.heap.size ≤ s_.2) ∧ (gb241 ≠ s_.2) ∧ (s_.2 ≠ gb241) ∧ (gb255 ≠ s_.2) ∧ (s_.2 ≠ gb255) ∧ (Below w.heap.size w w')) ?_ ?_
            rotate_left
            ·intro hJ1_2_5
             refine join_ (σ := Value) 4 #[true, true, true, false, false, false, false] (fun s_ => [(27, s_), (28, .agg #[.int .i64 t259, .int .i64 t260, .int .i64 t261, .int .i64 t262])]) (fun s_ w' => (w'.cell? ⟨gb241, 0, none⟩ = some (.int .i64 a0_0) ∧ w'.cell? ⟨gb241, 1, none⟩ = some (.int .i64 a0_1) ∧ w'.cell? ⟨gb241, 2, none⟩ = some (.int .i64 a0_2) ∧ w'.cell? ⟨gb241, 3, none⟩ = some (.int .i64 a0_3)) ∧ (Kd.R (Kd.int .i64) 3 w' w.heap.size (fun k_ => some k_ ≠ (s_ : Value).ownBlock) (.slice Ao58 t248.length co58) t248) ∧ (Kd.R (Kd.int .i64) 3 w' w.heap.size (fun k_ => some k_ ≠ (.slice Ao58 t248.length co58 : Value).ownBlock) s_ t256) ∧ (w'.heap[gb241]? = some (.cells #[.int .i64 a0_0, .int .i64 a0_1, .int .i64 a0_2, .int .i64 a0_3] 23 (0, 0))) ∧ (w'.heap[gb255]? = some (.cells #[.int .i64 t251, .int .i64 t252, .int .i64 t253, .int .i64 t254] 23 (0, 0))) ∧ (Below w.heap.size w w')) ?_ ?_
             rotate_left
             ·intro hJ1_2
              refine join_ (σ := Value × Nat) 4 #[true, true, false, false, false, true, false] (fun s_ => [(27, s_.1), (6, .pointer (some ⟨s_.2, 0, none⟩))]) (fun s_ w' => (w'.cell? ⟨gb241, 0, none⟩ = some (.int .i64 a0_0) ∧ w'.cell? ⟨gb241, 1, none⟩ = some (.int .i64 a0_1) ∧ w'.cell? ⟨gb241, 2, none⟩ = some (.int .i64 a0_2) ∧ w'.cell? ⟨gb241, 3, none⟩ = some (.int .i64 a0_3)) ∧ (Kd.R (Kd.int .i64) 3 w' w.heap.size (fun k_ => some k_ ≠ (s_.1 : Value).ownBlock) (.slice Ao58 t248.length co58) t248) ∧ (Kd.R (Kd.int .i64) 3 w' w.heap.size (fun k_ => some k_ ≠ (.slice Ao58 t248.length co58 : Value).ownBlock) s_.1 t256) ∧ (w'.heap[gb241]? = some (.cells #[.int .i64 a0_0, .int .i64 a0_1, .int .i64 a0_2, .int .i64 a0_3] 23 (0, 0))) ∧ (w'.heap[gb255]? = some (.cells #[.int .i64 t251, .int .i64 t252, .int .i64 t253, .int .i64 t254] 23 (0, 0))) ∧ (w'.heap[s_.2]? = some (.cells #[.int .i64 0, .int .i64 0, .int .i64 0, .int .i64 0] 23 (0, 0))) ∧ (w.heap.size ≤ s_.2) ∧ (w.heap.size ≤ s_.2) ∧ (gb241 ≠ s_.2) ∧ (s_.2 ≠ gb241) ∧ (gb255 ≠ s_.2) ∧ (s_.2 ≠ gb255) ∧ (Below w.heap.size w w')) ?_ ?_
              rotate_left
              ·intro hJ1_5
               refine join_ (σ := Value) 5 #[true, true, false, false, false, false, false] (fun s_ => [(27, s_)]) (fun s_ w' => (w'.cell? ⟨gb241, 0, none⟩ = some (.int .i64 a0_0) ∧ w'.cell? ⟨gb241, 1, none⟩ = some (.int .i64 a0_1) ∧ w'.cell? ⟨gb241, 2, none⟩ = some (.int .i64 a0_2) ∧ w'.cell? ⟨gb241, 3, none⟩ = some (.int .i64 a0_3)) ∧ (Kd.R (Kd.int .i64) 3 w' w.heap.size (fun k_ => some k_ ≠ (s_ : Value).ownBlock) (.slice Ao58 t248.length co58) t248) ∧ (Kd.R (Kd.int .i64) 3 w' w.heap.size (fun k_ => some k_ ≠ (.slice Ao58 t248.length co58 : Value).ownBlock) s_ t256) ∧ (w'.heap[gb241]? = some (.cells #[.int .i64 a0_0, .int .i64 a0_1, .int .i64 a0_2, .int .i64 a0_3] 23 (0, 0))) ∧ (w'.heap[gb255]? = some (.cells #[.int .i64 t251, .int .i64 t252, .int .i64 t253, .int .i64 t254] 23 (0, 0))) ∧ (Below w.heap.size w w')) ?_ ?_
               rotate_left
               ·intro hJ1
                refine join_ (σ := Nat) 5 #[true, false, false, false, false, true, false] (fun s_ => [(6, .pointer (some ⟨s_, 0, none⟩))]) (fun s_ w' => (w'.cell? ⟨gb241, 0, none⟩ = some (.int .i64 a0_0) ∧ w'.cell? ⟨gb241, 1, none⟩ = some (.int .i64 a0_1) ∧ w'.cell? ⟨gb241, 2, none⟩ = some (.int .i64 a0_2) ∧ w'.cell? ⟨gb241, 3, none⟩ = some (.int .i64 a0_3)) ∧ (Kd.R (Kd.int .i64) 3 w' w.heap.size (fun _ => True) (.slice Ao58 t248.length co58) t248) ∧ (w'.heap[gb241]? = some (.cells #[.int .i64 a0_0, .int .i64 a0_1, .int .i64 a0_2, .int .i64 a0_3] 23 (0, 0))) ∧ (w'.heap[gb255]? = some (.cells #[.int .i64 t251, .int .i64 t252, .int .i64 t253, .int .i64 t254] 23 (0, 0))) ∧ (w'.heap[s_]? = some (.cells #[.int .i64 0, .int .i64 0, .int .i64 0, .int .i64 0] 23 (0, 0))) ∧ (w.heap.size ≤ s_) ∧ (w.heap.size ≤ s_) ∧ (gb241 ≠ s_) ∧ (s_ ≠ gb241) ∧ (gb255 ≠ s_) ∧ (s_ ≠ gb255) ∧ (Below w.heap.size w w')) ?_ ?_
                rotate_left
                ·intro hJ5
                 refine two_ (i := 1) (j := 5) (Ni := some 27) (Nj := some 6) #[true, true, false, false, false, false, false] #[true, false, false, false, false, true, false] rfl rfl rfl rfl (by kernel_rfl) (by decide) (by decide) (fun K hK => ?_) (fun K hK => ?_)
                 ·skip
                  refine goes_ Try.func19 (by kernel_rfl) rfl #[.int .i64 1, .int .i64 255] (by rfl) rfl rfl (by (try simp only [List.map_toArray, List.map_cons, List.map_nil]); first | done | rfl | (simp only [List.length_drop, List.length_take]; rfl)) ?_
                  with_reducible refine (phaetonlaw08_times.calls kj2 1 255 t256 _ A18.out).mono ?_
                  rintro e w65 ⟨v257, rfl, ho0, hb⟩
                  refine ⟨_, rfl, ?_⟩
                  have n0_ := aM (Kd.R_elder' (by (with_reducible repeat (first | apply rA | apply rN | apply rW)); exact HO250.out) (Kd.R_base ho0) hb)
                  have n1_ := aM (Kd.R_lower (Kd.R_new' ho0 (Kd.R_lt (by (with_reducible repeat (first | apply rA | apply rN | apply rW)); exact HO250.out))) (below_size (by repeat (first | (with_reducible first | exact HB.out | apply lA | apply lN | apply lW | refine lS ?_ GE241.out | refine lS ?_ GE255.out) | exact HB.out))))
                  have n2_ := aM (blk_below (g := gb241) (o := .cells #[.int .i64 a0_0, .int .i64 a0_1, .int .i64 a0_2, .int .i64 a0_3] 23 (0, 0)) (by (with_reducible repeat (first | refine bN ?_ _ | refine bW ?_ | refine bA ?_ _)); exact BK241.out) hb)
                  have n3_ := aM (blk_below (g := gb255) (o := .cells #[.int .i64 t251, .int .i64 t252, .int .i64 t253, .int .i64 t254] 23 (0, 0)) (by (with_reducible repeat (first | refine bN ?_ _ | refine bW ?_ | refine bA ?_ _)); exact BK255.out) hb)
                  have n4_ := aM (below_step (by repeat (first | (with_reducible first | exact HB.out | apply lA | apply lN | apply lW | refine lS ?_ GE241.out | refine lS ?_ GE255.out) | exact HB.out)) hb)
                  clear HO250
                  clear BK241
                  clear BK255
                  clear HB
                  have HO250 := n0_
                  have HO258 := n1_
                  have BK241 := n2_
                  have BK255 := n3_
                  have HB := n4_
                  clear n0_ n1_ n2_ n3_ n4_
                  (try clear hb)
                  (try clear hb2)
                  (try clear hk)
                  (try clear hi)
                  (try clear ho0)
                  refine hK.out _ _ ⟨(blk_cell BK241.out 0).trans rfl, (blk_cell BK241.out 1).trans rfl, (blk_cell BK241.out 2).trans rfl, (blk_cell BK241.out 3).trans rfl⟩ (fun hHeld => ?_)
                  clear hK K
                  refine norm_ (a' := ?_) ?_ ?_
                  rotate_left
                  ·show Act.put _ (some 27) _ = _
                   simp only [Act.put, sT, sZ, sS, i64_w, i32_w]
                   rfl
                  exact norm_ (by first | (simp only [putAll, Act.put, sT, sZ, sS]; done) | (simp only [putAll, Act.put, sT, sZ, sS]; rfl)) (hJ1 (v257) _ ⟨hHeld, (by (with_reducible repeat (first | apply rA | apply rN | apply rW)); exact Kd.R_mono HO250.out (fun _ hk => hk.2)), (by (with_reducible repeat (first | apply rA | apply rN | apply rW)); exact Kd.R_mono HO258.out (fun _ hk => hk.2)), (by (with_reducible repeat (first | refine bN ?_ _ | refine bW ?_ | refine bA ?_ _)); exact BK241.out), (by (with_reducible repeat (first | refine bN ?_ _ | refine bW ?_ | refine bA ?_ _)); exact BK255.out), (by repeat (first | (with_reducible first | exact HB.out | apply lA | apply lN | apply lW | refine lS ?_ GE241.out | refine lS ?_ GE255.out) | exact HB.out))⟩)
                 ·skip
                  refine box_step ?hg (N := 6) ?hd (cs := #[.int .i64 0, .int .i64 0, .int .i64 0, .int .i64 0]) (t := 23) ?hr ?_; (case hd => rfl); (case hg => rfl); (case hr => first | (go_simp; done) | (go_simp; rfl))
                  intro gb270 hg w65 hbox hb
                  have n0_ := aM (Kd.R_below (by (with_reducible repeat (first | apply rA | apply rN | apply rW)); exact HO250.out) hb)
                  have n1_ := aM (blk_below (g := gb241) (o := .cells #[.int .i64 a0_0, .int .i64 a0_1, .int .i64 a0_2, .int .i64 a0_3] 23 (0, 0)) (by (with_reducible repeat (first | refine bN ?_ _ | refine bW ?_ | refine bA ?_ _)); exact BK241.out) hb)
                  have n2_ := aM (blk_below (g := gb255) (o := .cells #[.int .i64 t251, .int .i64 t252, .int .i64 t253, .int .i64 t254] 23 (0, 0)) (by (with_reducible repeat (first | refine bN ?_ _ | refine bW ?_ | refine bA ?_ _)); exact BK255.out) hb)
                  have n3_ := aM (below_step (by repeat (first | (with_reducible first | exact HB.out | apply lA | apply lN | apply lW | refine lS ?_ GE241.out | refine lS ?_ GE255.out) | exact HB.out)) hb)
                  have n4_ := aM (hbox)
                  have n5_ := aM ((by rw [hg]; exact (below_size (by repeat (first | (with_reducible first | exact HB.out | apply lA | apply lN | apply lW | refine lS ?_ GE241.out | refine lS ?_ GE255.out) | exact HB.out))) : w.heap.size ≤ gb270))
                  have n6_ := aM ((by rw [hg]; exact (below_size (by repeat (first | (with_reducible first | exact HB.out | apply lA | apply lN | apply lW | refine lS ?_ GE241.out | refine lS ?_ GE255.out) | exact HB.out))) : w.heap.size ≤ gb270))
                  have n7_ := aM ((by rw [hg]; exact Nat.ne_of_lt (blk_lt (g := gb241) (o := .cells #[.int .i64 a0_0, .int .i64 a0_1, .int .i64 a0_2, .int .i64 a0_3] 23 (0, 0)) (by (with_reducible repeat (first | refine bN ?_ _ | refine bW ?_ | refine bA ?_ _)); exact BK241.out)) : gb241 ≠ gb270))
                  have n8_ := aM ((by rw [hg]; exact Nat.ne_of_gt (blk_lt (g := gb241) (o := .cells #[.int .i64 a0_0, .int .i64 a0_1, .int .i64 a0_2, .int .i64 a0_3] 23 (0, 0)) (by (with_reducible repeat (first | refine bN ?_ _ | refine bW ?_ | refine bA ?_ _)); exact BK241.out)) : gb270 ≠ gb241))
                  have n9_ := aM ((by rw [hg]; exact Nat.ne_of_lt (blk_lt (g := gb255) (o := .cells #[.int .i64 t251, .int .i64 t252, .int .i64 t253, .int .i64 t254] 23 (0, 0)) (by (with_reducible repeat (first | refine bN ?_ _ | refine bW ?_ | refine bA ?_ _)); exact BK255.out)) : gb255 ≠ gb270))
                  have n10_ := aM ((by rw [hg]; exact Nat.ne_of_gt (blk_lt (g := gb255) (o := .cells #[.int .i64 t251, .int .i64 t252, .int .i64 t253, .int .i64 t254] 23 (0, 0)) (by (with_reducible repeat (first | refine bN ?_ _ | refine bW ?_ | refine bA ?_ _)); exact BK255.out)) : gb270 ≠ gb255))
                  clear HO250
                  clear BK241
                  clear BK255
                  clear HB
                  have HO250 := n0_
                  have BK241 := n1_
                  have BK255 := n2_
                  have HB := n3_
                  have BK270 := n4_
                  have GW270 := n5_
                  have GE270 := n6_
                  have NB241_270 := n7_
                  have NB270_241 := n8_
                  have NB255_270 := n9_
                  have NB270_255 := n10_
                  clear n0_ n1_ n2_ n3_ n4_ n5_ n6_ n7_ n8_ n9_ n10_
                  clear hb hbox hg
                  refine hK.out _ _ ⟨(blk_cell BK241.out 0).trans rfl, (blk_cell BK241.out 1).trans rfl, (blk_cell BK241.out 2).trans rfl, (blk_cell BK241.out 3).trans rfl⟩ (fun hHeld => ?_)
                  clear hK K
                  refine norm_ (a' := ?_) ?_ ?_
                  rotate_left
                  ·show Act.put _ (some 6) _ = _
                   simp only [Act.put, sT, sZ, sS, i64_w, i32_w]
                   rfl
                  exact norm_ (by first | (simp only [putAll, Act.put, sT, sZ, sS]; done) | (simp only [putAll, Act.put, sT, sZ, sS]; rfl)) (hJ5 (gb270) _ ⟨hHeld, (by (with_reducible repeat (first | apply rA | apply rN | apply rW)); exact HO250.out), (by (with_reducible repeat (first | refine bN ?_ _ | refine bW ?_ | refine bA ?_ _)); exact BK241.out), (by (with_reducible repeat (first | refine bN ?_ _ | refine bW ?_ | refine bA ?_ _)); exact BK255.out), (by (with_reducible repeat (first | refine bN ?_ _ | refine bW ?_ | refine bA ?_ _)); exact BK270.out), GW270.out, GE270.out, NB241_270.out, NB270_241.out, NB255_270.out, NB270_255.out, (by repeat (first | (with_reducible first | exact HB.out | apply lA | apply lN | apply lW | refine lS ?_ GE241.out | refine lS ?_ GE255.out | refine lS ?_ GE270.out) | exact HB.out))⟩)
                ·skip
                 rintro gb270 w66 ⟨hS_, h0_, h1_, h2_, h3_, h4_, h5_, h6_, h7_, h8_, h9_, h10_⟩
                 have n0_ : Aside0 (Kd.R (Kd.int .i64) 3 w66 w.heap.size (fun _ => True) (.slice Ao58 t248.length co58) t248) := ⟨h0_⟩
                 have n1_ : Aside0 (w66.heap[gb241]? = some (.cells #[.int .i64 a0_0, .int .i64 a0_1, .int .i64 a0_2, .int .i64 a0_3] 23 (0, 0))) := ⟨h1_⟩
                 have n2_ : Aside0 (w66.heap[gb255]? = some (.cells #[.int .i64 t251, .int .i64 t252, .int .i64 t253, .int .i64 t254] 23 (0, 0))) := ⟨h2_⟩
                 have n3_ : Aside0 (w66.heap[gb270]? = some (.cells #[.int .i64 0, .int .i64 0, .int .i64 0, .int .i64 0] 23 (0, 0))) := ⟨h3_⟩
                 have n4_ : Aside0 (w.heap.size ≤ gb270) := ⟨h4_⟩
                 have n5_ : Aside0 (w.heap.size ≤ gb270) := ⟨h5_⟩
                 have n6_ : Aside0 (gb241 ≠ gb270) := ⟨h6_⟩
                 have n7_ : Aside0 (gb270 ≠ gb241) := ⟨h7_⟩
                 have n8_ : Aside0 (gb255 ≠ gb270) := ⟨h8_⟩
                 have n9_ : Aside0 (gb270 ≠ gb255) := ⟨h9_⟩
                 have n10_ : Aside0 (Below w.heap.size w w66) := ⟨h10_⟩
                 clear HO250
                 clear BK241
                 clear BK255
                 clear HB
                 clear h0_ h1_ h2_ h3_ h4_ h5_ h6_ h7_ h8_ h9_ h10_
                 have HO250 := n0_
                 have BK241 := n1_
                 have BK255 := n2_
                 have BK270 := n3_
                 have GW270 := n4_
                 have GE270 := n5_
                 have NB241_270 := n6_
                 have NB270_241 := n7_
                 have NB255_270 := n8_
                 have NB270_255 := n9_
                 have HB := n10_
                 clear n0_ n1_ n2_ n3_ n4_ n5_ n6_ n7_ n8_ n9_ n10_
                 have hHeld : w66.cell? ⟨gb241, 0, none⟩ = some (.int .i64 a0_0) ∧ w66.cell? ⟨gb241, 1, none⟩ = some (.int .i64 a0_1) ∧ w66.cell? ⟨gb241, 2, none⟩ = some (.int .i64 a0_2) ∧ w66.cell? ⟨gb241, 3, none⟩ = some (.int .i64 a0_3) := hS_
                 refine norm_ (a' := ?_) ?_ ?_
                 rotate_left
                 ·simp only [putAll, Act.put, sT, sZ, sS]
                  rfl
                 refine one_ (i := 1) (N := some 27) #[true, true, false, false, false, true, false] rfl rfl (by kernel_rfl) (by decide) (fun K hK => ?_)
                 refine goes_ Try.func19 (by kernel_rfl) rfl #[.int .i64 1, .int .i64 255] (by rfl) rfl rfl (by (try simp only [List.map_toArray, List.map_cons, List.map_nil]); first | done | rfl | (simp only [List.length_drop, List.length_take]; rfl)) ?_
                 with_reducible refine (phaetonlaw08_times.calls kj2 1 255 t256 _ A18.out).mono ?_
                 rintro e w67 ⟨v257, rfl, ho0, hb⟩
                 refine ⟨_, rfl, ?_⟩
                 have n0_ := aM (Kd.R_elder' (by (with_reducible repeat (first | apply rA | apply rN | apply rW)); exact HO250.out) (Kd.R_base ho0) hb)
                 have n1_ := aM (Kd.R_lower (Kd.R_new' ho0 (Kd.R_lt (by (with_reducible repeat (first | apply rA | apply rN | apply rW)); exact HO250.out))) (below_size (by repeat (first | (with_reducible first | exact HB.out | apply lA | apply lN | apply lW | refine lS ?_ GE241.out | refine lS ?_ GE255.out | refine lS ?_ GE270.out) | exact HB.out))))
                 have n2_ := aM (blk_below (g := gb241) (o := .cells #[.int .i64 a0_0, .int .i64 a0_1, .int .i64 a0_2, .int .i64 a0_3] 23 (0, 0)) (by (with_reducible repeat (first | refine bN ?_ _ | refine bW ?_ | refine bA ?_ _)); exact BK241.out) hb)
                 have n3_ := aM (blk_below (g := gb255) (o := .cells #[.int .i64 t251, .int .i64 t252, .int .i64 t253, .int .i64 t254] 23 (0, 0)) (by (with_reducible repeat (first | refine bN ?_ _ | refine bW ?_ | refine bA ?_ _)); exact BK255.out) hb)
                 have n4_ := aM (blk_below (g := gb270) (o := .cells #[.int .i64 0, .int .i64 0, .int .i64 0, .int .i64 0] 23 (0, 0)) (by (with_reducible repeat (first | refine bN ?_ _ | refine bW ?_ | refine bA ?_ _)); exact BK270.out) hb)
                 have n5_ := aM (below_step (by repeat (first | (with_reducible first | exact HB.out | apply lA | apply lN | apply lW | refine lS ?_ GE241.out | refine lS ?_ GE255.out | refine lS ?_ GE270.out) | exact HB.out)) hb)
                 clear HO250
                 clear BK241
                 clear BK255
                 clear BK270
                 clear HB
                 have HO250 := n0_
                 have HO258 := n1_
                 have BK241 := n2_
                 have BK255 := n3_
                 have BK270 := n4_
                 have HB := n5_
                 clear n0_ n1_ n2_ n3_ n4_ n5_
                 (try clear hb)
                 (try clear hb2)
                 (try clear hk)
                 (try clear hi)
                 (try clear ho0)
                 refine hK.out _ _ ⟨(blk_cell BK241.out 0).trans rfl, (blk_cell BK241.out 1).trans rfl, (blk_cell BK241.out 2).trans rfl, (blk_cell BK241.out 3).trans rfl⟩ (fun hHeld => ?_)
                 clear hK K
                 refine norm_ (a' := ?_) ?_ ?_
                 rotate_left
                 ·show Act.put _ (some 27) _ = _
                  simp only [Act.put, sT, sZ, sS, i64_w, i32_w]
                  rfl
                 exact norm_ (by first | (simp only [putAll, Act.put, sT, sZ, sS]; done) | (simp only [putAll, Act.put, sT, sZ, sS]; rfl)) (hJ1_5 (v257, gb270) _ ⟨hHeld, (by (with_reducible repeat (first | apply rA | apply rN | apply rW)); exact Kd.R_mono HO250.out (fun _ hk => hk.2)), (by (with_reducible repeat (first | apply rA | apply rN | apply rW)); exact Kd.R_mono HO258.out (fun _ hk => hk.2)), (by (with_reducible repeat (first | refine bN ?_ _ | refine bW ?_ | refine bA ?_ _)); exact BK241.out), (by (with_reducible repeat (first | refine bN ?_ _ | refine bW ?_ | refine bA ?_ _)); exact BK255.out), (by (with_reducible repeat (first | refine bN ?_ _ | refine bW ?_ | refine bA ?_ _)); exact BK270.out), GW270.out, GE270.out, NB241_270.out, NB270_241.out, NB255_270.out, NB270_255.out, (by repeat (first | (with_reducible first | exact HB.out | apply lA | apply lN | apply lW | refine lS ?_ GE241.out | refine lS ?_ GE255.out | refine lS ?_ GE270.out) | exact HB.out))⟩)
               ·skip
                rintro v257 w66 ⟨hS_, h0_, h1_, h2_, h3_, h4_⟩
                have n0_ : Aside0 (Kd.R (Kd.int .i64) 3 w66 w.heap.size (fun k_ => some k_ ≠ (v257 : Value).ownBlock) (.slice Ao58 t248.length co58) t248) := ⟨h0_⟩
                have n1_ : Aside0 (Kd.R (Kd.int .i64) 3 w66 w.heap.size (fun k_ => some k_ ≠ (.slice Ao58 t248.length co58 : Value).ownBlock) v257 t256) := ⟨h1_⟩
                have n2_ : Aside0 (w66.heap[gb241]? = some (.cells #[.int .i64 a0_0, .int .i64 a0_1, .int .i64 a0_2, .int .i64 a0_3] 23 (0, 0))) := ⟨h2_⟩
                have n3_ : Aside0 (w66.heap[gb255]? = some (.cells #[.int .i64 t251, .int .i64 t252, .int .i64 t253, .int .i64 t254] 23 (0, 0))) := ⟨h3_⟩
                have n4_ : Aside0 (Below w.heap.size w w66) := ⟨h4_⟩
                clear HO250
                clear BK241
                clear BK255
                clear HB
                clear h0_ h1_ h2_ h3_ h4_
                have HO250 := n0_
                have HO258 := n1_
                have BK241 := n2_
                have BK255 := n3_
                have HB := n4_
                clear n0_ n1_ n2_ n3_ n4_
                have hHeld : w66.cell? ⟨gb241, 0, none⟩ = some (.int .i64 a0_0) ∧ w66.cell? ⟨gb241, 1, none⟩ = some (.int .i64 a0_1) ∧ w66.cell? ⟨gb241, 2, none⟩ = some (.int .i64 a0_2) ∧ w66.cell? ⟨gb241, 3, none⟩ = some (.int .i64 a0_3) := hS_
                obtain ⟨Ao67, co67, eo67⟩ := Kd.R_slice HO258.out
                (first | subst eo67 | (injection eo67 with f1_ f2_ f3_; have f4_ := f1_.symm; have f5_ := f3_.symm; clear f1_ f2_ f3_; subst f4_; subst f5_))
                refine norm_ (a' := ?_) ?_ ?_
                rotate_left
                ·simp only [putAll, Act.put, sT, sZ, sS]
                 rfl
                refine two_ (i := 2) (j := 5) (Ni := some 28) (Nj := some 6) #[true, true, true, false, false, false, false] #[true, true, false, false, false, true, false] rfl rfl rfl rfl (by kernel_rfl) (by decide) (by decide) (fun K hK => ?_) (fun K hK => ?_)
                ·skip
                 refine goes_ Try.func17 (by kernel_rfl) rfl #[.agg #[.int .i64 a0_0, .int .i64 a0_1, .int .i64 a0_2, .int .i64 a0_3], .slice Ao67 t256.length co67] (by rfl) rfl rfl (by (try simp only [List.map_toArray, List.map_cons, List.map_nil]); first | done | rfl | (simp only [List.length_drop, List.length_take]; rfl)) ?_
                 with_reducible refine (count_Steps.calls kj2 a0_0 a0_1 a0_2 a0_3 _ _ t256 t259 t260 t261 t262 _ ?side1 ?side2 A19.out).mono ?_
                 (case side1 => repeat (first | exact (Kd.R_reads' HO258.out).2.2 | (with_reducible refine Kd.C_alloc ?_ _) | (with_reducible refine Kd.C_drewN ?_ _) | (with_reducible refine Kd.C_drew ?_)))
                 (case side2 => exact (Kd.R_reads' HO258.out).2.1)
                 rintro e w68 ⟨rfl, hb⟩
                 refine ⟨_, rfl, ?_⟩
                 have n0_ := aM (Kd.R_below (by (with_reducible repeat (first | apply rA | apply rN | apply rW)); exact HO250.out) hb)
                 have n1_ := aM (Kd.R_below (by (with_reducible repeat (first | apply rA | apply rN | apply rW)); exact HO258.out) hb)
                 have n2_ := aM (blk_below (g := gb241) (o := .cells #[.int .i64 a0_0, .int .i64 a0_1, .int .i64 a0_2, .int .i64 a0_3] 23 (0, 0)) (by (with_reducible repeat (first | refine bN ?_ _ | refine bW ?_ | refine bA ?_ _)); exact BK241.out) hb)
                 have n3_ := aM (blk_below (g := gb255) (o := .cells #[.int .i64 t251, .int .i64 t252, .int .i64 t253, .int .i64 t254] 23 (0, 0)) (by (with_reducible repeat (first | refine bN ?_ _ | refine bW ?_ | refine bA ?_ _)); exact BK255.out) hb)
                 have n4_ := aM (below_step (by repeat (first | (with_reducible first | exact HB.out | apply lA | apply lN | apply lW | refine lS ?_ GE241.out | refine lS ?_ GE255.out) | exact HB.out)) hb)
                 clear HO250
                 clear HO258
                 clear BK241
                 clear BK255
                 clear HB
                 have HO250 := n0_
                 have HO258 := n1_
                 have BK241 := n2_
                 have BK255 := n3_
                 have HB := n4_
                 clear n0_ n1_ n2_ n3_ n4_
                 (try clear hb)
                 (try clear hb2)
                 (try clear hk)
                 (try clear hi)
                 refine hK.out _ _ ⟨(blk_cell BK241.out 0).trans rfl, (blk_cell BK241.out 1).trans rfl, (blk_cell BK241.out 2).trans rfl, (blk_cell BK241.out 3).trans rfl⟩ (fun hHeld => ?_)
                 clear hK K
                 refine norm_ (a' := ?_) ?_ ?_
                 rotate_left
                 ·show Act.put _ (some 28) _ = _
                  simp only [Act.put, sT, sZ, sS, i64_w, i32_w]
                  rfl
                 exact norm_ (by first | (simp only [putAll, Act.put, sT, sZ, sS]; done) | (simp only [putAll, Act.put, sT, sZ, sS]; rfl)) (hJ1_2 (.slice Ao67 t256.length co67) _ ⟨hHeld, (by (with_reducible repeat (first | apply rA | apply rN | apply rW)); exact HO250.out), (by (with_reducible repeat (first | apply rA | apply rN | apply rW)); exact HO258.out), (by (with_reducible repeat (first | refine bN ?_ _ | refine bW ?_ | refine bA ?_ _)); exact BK241.out), (by (with_reducible repeat (first | refine bN ?_ _ | refine bW ?_ | refine bA ?_ _)); exact BK255.out), (by repeat (first | (with_reducible first | exact HB.out | apply lA | apply lN | apply lW | refine lS ?_ GE241.out | refine lS ?_ GE255.out) | exact HB.out))⟩)
                ·skip
                 refine box_step ?hg (N := 6) ?hd (cs := #[.int .i64 0, .int .i64 0, .int .i64 0, .int .i64 0]) (t := 23) ?hr ?_; (case hd => rfl); (case hg => rfl); (case hr => first | (go_simp; done) | (go_simp; rfl))
                 intro gb270 hg w67 hbox hb
                 have n0_ := aM (Kd.R_below (by (with_reducible repeat (first | apply rA | apply rN | apply rW)); exact HO250.out) hb)
                 have n1_ := aM (Kd.R_below (by (with_reducible repeat (first | apply rA | apply rN | apply rW)); exact HO258.out) hb)
                 have n2_ := aM (blk_below (g := gb241) (o := .cells #[.int .i64 a0_0, .int .i64 a0_1, .int .i64 a0_2, .int .i64 a0_3] 23 (0, 0)) (by (with_reducible repeat (first | refine bN ?_ _ | refine bW ?_ | refine bA ?_ _)); exact BK241.out) hb)
                 have n3_ := aM (blk_below (g := gb255) (o := .cells #[.int .i64 t251, .int .i64 t252, .int .i64 t253, .int .i64 t254] 23 (0, 0)) (by (with_reducible repeat (first | refine bN ?_ _ | refine bW ?_ | refine bA ?_ _)); exact BK255.out) hb)
                 have n4_ := aM (below_step (by repeat (first | (with_reducible first | exact HB.out | apply lA | apply lN | apply lW | refine lS ?_ GE241.out | refine lS ?_ GE255.out) | exact HB.out)) hb)
                 have n5_ := aM (hbox)
                 have n6_ := aM ((by rw [hg]; exact (below_size (by repeat (first | (with_reducible first | exact HB.out | apply lA | apply lN | apply lW | refine lS ?_ GE241.out | refine lS ?_ GE255.out) | exact HB.out))) : w.heap.size ≤ gb270))
                 have n7_ := aM ((by rw [hg]; exact (below_size (by repeat (first | (with_reducible first | exact HB.out | apply lA | apply lN | apply lW | refine lS ?_ GE241.out | refine lS ?_ GE255.out) | exact HB.out))) : w.heap.size ≤ gb270))
                 have n8_ := aM ((by rw [hg]; exact Nat.ne_of_lt (blk_lt (g := gb241) (o := .cells #[.int .i64 a0_0, .int .i64 a0_1, .int .i64 a0_2, .int .i64 a0_3] 23 (0, 0)) (by (with_reducible repeat (first | refine bN ?_ _ | refine bW ?_ | refine bA ?_ _)); exact BK241.out)) : gb241 ≠ gb270))
                 have n9_ := aM ((by rw [hg]; exact Nat.ne_of_gt (blk_lt (g := gb241) (o := .cells #[.int .i64 a0_0, .int .i64 a0_1, .int .i64 a0_2, .int .i64 a0_3] 23 (0, 0)) (by (with_reducible repeat (first | refine bN ?_ _ | refine bW ?_ | refine bA ?_ _)); exact BK241.out)) : gb270 ≠ gb241))
                 have n10_ := aM ((by rw [hg]; exact Nat.ne_of_lt (blk_lt (g := gb255) (o := .cells #[.int .i64 t251, .int .i64 t252, .int .i64 t253, .int .i64 t254] 23 (0, 0)) (by (with_reducible repeat (first | refine bN ?_ _ | refine bW ?_ | refine bA ?_ _)); exact BK255.out)) : gb255 ≠ gb270))
                 have n11_ := aM ((by rw [hg]; exact Nat.ne_of_gt (blk_lt (g := gb255) (o := .cells #[.int .i64 t251, .int .i64 t252, .int .i64 t253, .int .i64 t254] 23 (0, 0)) (by (with_reducible repeat (first | refine bN ?_ _ | refine bW ?_ | refine bA ?_ _)); exact BK255.out)) : gb270 ≠ gb255))
                 clear HO250
                 clear HO258
                 clear BK241
                 clear BK255
                 clear HB
                 have HO250 := n0_
                 have HO258 := n1_
                 have BK241 := n2_
                 have BK255 := n3_
                 have HB := n4_
                 have BK270 := n5_
                 have GW270 := n6_
                 have GE270 := n7_
                 have NB241_270 := n8_
                 have NB270_241 := n9_
                 have NB255_270 := n10_
                 have NB270_255 := n11_
                 clear n0_ n1_ n2_ n3_ n4_ n5_ n6_ n7_ n8_ n9_ n10_ n11_
                 clear hb hbox hg
                 refine hK.out _ _ ⟨(blk_cell BK241.out 0).trans rfl, (blk_cell BK241.out 1).trans rfl, (blk_cell BK241.out 2).trans rfl, (blk_cell BK241.out 3).trans rfl⟩ (fun hHeld => ?_)
                 clear hK K
                 refine norm_ (a' := ?_) ?_ ?_
                 rotate_left
                 ·show Act.put _ (some 6) _ = _
                  simp only [Act.put, sT, sZ, sS, i64_w, i32_w]
                  rfl
                 exact norm_ (by first | (simp only [putAll, Act.put, sT, sZ, sS]; done) | (simp only [putAll, Act.put, sT, sZ, sS]; rfl)) (hJ1_5 ((.slice Ao67 t256.length co67), gb270) _ ⟨hHeld, (by (with_reducible repeat (first | apply rA | apply rN | apply rW)); exact HO250.out), (by (with_reducible repeat (first | apply rA | apply rN | apply rW)); exact HO258.out), (by (with_reducible repeat (first | refine bN ?_ _ | refine bW ?_ | refine bA ?_ _)); exact BK241.out), (by (with_reducible repeat (first | refine bN ?_ _ | refine bW ?_ | refine bA ?_ _)); exact BK255.out), (by (with_reducible repeat (first | refine bN ?_ _ | refine bW ?_ | refine bA ?_ _)); exact BK270.out), GW270.out, GE270.out, NB241_270.out, NB270_241.out, NB255_270.out, NB270_255.out, (by repeat (first | (with_reducible first | exact HB.out | apply lA | apply lN | apply lW | refine lS ?_ GE241.out | refine lS ?_ GE255.out | refine lS ?_ GE270.out) | exact HB.out))⟩)
              ·skip
               rintro ⟨v257, gb270⟩ w67 ⟨hS_, h0_, h1_, h2_, h3_, h4_, h5_, h6_, h7_, h8_, h9_, h10_, h11_⟩
               have n0_ : Aside0 (Kd.R (Kd.int .i64) 3 w67 w.heap.size (fun k_ => some k_ ≠ (v257 : Value).ownBlock) (.slice Ao58 t248.length co58) t248) := ⟨h0_⟩
               have n1_ : Aside0 (Kd.R (Kd.int .i64) 3 w67 w.heap.size (fun k_ => some k_ ≠ (.slice Ao58 t248.length co58 : Value).ownBlock) v257 t256) := ⟨h1_⟩
               have n2_ : Aside0 (w67.heap[gb241]? = some (.cells #[.int .i64 a0_0, .int .i64 a0_1, .int .i64 a0_2, .int .i64 a0_3] 23 (0, 0))) := ⟨h2_⟩
               have n3_ : Aside0 (w67.heap[gb255]? = some (.cells #[.int .i64 t251, .int .i64 t252, .int .i64 t253, .int .i64 t254] 23 (0, 0))) := ⟨h3_⟩
               have n4_ : Aside0 (w67.heap[gb270]? = some (.cells #[.int .i64 0, .int .i64 0, .int .i64 0, .int .i64 0] 23 (0, 0))) := ⟨h4_⟩
               have n5_ : Aside0 (w.heap.size ≤ gb270) := ⟨h5_⟩
               have n6_ : Aside0 (w.heap.size ≤ gb270) := ⟨h6_⟩
               have n7_ : Aside0 (gb241 ≠ gb270) := ⟨h7_⟩
               have n8_ : Aside0 (gb270 ≠ gb241) := ⟨h8_⟩
               have n9_ : Aside0 (gb255 ≠ gb270) := ⟨h9_⟩
               have n10_ : Aside0 (gb270 ≠ gb255) := ⟨h10_⟩
               have n11_ : Aside0 (Below w.heap.size w w67) := ⟨h11_⟩
               clear HO250
               clear BK241
               clear BK255
               clear HB
               clear h0_ h1_ h2_ h3_ h4_ h5_ h6_ h7_ h8_ h9_ h10_ h11_
               have HO250 := n0_
               have HO258 := n1_
               have BK241 := n2_
               have BK255 := n3_
               have BK270 := n4_
               have GW270 := n5_
               have GE270 := n6_
               have NB241_270 := n7_
               have NB270_241 := n8_
               have NB255_270 := n9_
               have NB270_255 := n10_
               have HB := n11_
               clear n0_ n1_ n2_ n3_ n4_ n5_ n6_ n7_ n8_ n9_ n10_ n11_
               have hHeld : w67.cell? ⟨gb241, 0, none⟩ = some (.int .i64 a0_0) ∧ w67.cell? ⟨gb241, 1, none⟩ = some (.int .i64 a0_1) ∧ w67.cell? ⟨gb241, 2, none⟩ = some (.int .i64 a0_2) ∧ w67.cell? ⟨gb241, 3, none⟩ = some (.int .i64 a0_3) := hS_
               obtain ⟨Ao68, co68, eo68⟩ := Kd.R_slice HO258.out
               (first | subst eo68 | (injection eo68 with f1_ f2_ f3_; have f4_ := f1_.symm; have f5_ := f3_.symm; clear f1_ f2_ f3_; subst f4_; subst f5_))
               refine norm_ (a' := ?_) ?_ ?_
               rotate_left
               ·simp only [putAll, Act.put, sT, sZ, sS]
                rfl
               refine one_ (i := 2) (N := some 28) #[true, true, true, false, false, true, false] rfl rfl (by kernel_rfl) (by decide) (fun K hK => ?_)
               refine goes_ Try.func17 (by kernel_rfl) rfl #[.agg #[.int .i64 a0_0, .int .i64 a0_1, .int .i64 a0_2, .int .i64 a0_3], .slice Ao68 t256.length co68] (by rfl) rfl rfl (by (try simp only [List.map_toArray, List.map_cons, List.map_nil]); first | done | rfl | (simp only [List.length_drop, List.length_take]; rfl)) ?_
               with_reducible refine (count_Steps.calls kj2 a0_0 a0_1 a0_2 a0_3 _ _ t256 t259 t260 t261 t262 _ ?side1 ?side2 A19.out).mono ?_
               (case side1 => repeat (first | exact (Kd.R_reads' HO258.out).2.2 | (with_reducible refine Kd.C_alloc ?_ _) | (with_reducible refine Kd.C_drewN ?_ _) | (with_reducible refine Kd.C_drew ?_)))
               (case side2 => exact (Kd.R_reads' HO258.out).2.1)
               rintro e w69 ⟨rfl, hb⟩
               refine ⟨_, rfl, ?_⟩
               have n0_ := aM (Kd.R_below (by (with_reducible repeat (first | apply rA | apply rN | apply rW)); exact HO250.out) hb)
               have n1_ := aM (Kd.R_below (by (with_reducible repeat (first | apply rA | apply rN | apply rW)); exact HO258.out) hb)
               have n2_ := aM (blk_below (g := gb241) (o := .cells #[.int .i64 a0_0, .int .i64 a0_1, .int .i64 a0_2, .int .i64 a0_3] 23 (0, 0)) (by (with_reducible repeat (first | refine bN ?_ _ | refine bW ?_ | refine bA ?_ _)); exact BK241.out) hb)
               have n3_ := aM (blk_below (g := gb255) (o := .cells #[.int .i64 t251, .int .i64 t252, .int .i64 t253, .int .i64 t254] 23 (0, 0)) (by (with_reducible repeat (first | refine bN ?_ _ | refine bW ?_ | refine bA ?_ _)); exact BK255.out) hb)
               have n4_ := aM (blk_below (g := gb270) (o := .cells #[.int .i64 0, .int .i64 0, .int .i64 0, .int .i64 0] 23 (0, 0)) (by (with_reducible repeat (first | refine bN ?_ _ | refine bW ?_ | refine bA ?_ _)); exact BK270.out) hb)
               have n5_ := aM (below_step (by repeat (first | (with_reducible first | exact HB.out | apply lA | apply lN | apply lW | refine lS ?_ GE241.out | refine lS ?_ GE255.out | refine lS ?_ GE270.out) | exact HB.out)) hb)
               clear HO250
               clear HO258
               clear BK241
               clear BK255
               clear BK270
               clear HB
               have HO250 := n0_
               have HO258 := n1_
               have BK241 := n2_
               have BK255 := n3_
               have BK270 := n4_
               have HB := n5_
               clear n0_ n1_ n2_ n3_ n4_ n5_
               (try clear hb)
               (try clear hb2)
               (try clear hk)
               (try clear hi)
               refine hK.out _ _ ⟨(blk_cell BK241.out 0).trans rfl, (blk_cell BK241.out 1).trans rfl, (blk_cell BK241.out 2).trans rfl, (blk_cell BK241.out 3).trans rfl⟩ (fun hHeld => ?_)
               clear hK K
               refine norm_ (a' := ?_) ?_ ?_
               rotate_left
               ·show Act.put _ (some 28) _ = _
                simp only [Act.put, sT, sZ, sS, i64_w, i32_w]
                rfl
               exact norm_ (by first | (simp only [putAll, Act.put, sT, sZ, sS]; done) | (simp only [putAll, Act.put, sT, sZ, sS]; rfl)) (hJ1_2_5 (.slice Ao68 t256.length co68, gb270) _ ⟨hHeld, (by (with_reducible repeat (first | apply rA | apply rN | apply rW)); exact HO250.out), (by (with_reducible repeat (first | apply rA | apply rN | apply rW)); exact HO258.out), (by (with_reducible repeat (first | refine bN ?_ _ | refine bW ?_ | refine bA ?_ _)); exact BK241.out), (by (with_reducible repeat (first | refine bN ?_ _ | refine bW ?_ | refine bA ?_ _)); exact BK255.out), (by (with_reducible repeat (first | refine bN ?_ _ | refine bW ?_ | refine bA ?_ _)); exact BK270.out), GW270.out, GE270.out, NB241_270.out, NB270_241.out, NB255_270.out, NB270_255.out, (by repeat (first | (with_reducible first | exact HB.out | apply lA | apply lN | apply lW | refine lS ?_ GE241.out | refine lS ?_ GE255.out | refine lS ?_ GE270.out) | exact HB.out))⟩)
             ·skip
              rintro v257 w68 ⟨hS_, h0_, h1_, h2_, h3_, h4_⟩
              have n0_ : Aside0 (Kd.R (Kd.int .i64) 3 w68 w.heap.size (fun k_ => some k_ ≠ (v257 : Value).ownBlock) (.slice Ao58 t248.length co58) t248) := ⟨h0_⟩
              have n1_ : Aside0 (Kd.R (Kd.int .i64) 3 w68 w.heap.size (fun k_ => some k_ ≠ (.slice Ao58 t248.length co58 : Value).ownBlock) v257 t256) := ⟨h1_⟩
              have n2_ : Aside0 (w68.heap[gb241]? = some (.cells #[.int .i64 a0_0, .int .i64 a0_1, .int .i64 a0_2, .int .i64 a0_3] 23 (0, 0))) := ⟨h2_⟩
              have n3_ : Aside0 (w68.heap[gb255]? = some (.cells #[.int .i64 t251, .int .i64 t252, .int .i64 t253, .int .i64 t254] 23 (0, 0))) := ⟨h3_⟩
              have n4_ : Aside0 (Below w.heap.size w w68) := ⟨h4_⟩
              clear HO250
              clear BK241
              clear BK255
              clear HB
              clear h0_ h1_ h2_ h3_ h4_
              have HO250 := n0_
              have HO258 := n1_
              have BK241 := n2_
              have BK255 := n3_
              have HB := n4_
              clear n0_ n1_ n2_ n3_ n4_
              have hHeld : w68.cell? ⟨gb241, 0, none⟩ = some (.int .i64 a0_0) ∧ w68.cell? ⟨gb241, 1, none⟩ = some (.int .i64 a0_1) ∧ w68.cell? ⟨gb241, 2, none⟩ = some (.int .i64 a0_2) ∧ w68.cell? ⟨gb241, 3, none⟩ = some (.int .i64 a0_3) := hS_
              refine norm_ (a' := ?_) ?_ ?_
              rotate_left
              ·simp only [putAll, Act.put, sT, sZ, sS]
               rfl
              refine two_ (i := 3) (j := 5) (Ni := some 29) (Nj := some 6) #[true, true, true, true, false, false, false] #[true, true, true, false, false, true, false] rfl rfl rfl rfl (by kernel_rfl) (by decide) (by decide) (fun K hK => ?_) (fun K hK => ?_)
              ·skip
               refine goes_ Try.func19 (by kernel_rfl) rfl #[.int .i64 2, .int .i64 255] (by rfl) rfl rfl (by (try simp only [List.map_toArray, List.map_cons, List.map_nil]); first | done | rfl | (simp only [List.length_drop, List.length_take]; rfl)) ?_
               with_reducible refine (phaetonlaw08_times.calls kj2 2 255 t263 _ A20.out).mono ?_
               rintro e w69 ⟨v264, rfl, ho0, hb⟩
               refine ⟨_, rfl, ?_⟩
               have n0_ := aM (Kd.R_elder' (by (with_reducible repeat (first | apply rA | apply rN | apply rW)); exact HO250.out) (Kd.R_base ho0) hb)
               have n1_ := aM (Kd.R_elder' (by (with_reducible repeat (first | apply rA | apply rN | apply rW)); exact HO258.out) (Kd.R_base ho0) hb)
               have n2_ := aM (Kd.R_lower (Kd.R_new' (Kd.R_new' ho0 (Kd.R_lt (by (with_reducible repeat (first | apply rA | apply rN | apply rW)); exact HO250.out))) (Kd.R_lt (by (with_reducible repeat (first | apply rA | apply rN | apply rW)); exact HO258.out))) (below_size (by repeat (first | (with_reducible first | exact HB.out | apply lA | apply lN | apply lW | refine lS ?_ GE241.out | refine lS ?_ GE255.out) | exact HB.out))))
               have n3_ := aM (blk_below (g := gb241) (o := .cells #[.int .i64 a0_0, .int .i64 a0_1, .int .i64 a0_2, .int .i64 a0_3] 23 (0, 0)) (by (with_reducible repeat (first | refine bN ?_ _ | refine bW ?_ | refine bA ?_ _)); exact BK241.out) hb)
               have n4_ := aM (blk_below (g := gb255) (o := .cells #[.int .i64 t251, .int .i64 t252, .int .i64 t253, .int .i64 t254] 23 (0, 0)) (by (with_reducible repeat (first | refine bN ?_ _ | refine bW ?_ | refine bA ?_ _)); exact BK255.out) hb)
               have n5_ := aM (below_step (by repeat (first | (with_reducible first | exact HB.out | apply lA | apply lN | apply lW | refine lS ?_ GE241.out | refine lS ?_ GE255.out) | exact HB.out)) hb)
               clear HO250
               clear HO258
               clear BK241
               clear BK255
               clear HB
               have HO250 := n0_
               have HO258 := n1_
               have HO265 := n2_
               have BK241 := n3_
               have BK255 := n4_
               have HB := n5_
               clear n0_ n1_ n2_ n3_ n4_ n5_
               (try clear hb)
               (try clear hb2)
               (try clear hk)
               (try clear hi)
               (try clear ho0)
               refine hK.out _ _ ⟨(blk_cell BK241.out 0).trans rfl, (blk_cell BK241.out 1).trans rfl, (blk_cell BK241.out 2).trans rfl, (blk_cell BK241.out 3).trans rfl⟩ (fun hHeld => ?_)
               clear hK K
               refine norm_ (a' := ?_) ?_ ?_
               rotate_left
               ·show Act.put _ (some 29) _ = _
                simp only [Act.put, sT, sZ, sS, i64_w, i32_w]
                rfl
               exact norm_ (by first | (simp only [putAll, Act.put, sT, sZ, sS]; done) | (simp only [putAll, Act.put, sT, sZ, sS]; rfl)) (hJ1_2_3 (v257, v264) _ ⟨hHeld, (by (with_reducible repeat (first | apply rA | apply rN | apply rW)); exact HO250.out), (by (with_reducible repeat (first | apply rA | apply rN | apply rW)); exact HO258.out), (by (with_reducible repeat (first | apply rA | apply rN | apply rW)); exact Kd.R_mono HO265.out (fun _ hk => ⟨hk.1.2, hk.2⟩)), (by (with_reducible repeat (first | refine bN ?_ _ | refine bW ?_ | refine bA ?_ _)); exact BK241.out), (by (with_reducible repeat (first | refine bN ?_ _ | refine bW ?_ | refine bA ?_ _)); exact BK255.out), (by repeat (first | (with_reducible first | exact HB.out | apply lA | apply lN | apply lW | refine lS ?_ GE241.out | refine lS ?_ GE255.out) | exact HB.out))⟩)
              ·skip
               refine box_step ?hg (N := 6) ?hd (cs := #[.int .i64 0, .int .i64 0, .int .i64 0, .int .i64 0]) (t := 23) ?hr ?_; (case hd => rfl); (case hg => rfl); (case hr => first | (go_simp; done) | (go_simp; rfl))
               intro gb270 hg w69 hbox hb
               have n0_ := aM (Kd.R_below (by (with_reducible repeat (first | apply rA | apply rN | apply rW)); exact HO250.out) hb)
               have n1_ := aM (Kd.R_below (by (with_reducible repeat (first | apply rA | apply rN | apply rW)); exact HO258.out) hb)
               have n2_ := aM (blk_below (g := gb241) (o := .cells #[.int .i64 a0_0, .int .i64 a0_1, .int .i64 a0_2, .int .i64 a0_3] 23 (0, 0)) (by (with_reducible repeat (first | refine bN ?_ _ | refine bW ?_ | refine bA ?_ _)); exact BK241.out) hb)
               have n3_ := aM (blk_below (g := gb255) (o := .cells #[.int .i64 t251, .int .i64 t252, .int .i64 t253, .int .i64 t254] 23 (0, 0)) (by (with_reducible repeat (first | refine bN ?_ _ | refine bW ?_ | refine bA ?_ _)); exact BK255.out) hb)
               have n4_ := aM (below_step (by repeat (first | (with_reducible first | exact HB.out | apply lA | apply lN | apply lW | refine lS ?_ GE241.out | refine lS ?_ GE255.out) | exact HB.out)) hb)
               have n5_ := aM (hbox)
               have n6_ := aM ((by rw [hg]; exact (below_size (by repeat (first | (with_reducible first | exact HB.out | apply lA | apply lN | apply lW | refine lS ?_ GE241.out | refine lS ?_ GE255.out) | exact HB.out))) : w.heap.size ≤ gb270))
               have n7_ := aM ((by rw [hg]; exact (below_size (by repeat (first | (with_reducible first | exact HB.out | apply lA | apply lN | apply lW | refine lS ?_ GE241.out | refine lS ?_ GE255.out) | exact HB.out))) : w.heap.size ≤ gb270))
               have n8_ := aM ((by rw [hg]; exact Nat.ne_of_lt (blk_lt (g := gb241) (o := .cells #[.int .i64 a0_0, .int .i64 a0_1, .int .i64 a0_2, .int .i64 a0_3] 23 (0, 0)) (by (with_reducible repeat (first | refine bN ?_ _ | refine bW ?_ | refine bA ?_ _)); exact BK241.out)) : gb241 ≠ gb270))
               have n9_ := aM ((by rw [hg]; exact Nat.ne_of_gt (blk_lt (g := gb241) (o := .cells #[.int .i64 a0_0, .int .i64 a0_1, .int .i64 a0_2, .int .i64 a0_3] 23 (0, 0)) (by (with_reducible repeat (first | refine bN ?_ _ | refine bW ?_ | refine bA ?_ _)); exact BK241.out)) : gb270 ≠ gb241))
               have n10_ := aM ((by rw [hg]; exact Nat.ne_of_lt (blk_lt (g := gb255) (o := .cells #[.int .i64 t251, .int .i64 t252, .int .i64 t253, .int .i64 t254] 23 (0, 0)) (by (with_reducible repeat (first | refine bN ?_ _ | refine bW ?_ | refine bA ?_ _)); exact BK255.out)) : gb255 ≠ gb270))
               have n11_ := aM ((by rw [hg]; exact Nat.ne_of_gt (blk_lt (g := gb255) (o := .cells #[.int .i64 t251, .int .i64 t252, .int .i64 t253, .int .i64 t254] 23 (0, 0)) (by (with_reducible repeat (first | refine bN ?_ _ | refine bW ?_ | refine bA ?_ _)); exact BK255.out)) : gb270 ≠ gb255))
               clear HO250
               clear HO258
               clear BK241
               clear BK255
               clear HB
               have HO250 := n0_
               have HO258 := n1_
               have BK241 := n2_
               have BK255 := n3_
               have HB := n4_
               have BK270 := n5_
               have GW270 := n6_
               have GE270 := n7_
               have NB241_270 := n8_
               have NB270_241 := n9_
               have NB255_270 := n10_
               have NB270_255 := n11_
               clear n0_ n1_ n2_ n3_ n4_ n5_ n6_ n7_ n8_ n9_ n10_ n11_
               clear hb hbox hg
               refine hK.out _ _ ⟨(blk_cell BK241.out 0).trans rfl, (blk_cell BK241.out 1).trans rfl, (blk_cell BK241.out 2).trans rfl, (blk_cell BK241.out 3).trans rfl⟩ (fun hHeld => ?_)
               clear hK K
               refine norm_ (a' := ?_) ?_ ?_
               rotate_left
               ·show Act.put _ (some 6) _ = _
                simp only [Act.put, sT, sZ, sS, i64_w, i32_w]
                rfl
               exact norm_ (by first | (simp only [putAll, Act.put, sT, sZ, sS]; done) | (simp only [putAll, Act.put, sT, sZ, sS]; rfl)) (hJ1_2_5 (v257, gb270) _ ⟨hHeld, (by (with_reducible repeat (first | apply rA | apply rN | apply rW)); exact HO250.out), (by (with_reducible repeat (first | apply rA | apply rN | apply rW)); exact HO258.out), (by (with_reducible repeat (first | refine bN ?_ _ | refine bW ?_ | refine bA ?_ _)); exact BK241.out), (by (with_reducible repeat (first | refine bN ?_ _ | refine bW ?_ | refine bA ?_ _)); exact BK255.out), (by (with_reducible repeat (first | refine bN ?_ _ | refine bW ?_ | refine bA ?_ _)); exact BK270.out), GW270.out, GE270.out, NB241_270.out, NB270_241.out, NB255_270.out, NB270_255.out, (by repeat (first | (with_reducible first | exact HB.out | apply lA | apply lN | apply lW | refine lS ?_ GE241.out | refine lS ?_ GE255.out | refine lS ?_ GE270.out) | exact HB.out))⟩)
            ·skip
             rintro ⟨v257, gb270⟩ w69 ⟨hS_, h0_, h1_, h2_, h3_, h4_, h5_, h6_, h7_, h8_, h9_, h10_, h11_⟩
             have n0_ : Aside0 (Kd.R (Kd.int .i64) 3 w69 w.heap.size (fun k_ => some k_ ≠ (v257 : Value).ownBlock) (.slice Ao58 t248.length co58) t248) := ⟨h0_⟩
             have n1_ : Aside0 (Kd.R (Kd.int .i64) 3 w69 w.heap.size (fun k_ => some k_ ≠ (.slice Ao58 t248.length co58 : Value).ownBlock) v257 t256) := ⟨h1_⟩
             have n2_ : Aside0 (w69.heap[gb241]? = some (.cells #[.int .i64 a0_0, .int .i64 a0_1, .int .i64 a0_2, .int .i64 a0_3] 23 (0, 0))) := ⟨h2_⟩
             have n3_ : Aside0 (w69.heap[gb255]? = some (.cells #[.int .i64 t251, .int .i64 t252, .int .i64 t253, .int .i64 t254] 23 (0, 0))) := ⟨h3_⟩
             have n4_ : Aside0 (w69.heap[gb270]? = some (.cells #[.int .i64 0, .int .i64 0, .int .i64 0, .int .i64 0] 23 (0, 0))) := ⟨h4_⟩
             have n5_ : Aside0 (w.heap.size ≤ gb270) := ⟨h5_⟩
             have n6_ : Aside0 (w.heap.size ≤ gb270) := ⟨h6_⟩
             have n7_ : Aside0 (gb241 ≠ gb270) := ⟨h7_⟩
             have n8_ : Aside0 (gb270 ≠ gb241) := ⟨h8_⟩
             have n9_ : Aside0 (gb255 ≠ gb270) := ⟨h9_⟩
             have n10_ : Aside0 (gb270 ≠ gb255) := ⟨h10_⟩
             have n11_ : Aside0 (Below w.heap.size w w69) := ⟨h11_⟩
             clear HO250
             clear BK241
             clear BK255
             clear HB
             clear h0_ h1_ h2_ h3_ h4_ h5_ h6_ h7_ h8_ h9_ h10_ h11_
             have HO250 := n0_
             have HO258 := n1_
             have BK241 := n2_
             have BK255 := n3_
             have BK270 := n4_
             have GW270 := n5_
             have GE270 := n6_
             have NB241_270 := n7_
             have NB270_241 := n8_
             have NB255_270 := n9_
             have NB270_255 := n10_
             have HB := n11_
             clear n0_ n1_ n2_ n3_ n4_ n5_ n6_ n7_ n8_ n9_ n10_ n11_
             have hHeld : w69.cell? ⟨gb241, 0, none⟩ = some (.int .i64 a0_0) ∧ w69.cell? ⟨gb241, 1, none⟩ = some (.int .i64 a0_1) ∧ w69.cell? ⟨gb241, 2, none⟩ = some (.int .i64 a0_2) ∧ w69.cell? ⟨gb241, 3, none⟩ = some (.int .i64 a0_3) := hS_
             refine norm_ (a' := ?_) ?_ ?_
             rotate_left
             ·simp only [putAll, Act.put, sT, sZ, sS]
              rfl
             refine one_ (i := 3) (N := some 29) #[true, true, true, true, false, true, false] rfl rfl (by kernel_rfl) (by decide) (fun K hK => ?_)
             refine goes_ Try.func19 (by kernel_rfl) rfl #[.int .i64 2, .int .i64 255] (by rfl) rfl rfl (by (try simp only [List.map_toArray, List.map_cons, List.map_nil]); first | done | rfl | (simp only [List.length_drop, List.length_take]; rfl)) ?_
             with_reducible refine (phaetonlaw08_times.calls kj2 2 255 t263 _ A20.out).mono ?_
             rintro e w70 ⟨v264, rfl, ho0, hb⟩
             refine ⟨_, rfl, ?_⟩
             have n0_ := aM (Kd.R_elder' (by (with_reducible repeat (first | apply rA | apply rN | apply rW)); exact HO250.out) (Kd.R_base ho0) hb)
             have n1_ := aM (Kd.R_elder' (by (with_reducible repeat (first | apply rA | apply rN | apply rW)); exact HO258.out) (Kd.R_base ho0) hb)
             have n2_ := aM (Kd.R_lower (Kd.R_new' (Kd.R_new' ho0 (Kd.R_lt (by (with_reducible repeat (first | apply rA | apply rN | apply rW)); exact HO250.out))) (Kd.R_lt (by (with_reducible repeat (first | apply rA | apply rN | apply rW)); exact HO258.out))) (below_size (by repeat (first | (with_reducible first | exact HB.out | apply lA | apply lN | apply lW | refine lS ?_ GE241.out | refine lS ?_ GE255.out | refine lS ?_ GE270.out) | exact HB.out))))
             have n3_ := aM (blk_below (g := gb241) (o := .cells #[.int .i64 a0_0, .int .i64 a0_1, .int .i64 a0_2, .int .i64 a0_3] 23 (0, 0)) (by (with_reducible repeat (first | refine bN ?_ _ | refine bW ?_ | refine bA ?_ _)); exact BK241.out) hb)
             have n4_ := aM (blk_below (g := gb255) (o := .cells #[.int .i64 t251, .int .i64 t252, .int .i64 t253, .int .i64 t254] 23 (0, 0)) (by (with_reducible repeat (first | refine bN ?_ _ | refine bW ?_ | refine bA ?_ _)); exact BK255.out) hb)
             have n5_ := aM (blk_below (g := gb270) (o := .cells #[.int .i64 0, .int .i64 0, .int .i64 0, .int .i64 0] 23 (0, 0)) (by (with_reducible repeat (first | refine bN ?_ _ | refine bW ?_ | refine bA ?_ _)); exact BK270.out) hb)
             have n6_ := aM (below_step (by repeat (first | (with_reducible first | exact HB.out | apply lA | apply lN | apply lW | refine lS ?_ GE241.out | refine lS ?_ GE255.out | refine lS ?_ GE270.out) | exact HB.out)) hb)
             clear HO250
             clear HO258
             clear BK241
             clear BK255
             clear BK270
             clear HB
             have HO250 := n0_
             have HO258 := n1_
             have HO265 := n2_
             have BK241 := n3_
             have BK255 := n4_
             have BK270 := n5_
             have HB := n6_
             clear n0_ n1_ n2_ n3_ n4_ n5_ n6_
             (try clear hb)
             (try clear hb2)
             (try clear hk)
             (try clear hi)
             (try clear ho0)
             refine hK.out _ _ ⟨(blk_cell BK241.out 0).trans rfl, (blk_cell BK241.out 1).trans rfl, (blk_cell BK241.out 2).trans rfl, (blk_cell BK241.out 3).trans rfl⟩ (fun hHeld => ?_)
             clear hK K
             refine norm_ (a' := ?_) ?_ ?_
             rotate_left
             ·show Act.put _ (some 29) _ = _
              simp only [Act.put, sT, sZ, sS, i64_w, i32_w]
              rfl
             exact norm_ (by first | (simp only [putAll, Act.put, sT, sZ, sS]; done) | (simp only [putAll, Act.put, sT, sZ, sS]; rfl)) (hJ1_2_3_5 (v257, v264, gb270) _ ⟨hHeld, (by (with_reducible repeat (first | apply rA | apply rN | apply rW)); exact HO250.out), (by (with_reducible repeat (first | apply rA | apply rN | apply rW)); exact HO258.out), (by (with_reducible repeat (first | apply rA | apply rN | apply rW)); exact Kd.R_mono HO265.out (fun _ hk => ⟨hk.1.2, hk.2⟩)), (by (with_reducible repeat (first | refine bN ?_ _ | refine bW ?_ | refine bA ?_ _)); exact BK241.out), (by (with_reducible repeat (first | refine bN ?_ _ | refine bW ?_ | refine bA ?_ _)); exact BK255.out), (by (with_reducible repeat (first | refine bN ?_ _ | refine bW ?_ | refine bA ?_ _)); exact BK270.out), GW270.out, GE270.out, NB241_270.out, NB270_241.out, NB255_270.out, NB270_255.out, (by repeat (first | (with_reducible first | exact HB.out | apply lA | apply lN | apply lW | refine lS ?_ GE241.out | refine lS ?_ GE255.out | refine lS ?_ GE270.out) | exact HB.out))⟩)
           ·skip
            rintro ⟨v257, v264⟩ w69 ⟨hS_, h0_, h1_, h2_, h3_, h4_, h5_⟩
            have n0_ : Aside0 (Kd.R (Kd.int .i64) 3 w69 w.heap.size (fun k_ => some k_ ≠ (v257 : Value).ownBlock ∧ some k_ ≠ (v264 : Value).ownBlock) (.slice Ao58 t248.length co58) t248) := ⟨h0_⟩
            have n1_ : Aside0 (Kd.R (Kd.int .i64) 3 w69 w.heap.size (fun k_ => some k_ ≠ (.slice Ao58 t248.length co58 : Value).ownBlock ∧ some k_ ≠ (v264 : Value).ownBlock) v257 t256) := ⟨h1_⟩
            have n2_ : Aside0 (Kd.R (Kd.int .i64) 3 w69 w.heap.size (fun k_ => some k_ ≠ (.slice Ao58 t248.length co58 : Value).ownBlock ∧ some k_ ≠ (v257 : Value).ownBlock) v264 t263) := ⟨h2_⟩
            have n3_ : Aside0 (w69.heap[gb241]? = some (.cells #[.int .i64 a0_0, .int .i64 a0_1, .int .i64 a0_2, .int .i64 a0_3] 23 (0, 0))) := ⟨h3_⟩
            have n4_ : Aside0 (w69.heap[gb255]? = some (.cells #[.int .i64 t251, .int .i64 t252, .int .i64 t253, .int .i64 t254] 23 (0, 0))) := ⟨h4_⟩
            have n5_ : Aside0 (Below w.heap.size w w69) := ⟨h5_⟩
            clear HO250
            clear BK241
            clear BK255
            clear HB
            clear h0_ h1_ h2_ h3_ h4_ h5_
            have HO250 := n0_
            have HO258 := n1_
            have HO265 := n2_
            have BK241 := n3_
            have BK255 := n4_
            have HB := n5_
            clear n0_ n1_ n2_ n3_ n4_ n5_
            have hHeld : w69.cell? ⟨gb241, 0, none⟩ = some (.int .i64 a0_0) ∧ w69.cell? ⟨gb241, 1, none⟩ = some (.int .i64 a0_1) ∧ w69.cell? ⟨gb241, 2, none⟩ = some (.int .i64 a0_2) ∧ w69.cell? ⟨gb241, 3, none⟩ = some (.int .i64 a0_3) := hS_
            obtain ⟨Ao70, co70, eo70⟩ := Kd.R_slice HO265.out
            (first | subst eo70 | (injection eo70 with f1_ f2_ f3_; have f4_ := f1_.symm; have f5_ := f3_.symm; clear f1_ f2_ f3_; subst f4_; subst f5_))
            refine norm_ (a' := ?_) ?_ ?_
            rotate_left
            ·simp only [putAll, Act.put, sT, sZ, sS]
             rfl
            refine two_ (i := 4) (j := 5) (Ni := some 30) (Nj := some 6) #[true, true, true, true, true, false, false] #[true, true, true, true, false, true, false] rfl rfl rfl rfl (by kernel_rfl) (by decide) (by decide) (fun K hK => ?_) (fun K hK => ?_)
            ·skip
             refine goes_ Try.func17 (by kernel_rfl) rfl #[.agg #[.int .i64 t259, .int .i64 t260, .int .i64 t261, .int .i64 t262], .slice Ao70 t263.length co70] (by rfl) rfl rfl (by (try simp only [List.map_toArray, List.map_cons, List.map_nil]); first | done | rfl | (simp only [List.length_drop, List.length_take]; rfl)) ?_
             with_reducible refine (count_Steps.calls kj2 t259 t260 t261 t262 _ _ t263 t266 t267 t268 t269 _ ?side1 ?side2 A21.out).mono ?_
             (case side1 => repeat (first | exact (Kd.R_reads' HO265.out).2.2 | (with_reducible refine Kd.C_alloc ?_ _) | (with_reducible refine Kd.C_drewN ?_ _) | (with_reducible refine Kd.C_drew ?_)))
             (case side2 => exact (Kd.R_reads' HO265.out).2.1)
             rintro e w71 ⟨rfl, hb⟩
             refine ⟨_, rfl, ?_⟩
             have n0_ := aM (Kd.R_below (by (with_reducible repeat (first | apply rA | apply rN | apply rW)); exact HO250.out) hb)
             have n1_ := aM (Kd.R_below (by (with_reducible repeat (first | apply rA | apply rN | apply rW)); exact HO258.out) hb)
             have n2_ := aM (Kd.R_below (by (with_reducible repeat (first | apply rA | apply rN | apply rW)); exact HO265.out) hb)
             have n3_ := aM (blk_below (g := gb241) (o := .cells #[.int .i64 a0_0, .int .i64 a0_1, .int .i64 a0_2, .int .i64 a0_3] 23 (0, 0)) (by (with_reducible repeat (first | refine bN ?_ _ | refine bW ?_ | refine bA ?_ _)); exact BK241.out) hb)
             have n4_ := aM (blk_below (g := gb255) (o := .cells #[.int .i64 t251, .int .i64 t252, .int .i64 t253, .int .i64 t254] 23 (0, 0)) (by (with_reducible repeat (first | refine bN ?_ _ | refine bW ?_ | refine bA ?_ _)); exact BK255.out) hb)
             have n5_ := aM (below_step (by repeat (first | (with_reducible first | exact HB.out | apply lA | apply lN | apply lW | refine lS ?_ GE241.out | refine lS ?_ GE255.out) | exact HB.out)) hb)
             clear HO250
             clear HO258
             clear HO265
             clear BK241
             clear BK255
             clear HB
             have HO250 := n0_
             have HO258 := n1_
             have HO265 := n2_
             have BK241 := n3_
             have BK255 := n4_
             have HB := n5_
             clear n0_ n1_ n2_ n3_ n4_ n5_
             (try clear hb)
             (try clear hb2)
             (try clear hk)
             (try clear hi)
             refine hK.out _ _ ⟨(blk_cell BK241.out 0).trans rfl, (blk_cell BK241.out 1).trans rfl, (blk_cell BK241.out 2).trans rfl, (blk_cell BK241.out 3).trans rfl⟩ (fun hHeld => ?_)
             clear hK K
             refine norm_ (a' := ?_) ?_ ?_
             rotate_left
             ·show Act.put _ (some 30) _ = _
              simp only [Act.put, sT, sZ, sS, i64_w, i32_w]
              rfl
             exact norm_ (by first | (simp only [putAll, Act.put, sT, sZ, sS]; done) | (simp only [putAll, Act.put, sT, sZ, sS]; rfl)) (hJ1_2_3_4 (v257, .slice Ao70 t263.length co70) _ ⟨hHeld, (by (with_reducible repeat (first | apply rA | apply rN | apply rW)); exact HO250.out), (by (with_reducible repeat (first | apply rA | apply rN | apply rW)); exact HO258.out), (by (with_reducible repeat (first | apply rA | apply rN | apply rW)); exact HO265.out), (by (with_reducible repeat (first | refine bN ?_ _ | refine bW ?_ | refine bA ?_ _)); exact BK241.out), (by (with_reducible repeat (first | refine bN ?_ _ | refine bW ?_ | refine bA ?_ _)); exact BK255.out), (by repeat (first | (with_reducible first | exact HB.out | apply lA | apply lN | apply lW | refine lS ?_ GE241.out | refine lS ?_ GE255.out) | exact HB.out))⟩)
            ·skip
             refine box_step ?hg (N := 6) ?hd (cs := #[.int .i64 0, .int .i64 0, .int .i64 0, .int .i64 0]) (t := 23) ?hr ?_; (case hd => rfl); (case hg => rfl); (case hr => first | (go_simp; done) | (go_simp; rfl))
             intro gb270 hg w70 hbox hb
             have n0_ := aM (Kd.R_below (by (with_reducible repeat (first | apply rA | apply rN | apply rW)); exact HO250.out) hb)
             have n1_ := aM (Kd.R_below (by (with_reducible repeat (first | apply rA | apply rN | apply rW)); exact HO258.out) hb)
             have n2_ := aM (Kd.R_below (by (with_reducible repeat (first | apply rA | apply rN | apply rW)); exact HO265.out) hb)
             have n3_ := aM (blk_below (g := gb241) (o := .cells #[.int .i64 a0_0, .int .i64 a0_1, .int .i64 a0_2, .int .i64 a0_3] 23 (0, 0)) (by (with_reducible repeat (first | refine bN ?_ _ | refine bW ?_ | refine bA ?_ _)); exact BK241.out) hb)
             have n4_ := aM (blk_below (g := gb255) (o := .cells #[.int .i64 t251, .int .i64 t252, .int .i64 t253, .int .i64 t254] 23 (0, 0)) (by (with_reducible repeat (first | refine bN ?_ _ | refine bW ?_ | refine bA ?_ _)); exact BK255.out) hb)
             have n5_ := aM (below_step (by repeat (first | (with_reducible first | exact HB.out | apply lA | apply lN | apply lW | refine lS ?_ GE241.out | refine lS ?_ GE255.out) | exact HB.out)) hb)
             have n6_ := aM (hbox)
             have n7_ := aM ((by rw [hg]; exact (below_size (by repeat (first | (with_reducible first | exact HB.out | apply lA | apply lN | apply lW | refine lS ?_ GE241.out | refine lS ?_ GE255.out) | exact HB.out))) : w.heap.size ≤ gb270))
             have n8_ := aM ((by rw [hg]; exact (below_size (by repeat (first | (with_reducible first | exact HB.out | apply lA | apply lN | apply lW | refine lS ?_ GE241.out | refine lS ?_ GE255.out) | exact HB.out))) : w.heap.size ≤ gb270))
             have n9_ := aM ((by rw [hg]; exact Nat.ne_of_lt (blk_lt (g := gb241) (o := .cells #[.int .i64 a0_0, .int .i64 a0_1, .int .i64 a0_2, .int .i64 a0_3] 23 (0, 0)) (by (with_reducible repeat (first | refine bN ?_ _ | refine bW ?_ | refine bA ?_ _)); exact BK241.out)) : gb241 ≠ gb270))
             have n10_ := aM ((by rw [hg]; exact Nat.ne_of_gt (blk_lt (g := gb241) (o := .cells #[.int .i64 a0_0, .int .i64 a0_1, .int .i64 a0_2, .int .i64 a0_3] 23 (0, 0)) (by (with_reducible repeat (first | refine bN ?_ _ | refine bW ?_ | refine bA ?_ _)); exact BK241.out)) : gb270 ≠ gb241))
             have n11_ := aM ((by rw [hg]; exact Nat.ne_of_lt (blk_lt (g := gb255) (o := .cells #[.int .i64 t251, .int .i64 t252, .int .i64 t253, .int .i64 t254] 23 (0, 0)) (by (with_reducible repeat (first | refine bN ?_ _ | refine bW ?_ | refine bA ?_ _)); exact BK255.out)) : gb255 ≠ gb270))
             have n12_ := aM ((by rw [hg]; exact Nat.ne_of_gt (blk_lt (g := gb255) (o := .cells #[.int .i64 t251, .int .i64 t252, .int .i64 t253, .int .i64 t254] 23 (0, 0)) (by (with_reducible repeat (first | refine bN ?_ _ | refine bW ?_ | refine bA ?_ _)); exact BK255.out)) : gb270 ≠ gb255))
             clear HO250
             clear HO258
             clear HO265
             clear BK241
             clear BK255
             clear HB
             have HO250 := n0_
             have HO258 := n1_
             have HO265 := n2_
             have BK241 := n3_
             have BK255 := n4_
             have HB := n5_
             have BK270 := n6_
             have GW270 := n7_
             have GE270 := n8_
             have NB241_270 := n9_
             have NB270_241 := n10_
             have NB255_270 := n11_
             have NB270_255 := n12_
             clear n0_ n1_ n2_ n3_ n4_ n5_ n6_ n7_ n8_ n9_ n10_ n11_ n12_
             clear hb hbox hg
             refine hK.out _ _ ⟨(blk_cell BK241.out 0).trans rfl, (blk_cell BK241.out 1).trans rfl, (blk_cell BK241.out 2).trans rfl, (blk_cell BK241.out 3).trans rfl⟩ (fun hHeld => ?_)
             clear hK K
             refine norm_ (a' := ?_) ?_ ?_
             rotate_left
             ·show Act.put _ (some 6) _ = _
              simp only [Act.put, sT, sZ, sS, i64_w, i32_w]
              rfl
             exact norm_ (by first | (simp only [putAll, Act.put, sT, sZ, sS]; done) | (simp only [putAll, Act.put, sT, sZ, sS]; rfl)) (hJ1_2_3_5 (v257, (.slice Ao70 t263.length co70), gb270) _ ⟨hHeld, (by (with_reducible repeat (first | apply rA | apply rN | apply rW)); exact HO250.out), (by (with_reducible repeat (first | apply rA | apply rN | apply rW)); exact HO258.out), (by (with_reducible repeat (first | apply rA | apply rN | apply rW)); exact HO265.out), (by (with_reducible repeat (first | refine bN ?_ _ | refine bW ?_ | refine bA ?_ _)); exact BK241.out), (by (with_reducible repeat (first | refine bN ?_ _ | refine bW ?_ | refine bA ?_ _)); exact BK255.out), (by (with_reducible repeat (first | refine bN ?_ _ | refine bW ?_ | refine bA ?_ _)); exact BK270.out), GW270.out, GE270.out, NB241_270.out, NB270_241.out, NB255_270.out, NB270_255.out, (by repeat (first | (with_reducible first | exact HB.out | apply lA | apply lN | apply lW | refine lS ?_ GE241.out | refine lS ?_ GE255.out | refine lS ?_ GE270.out) | exact HB.out))⟩)
          ·skip
           rintro ⟨v257, v264, gb270⟩ w70 ⟨hS_, h0_, h1_, h2_, h3_, h4_, h5_, h6_, h7_, h8_, h9_, h10_, h11_, h12_⟩
           have n0_ : Aside0 (Kd.R (Kd.int .i64) 3 w70 w.heap.size (fun k_ => some k_ ≠ (v257 : Value).ownBlock ∧ some k_ ≠ (v264 : Value).ownBlock) (.slice Ao58 t248.length co58) t248) := ⟨h0_⟩
           have n1_ : Aside0 (Kd.R (Kd.int .i64) 3 w70 w.heap.size (fun k_ => some k_ ≠ (.slice Ao58 t248.length co58 : Value).ownBlock ∧ some k_ ≠ (v264 : Value).ownBlock) v257 t256) := ⟨h1_⟩
           have n2_ : Aside0 (Kd.R (Kd.int .i64) 3 w70 w.heap.size (fun k_ => some k_ ≠ (.slice Ao58 t248.length co58 : Value).ownBlock ∧ some k_ ≠ (v257 : Value).ownBlock) v264 t263) := ⟨h2_⟩
           have n3_ : Aside0 (w70.heap[gb241]? = some (.cells #[.int .i64 a0_0, .int .i64 a0_1, .int .i64 a0_2, .int .i64 a0_3] 23 (0, 0))) := ⟨h3_⟩
           have n4_ : Aside0 (w70.heap[gb255]? = some (.cells #[.int .i64 t251, .int .i64 t252, .int .i64 t253, .int .i64 t254] 23 (0, 0))) := ⟨h4_⟩
           have n5_ : Aside0 (w70.heap[gb270]? = some (.cells #[.int .i64 0, .int .i64 0, .int .i64 0, .int .i64 0] 23 (0, 0))) := ⟨h5_⟩
           have n6_ : Aside0 (w.heap.size ≤ gb270) := ⟨h6_⟩
           have n7_ : Aside0 (w.heap.size ≤ gb270) := ⟨h7_⟩
           have n8_ : Aside0 (gb241 ≠ gb270) := ⟨h8_⟩
           have n9_ : Aside0 (gb270 ≠ gb241) := ⟨h9_⟩
           have n10_ : Aside0 (gb255 ≠ gb270) := ⟨h10_⟩
           have n11_ : Aside0 (gb270 ≠ gb255) := ⟨h11_⟩
           have n12_ : Aside0 (Below w.heap.size w w70) := ⟨h12_⟩
           clear HO250
           clear BK241
           clear BK255
           clear HB
           clear h0_ h1_ h2_ h3_ h4_ h5_ h6_ h7_ h8_ h9_ h10_ h11_ h12_
           have HO250 := n0_
           have HO258 := n1_
           have HO265 := n2_
           have BK241 := n3_
           have BK255 := n4_
           have BK270 := n5_
           have GW270 := n6_
           have GE270 := n7_
           have NB241_270 := n8_
           have NB270_241 := n9_
           have NB255_270 := n10_
           have NB270_255 := n11_
           have HB := n12_
           clear n0_ n1_ n2_ n3_ n4_ n5_ n6_ n7_ n8_ n9_ n10_ n11_ n12_
           have hHeld : w70.cell? ⟨gb241, 0, none⟩ = some (.int .i64 a0_0) ∧ w70.cell? ⟨gb241, 1, none⟩ = some (.int .i64 a0_1) ∧ w70.cell? ⟨gb241, 2, none⟩ = some (.int .i64 a0_2) ∧ w70.cell? ⟨gb241, 3, none⟩ = some (.int .i64 a0_3) := hS_
           obtain ⟨Ao71, co71, eo71⟩ := Kd.R_slice HO265.out
           (first | subst eo71 | (injection eo71 with f1_ f2_ f3_; have f4_ := f1_.symm; have f5_ := f3_.symm; clear f1_ f2_ f3_; subst f4_; subst f5_))
           refine norm_ (a' := ?_) ?_ ?_
           rotate_left
           ·simp only [putAll, Act.put, sT, sZ, sS]
            rfl
           refine one_ (i := 4) (N := some 30) #[true, true, true, true, true, true, false] rfl rfl (by kernel_rfl) (by decide) (fun K hK => ?_)
           refine goes_ Try.func17 (by kernel_rfl) rfl #[.agg #[.int .i64 t259, .int .i64 t260, .int .i64 t261, .int .i64 t262], .slice Ao71 t263.length co71] (by rfl) rfl rfl (by (try simp only [List.map_toArray, List.map_cons, List.map_nil]); first | done | rfl | (simp only [List.length_drop, List.length_take]; rfl)) ?_
           with_reducible refine (count_Steps.calls kj2 t259 t260 t261 t262 _ _ t263 t266 t267 t268 t269 _ ?side1 ?side2 A21.out).mono ?_
           (case side1 => repeat (first | exact (Kd.R_reads' HO265.out).2.2 | (with_reducible refine Kd.C_alloc ?_ _) | (with_reducible refine Kd.C_drewN ?_ _) | (with_reducible refine Kd.C_drew ?_)))
           (case side2 => exact (Kd.R_reads' HO265.out).2.1)
           rintro e w72 ⟨rfl, hb⟩
           refine ⟨_, rfl, ?_⟩
           have n0_ := aM (Kd.R_below (by (with_reducible repeat (first | apply rA | apply rN | apply rW)); exact HO250.out) hb)
           have n1_ := aM (Kd.R_below (by (with_reducible repeat (first | apply rA | apply rN | apply rW)); exact HO258.out) hb)
           have n2_ := aM (Kd.R_below (by (with_reducible repeat (first | apply rA | apply rN | apply rW)); exact HO265.out) hb)
           have n3_ := aM (blk_below (g := gb241) (o := .cells #[.int .i64 a0_0, .int .i64 a0_1, .int .i64 a0_2, .int .i64 a0_3] 23 (0, 0)) (by (with_reducible repeat (first | refine bN ?_ _ | refine bW ?_ | refine bA ?_ _)); exact BK241.out) hb)
           have n4_ := aM (blk_below (g := gb255) (o := .cells #[.int .i64 t251, .int .i64 t252, .int .i64 t253, .int .i64 t254] 23 (0, 0)) (by (with_reducible repeat (first | refine bN ?_ _ | refine bW ?_ | refine bA ?_ _)); exact BK255.out) hb)
           have n5_ := aM (blk_below (g := gb270) (o := .cells #[.int .i64 0, .int .i64 0, .int .i64 0, .int .i64 0] 23 (0, 0)) (by (with_reducible repeat (first | refine bN ?_ _ | refine bW ?_ | refine bA ?_ _)); exact BK270.out) hb)
           have n6_ := aM (below_step (by repeat (first | (with_reducible first | exact HB.out | apply lA | apply lN | apply lW | refine lS ?_ GE241.out | refine lS ?_ GE255.out | refine lS ?_ GE270.out) | exact HB.out)) hb)
           clear HO250
           clear HO258
           clear HO265
           clear BK241
           clear BK255
           clear BK270
           clear HB
           have HO250 := n0_
           have HO258 := n1_
           have HO265 := n2_
           have BK241 := n3_
           have BK255 := n4_
           have BK270 := n5_
           have HB := n6_
           clear n0_ n1_ n2_ n3_ n4_ n5_ n6_
           (try clear hb)
           (try clear hb2)
           (try clear hk)
           (try clear hi)
           refine hK.out _ _ ⟨(blk_cell BK241.out 0).trans rfl, (blk_cell BK241.out 1).trans rfl, (blk_cell BK241.out 2).trans rfl, (blk_cell BK241.out 3).trans rfl⟩ (fun hHeld => ?_)
           clear hK K
           refine norm_ (a' := ?_) ?_ ?_
           rotate_left
           ·show Act.put _ (some 30) _ = _
            simp only [Act.put, sT, sZ, sS, i64_w, i32_w]
            rfl
           exact norm_ (by first | (simp only [putAll, Act.put, sT, sZ, sS]; done) | (simp only [putAll, Act.put, sT, sZ, sS]; rfl)) (hJ1_2_3_4_5 (v257, .slice Ao71 t263.length co71, gb270) _ ⟨hHeld, (by (with_reducible repeat (first | apply rA | apply rN | apply rW)); exact HO250.out), (by (with_reducible repeat (first | apply rA | apply rN | apply rW)); exact HO258.out), (by (with_reducible repeat (first | apply rA | apply rN | apply rW)); exact HO265.out), (by (with_reducible repeat (first | refine bN ?_ _ | refine bW ?_ | refine bA ?_ _)); exact BK241.out), (by (with_reducible repeat (first | refine bN ?_ _ | refine bW ?_ | refine bA ?_ _)); exact BK255.out), (by (with_reducible repeat (first | refine bN ?_ _ | refine bW ?_ | refine bA ?_ _)); exact BK270.out), GW270.out, GE270.out, NB241_270.out, NB270_241.out, NB255_270.out, NB270_255.out, (by repeat (first | (with_reducible first | exact HB.out | apply lA | apply lN | apply lW | refine lS ?_ GE241.out | refine lS ?_ GE255.out | refine lS ?_ GE270.out) | exact HB.out))⟩)
         ·skip
          rintro ⟨v257, v264⟩ w71 ⟨hS_, h0_, h1_, h2_, h3_, h4_, h5_⟩
          have n0_ : Aside0 (Kd.R (Kd.int .i64) 3 w71 w.heap.size (fun k_ => some k_ ≠ (v257 : Value).ownBlock ∧ some k_ ≠ (v264 : Value).ownBlock) (.slice Ao58 t248.length co58) t248) := ⟨h0_⟩
          have n1_ : Aside0 (Kd.R (Kd.int .i64) 3 w71 w.heap.size (fun k_ => some k_ ≠ (.slice Ao58 t248.length co58 : Value).ownBlock ∧ some k_ ≠ (v264 : Value).ownBlock) v257 t256) := ⟨h1_⟩
          have n2_ : Aside0 (Kd.R (Kd.int .i64) 3 w71 w.heap.size (fun k_ => some k_ ≠ (.slice Ao58 t248.length co58 : Value).ownBlock ∧ some k_ ≠ (v257 : Value).ownBlock) v264 t263) := ⟨h2_⟩
          have n3_ : Aside0 (w71.heap[gb241]? = some (.cells #[.int .i64 a0_0, .int .i64 a0_1, .int .i64 a0_2, .int .i64 a0_3] 23 (0, 0))) := ⟨h3_⟩
          have n4_ : Aside0 (w71.heap[gb255]? = some (.cells #[.int .i64 t251, .int .i64 t252, .int .i64 t253, .int .i64 t254] 23 (0, 0))) := ⟨h4_⟩
          have n5_ : Aside0 (Below w.heap.size w w71) := ⟨h5_⟩
          clear HO250
          clear BK241
          clear BK255
          clear HB
          clear h0_ h1_ h2_ h3_ h4_ h5_
          have HO250 := n0_
          have HO258 := n1_
          have HO265 := n2_
          have BK241 := n3_
          have BK255 := n4_
          have HB := n5_
          clear n0_ n1_ n2_ n3_ n4_ n5_
          have hHeld : w71.cell? ⟨gb241, 0, none⟩ = some (.int .i64 a0_0) ∧ w71.cell? ⟨gb241, 1, none⟩ = some (.int .i64 a0_1) ∧ w71.cell? ⟨gb241, 2, none⟩ = some (.int .i64 a0_2) ∧ w71.cell? ⟨gb241, 3, none⟩ = some (.int .i64 a0_3) := hS_
          refine norm_ (a' := ?_) ?_ ?_
          rotate_left
          ·simp only [putAll, Act.put, sT, sZ, sS]
           rfl
          refine one_ (i := 5) (N := some 6) #[true, true, true, true, true, true, false] rfl rfl (by kernel_rfl) (by decide) (fun K hK => ?_)
          refine box_step ?hg (N := 6) ?hd (cs := #[.int .i64 0, .int .i64 0, .int .i64 0, .int .i64 0]) (t := 23) ?hr ?_; (case hd => rfl); (case hg => rfl); (case hr => first | (go_simp; done) | (go_simp; rfl))
          intro gb270 hg w72 hbox hb
          have n0_ := aM (Kd.R_below (by (with_reducible repeat (first | apply rA | apply rN | apply rW)); exact HO250.out) hb)
          have n1_ := aM (Kd.R_below (by (with_reducible repeat (first | apply rA | apply rN | apply rW)); exact HO258.out) hb)
          have n2_ := aM (Kd.R_below (by (with_reducible repeat (first | apply rA | apply rN | apply rW)); exact HO265.out) hb)
          have n3_ := aM (blk_below (g := gb241) (o := .cells #[.int .i64 a0_0, .int .i64 a0_1, .int .i64 a0_2, .int .i64 a0_3] 23 (0, 0)) (by (with_reducible repeat (first | refine bN ?_ _ | refine bW ?_ | refine bA ?_ _)); exact BK241.out) hb)
          have n4_ := aM (blk_below (g := gb255) (o := .cells #[.int .i64 t251, .int .i64 t252, .int .i64 t253, .int .i64 t254] 23 (0, 0)) (by (with_reducible repeat (first | refine bN ?_ _ | refine bW ?_ | refine bA ?_ _)); exact BK255.out) hb)
          have n5_ := aM (below_step (by repeat (first | (with_reducible first | exact HB.out | apply lA | apply lN | apply lW | refine lS ?_ GE241.out | refine lS ?_ GE255.out) | exact HB.out)) hb)
          have n6_ := aM (hbox)
          have n7_ := aM ((by rw [hg]; exact (below_size (by repeat (first | (with_reducible first | exact HB.out | apply lA | apply lN | apply lW | refine lS ?_ GE241.out | refine lS ?_ GE255.out) | exact HB.out))) : w.heap.size ≤ gb270))
          have n8_ := aM ((by rw [hg]; exact (below_size (by repeat (first | (with_reducible first | exact HB.out | apply lA | apply lN | apply lW | refine lS ?_ GE241.out | refine lS ?_ GE255.out) | exact HB.out))) : w.heap.size ≤ gb270))
          have n9_ := aM ((by rw [hg]; exact Nat.ne_of_lt (blk_lt (g := gb241) (o := .cells #[.int .i64 a0_0, .int .i64 a0_1, .int .i64 a0_2, .int .i64 a0_3] 23 (0, 0)) (by (with_reducible repeat (first | refine bN ?_ _ | refine bW ?_ | refine bA ?_ _)); exact BK241.out)) : gb241 ≠ gb270))
          have n10_ := aM ((by rw [hg]; exact Nat.ne_of_gt (blk_lt (g := gb241) (o := .cells #[.int .i64 a0_0, .int .i64 a0_1, .int .i64 a0_2, .int .i64 a0_3] 23 (0, 0)) (by (with_reducible repeat (first | refine bN ?_ _ | refine bW ?_ | refine bA ?_ _)); exact BK241.out)) : gb270 ≠ gb241))
          have n11_ := aM ((by rw [hg]; exact Nat.ne_of_lt (blk_lt (g := gb255) (o := .cells #[.int .i64 t251, .int .i64 t252, .int .i64 t253, .int .i64 t254] 23 (0, 0)) (by (with_reducible repeat (first | refine bN ?_ _ | refine bW ?_ | refine bA ?_ _)); exact BK255.out)) : gb255 ≠ gb270))
          have n12_ := aM ((by rw [hg]; exact Nat.ne_of_gt (blk_lt (g := gb255) (o := .cells #[.int .i64 t251, .int .i64 t252, .int .i64 t253, .int .i64 t254] 23 (0, 0)) (by (with_reducible repeat (first | refine bN ?_ _ | refine bW ?_ | refine bA ?_ _)); exact BK255.out)) : gb270 ≠ gb255))
          clear HO250
          clear HO258
          clear HO265
          clear BK241
          clear BK255
          clear HB
          have HO250 := n0_
          have HO258 := n1_
          have HO265 := n2_
          have BK241 := n3_
          have BK255 := n4_
          have HB := n5_
          have BK270 := n6_
          have GW270 := n7_
          have GE270 := n8_
          have NB241_270 := n9_
          have NB270_241 := n10_
          have NB255_270 := n11_
          have NB270_255 := n12_
          clear n0_ n1_ n2_ n3_ n4_ n5_ n6_ n7_ n8_ n9_ n10_ n11_ n12_
          clear hb hbox hg
          refine hK.out _ _ ⟨(blk_cell BK241.out 0).trans rfl, (blk_cell BK241.out 1).trans rfl, (blk_cell BK241.out 2).trans rfl, (blk_cell BK241.out 3).trans rfl⟩ (fun hHeld => ?_)
          clear hK K
          refine norm_ (a' := ?_) ?_ ?_
          rotate_left
          ·show Act.put _ (some 6) _ = _
           simp only [Act.put, sT, sZ, sS, i64_w, i32_w]
           rfl
          exact norm_ (by first | (simp only [putAll, Act.put, sT, sZ, sS]; done) | (simp only [putAll, Act.put, sT, sZ, sS]; rfl)) (hJ1_2_3_4_5 (v257, v264, gb270) _ ⟨hHeld, (by (with_reducible repeat (first | apply rA | apply rN | apply rW)); exact HO250.out), (by (with_reducible repeat (first | apply rA | apply rN | apply rW)); exact HO258.out), (by (with_reducible repeat (first | apply rA | apply rN | apply rW)); exact HO265.out), (by (with_reducible repeat (first | refine bN ?_ _ | refine bW ?_ | refine bA ?_ _)); exact BK241.out), (by (with_reducible repeat (first | refine bN ?_ _ | refine bW ?_ | refine bA ?_ _)); exact BK255.out), (by (with_reducible repeat (first | refine bN ?_ _ | refine bW ?_ | refine bA ?_ _)); exact BK270.out), GW270.out, GE270.out, NB241_270.out, NB270_241.out, NB255_270.out, NB270_255.out, (by repeat (first | (with_reducible first | exact HB.out | apply lA | apply lN | apply lW | refine lS ?_ GE241.out | refine lS ?_ GE255.out | refine lS ?_ GE270.out) | exact HB.out))⟩)
        rintro ⟨v257, v264, gb270⟩ w72 ⟨hS_, h0_, h1_, h2_, h3_, h4_, h5_, h6_, h7_, h8_, h9_, h10_, h11_, h12_⟩
        have n0_ : Aside0 (Kd.R (Kd.int .i64) 3 w72 w.heap.size (fun k_ => some k_ ≠ (v257 : Value).ownBlock ∧ some k_ ≠ (v264 : Value).ownBlock) (.slice Ao58 t248.length co58) t248) := ⟨h0_⟩
        have n1_ : Aside0 (Kd.R (Kd.int .i64) 3 w72 w.heap.size (fun k_ => some k_ ≠ (.slice Ao58 t248.length co58 : Value).ownBlock ∧ some k_ ≠ (v264 : Value).ownBlock) v257 t256) := ⟨h1_⟩
        have n2_ : Aside0 (Kd.R (Kd.int .i64) 3 w72 w.heap.size (fun k_ => some k_ ≠ (.slice Ao58 t248.length co58 : Value).ownBlock ∧ some k_ ≠ (v257 : Value).ownBlock) v264 t263) := ⟨h2_⟩
        have n3_ : Aside0 (w72.heap[gb241]? = some (.cells #[.int .i64 a0_0, .int .i64 a0_1, .int .i64 a0_2, .int .i64 a0_3] 23 (0, 0))) := ⟨h3_⟩
        have n4_ : Aside0 (w72.heap[gb255]? = some (.cells #[.int .i64 t251, .int .i64 t252, .int .i64 t253, .int .i64 t254] 23 (0, 0))) := ⟨h4_⟩
        have n5_ : Aside0 (w72.heap[gb270]? = some (.cells #[.int .i64 0, .int .i64 0, .int .i64 0, .int .i64 0] 23 (0, 0))) := ⟨h5_⟩
        have n6_ : Aside0 (w.heap.size ≤ gb270) := ⟨h6_⟩
        have n7_ : Aside0 (w.heap.size ≤ gb270) := ⟨h7_⟩
        have n8_ : Aside0 (gb241 ≠ gb270) := ⟨h8_⟩
        have n9_ : Aside0 (gb270 ≠ gb241) := ⟨h9_⟩
        have n10_ : Aside0 (gb255 ≠ gb270) := ⟨h10_⟩
        have n11_ : Aside0 (gb270 ≠ gb255) := ⟨h11_⟩
        have n12_ : Aside0 (Below w.heap.size w w72) := ⟨h12_⟩
        clear HO250
        clear BK241
        clear BK255
        clear HB
        clear h0_ h1_ h2_ h3_ h4_ h5_ h6_ h7_ h8_ h9_ h10_ h11_ h12_
        have HO250 := n0_
        have HO258 := n1_
        have HO265 := n2_
        have BK241 := n3_
        have BK255 := n4_
        have BK270 := n5_
        have GW270 := n6_
        have GE270 := n7_
        have NB241_270 := n8_
        have NB270_241 := n9_
        have NB255_270 := n10_
        have NB270_255 := n11_
        have HB := n12_
        clear n0_ n1_ n2_ n3_ n4_ n5_ n6_ n7_ n8_ n9_ n10_ n11_ n12_
        have hHeld : w72.cell? ⟨gb241, 0, none⟩ = some (.int .i64 a0_0) ∧ w72.cell? ⟨gb241, 1, none⟩ = some (.int .i64 a0_1) ∧ w72.cell? ⟨gb241, 2, none⟩ = some (.int .i64 a0_2) ∧ w72.cell? ⟨gb241, 3, none⟩ = some (.int .i64 a0_3) := hS_
        refine norm_ (a' := ?_) ?_ ?_
        rotate_left
        ·simp only [putAll, Act.put, sT, sZ, sS]
         rfl
        refine one_ (i := 6) (N := none) #[true, true, true, true, true, true, true] rfl rfl (by kernel_rfl) (by decide) (fun K hK => ?_)
        have hs73 : w72.cell? ⟨gb270, 0, none⟩ = some (.int .i64 0) := (blk_cell BK270.out 0).trans rfl
        have hfs73 := blk_frozen BK270.out 0
        have hns73_0 := NB241_270.out
        have hns73_1 := NB255_270.out
        have hms73_0 := NB270_241.out
        have hms73_1 := NB270_255.out
        have hs74 : w72.cell? ⟨gb270, 1, none⟩ = some (.int .i64 0) := (blk_cell BK270.out 1).trans rfl
        have hfs74 := blk_frozen BK270.out 1
        have hns74_0 := NB241_270.out
        have hns74_1 := NB255_270.out
        have hms74_0 := NB270_241.out
        have hms74_1 := NB270_255.out
        have hs75 : w72.cell? ⟨gb270, 2, none⟩ = some (.int .i64 0) := (blk_cell BK270.out 2).trans rfl
        have hfs75 := blk_frozen BK270.out 2
        have hns75_0 := NB241_270.out
        have hns75_1 := NB255_270.out
        have hms75_0 := NB270_241.out
        have hms75_1 := NB270_255.out
        have hs76 : w72.cell? ⟨gb270, 3, none⟩ = some (.int .i64 0) := (blk_cell BK270.out 3).trans rfl
        have hfs76 := blk_frozen BK270.out 3
        have hns76_0 := NB241_270.out
        have hns76_1 := NB255_270.out
        have hms76_0 := NB270_241.out
        have hms76_1 := NB270_255.out
        refine skip_ (w1 := ?_) (by rfl) rfl ?_ ?_
        rotate_left
        ·go_simp
         rfl
        refine hK.out _ _ ⟨((cell_far (p := ⟨gb270, _, none⟩) NB241_270.out _).trans (((cell_far (p := ⟨gb270, _, none⟩) NB241_270.out _).trans (((cell_far (p := ⟨gb270, _, none⟩) NB241_270.out _).trans (((cell_far (p := ⟨gb270, _, none⟩) NB241_270.out _).trans (hHeld.1)))))))), ((cell_far (p := ⟨gb270, _, none⟩) NB241_270.out _).trans (((cell_far (p := ⟨gb270, _, none⟩) NB241_270.out _).trans (((cell_far (p := ⟨gb270, _, none⟩) NB241_270.out _).trans (((cell_far (p := ⟨gb270, _, none⟩) NB241_270.out _).trans (hHeld.2.1)))))))), ((cell_far (p := ⟨gb270, _, none⟩) NB241_270.out _).trans (((cell_far (p := ⟨gb270, _, none⟩) NB241_270.out _).trans (((cell_far (p := ⟨gb270, _, none⟩) NB241_270.out _).trans (((cell_far (p := ⟨gb270, _, none⟩) NB241_270.out _).trans (hHeld.2.2.1)))))))), ((cell_far (p := ⟨gb270, _, none⟩) NB241_270.out _).trans (((cell_far (p := ⟨gb270, _, none⟩) NB241_270.out _).trans (((cell_far (p := ⟨gb270, _, none⟩) NB241_270.out _).trans (((cell_far (p := ⟨gb270, _, none⟩) NB241_270.out _).trans (hHeld.2.2.2))))))))⟩ (fun hHeld => ?_)
        clear hK K
        refine done_ (by kernel_rfl) ?_
        try go_wp2
        have n0_ : Aside0 (Kd.R (Kd.int .i64) 3 ((((w72.setCell ⟨gb270, 0, none⟩ (.int .i64 t266)).setCell ⟨gb270, 1, none⟩ (.int .i64 t267)).setCell ⟨gb270, 2, none⟩ (.int .i64 t268)).setCell ⟨gb270, 3, none⟩ (.int .i64 t269)) w.heap.size (fun k_ => some k_ ≠ (v257 : Value).ownBlock ∧ some k_ ≠ (v264 : Value).ownBlock) (.slice Ao58 t248.length co58) t248) := ⟨by (with_reducible repeat (first | apply rA | apply rN | apply rW)); exact Kd.R_mono (Kd.R_far (p := ⟨gb270, 3, none⟩) (Kd.R_far (p := ⟨gb270, 2, none⟩) (Kd.R_far (p := ⟨gb270, 1, none⟩) (Kd.R_far (p := ⟨gb270, 0, none⟩) (Kd.R_types HO250.out BK270.out (by decide)) (fun _ hk => hk.2) (.int .i64 t266)) (fun _ hk => hk.2) (.int .i64 t267)) (fun _ hk => hk.2) (.int .i64 t268)) (fun _ hk => hk.2) (.int .i64 t269)) (fun _ hk => ⟨hk.1.1, hk.1.2⟩)⟩
        have n1_ : Aside0 (Kd.R (Kd.int .i64) 3 ((((w72.setCell ⟨gb270, 0, none⟩ (.int .i64 t266)).setCell ⟨gb270, 1, none⟩ (.int .i64 t267)).setCell ⟨gb270, 2, none⟩ (.int .i64 t268)).setCell ⟨gb270, 3, none⟩ (.int .i64 t269)) w.heap.size (fun k_ => some k_ ≠ (.slice Ao58 t248.length co58 : Value).ownBlock ∧ some k_ ≠ (v264 : Value).ownBlock) v257 t256) := ⟨by (with_reducible repeat (first | apply rA | apply rN | apply rW)); exact Kd.R_mono (Kd.R_far (p := ⟨gb270, 3, none⟩) (Kd.R_far (p := ⟨gb270, 2, none⟩) (Kd.R_far (p := ⟨gb270, 1, none⟩) (Kd.R_far (p := ⟨gb270, 0, none⟩) (Kd.R_types HO258.out BK270.out (by decide)) (fun _ hk => hk.2) (.int .i64 t266)) (fun _ hk => hk.2) (.int .i64 t267)) (fun _ hk => hk.2) (.int .i64 t268)) (fun _ hk => hk.2) (.int .i64 t269)) (fun _ hk => ⟨hk.1.1, hk.1.2⟩)⟩
        have n2_ : Aside0 (Kd.R (Kd.int .i64) 3 ((((w72.setCell ⟨gb270, 0, none⟩ (.int .i64 t266)).setCell ⟨gb270, 1, none⟩ (.int .i64 t267)).setCell ⟨gb270, 2, none⟩ (.int .i64 t268)).setCell ⟨gb270, 3, none⟩ (.int .i64 t269)) w.heap.size (fun k_ => some k_ ≠ (.slice Ao58 t248.length co58 : Value).ownBlock ∧ some k_ ≠ (v257 : Value).ownBlock) v264 t263) := ⟨by (with_reducible repeat (first | apply rA | apply rN | apply rW)); exact Kd.R_mono (Kd.R_far (p := ⟨gb270, 3, none⟩) (Kd.R_far (p := ⟨gb270, 2, none⟩) (Kd.R_far (p := ⟨gb270, 1, none⟩) (Kd.R_far (p := ⟨gb270, 0, none⟩) (Kd.R_types HO265.out BK270.out (by decide)) (fun _ hk => hk.2) (.int .i64 t266)) (fun _ hk => hk.2) (.int .i64 t267)) (fun _ hk => hk.2) (.int .i64 t268)) (fun _ hk => hk.2) (.int .i64 t269)) (fun _ hk => ⟨hk.1.1, hk.1.2⟩)⟩
        have n3_ : Aside0 (((((w72.setCell ⟨gb270, 0, none⟩ (.int .i64 t266)).setCell ⟨gb270, 1, none⟩ (.int .i64 t267)).setCell ⟨gb270, 2, none⟩ (.int .i64 t268)).setCell ⟨gb270, 3, none⟩ (.int .i64 t269)).heap[gb241]? = some (.cells #[.int .i64 a0_0, .int .i64 a0_1, .int .i64 a0_2, .int .i64 a0_3] 23 (0, 0))) := ⟨by (with_reducible repeat (first | refine bN ?_ _ | refine bW ?_ | refine bA ?_ _)); refine blk_far ?_ NB241_270.out _; (with_reducible repeat (first | refine bN ?_ _ | refine bW ?_ | refine bA ?_ _)); refine blk_far ?_ NB241_270.out _; (with_reducible repeat (first | refine bN ?_ _ | refine bW ?_ | refine bA ?_ _)); refine blk_far ?_ NB241_270.out _; (with_reducible repeat (first | refine bN ?_ _ | refine bW ?_ | refine bA ?_ _)); refine blk_far ?_ NB241_270.out _; (with_reducible repeat (first | refine bN ?_ _ | refine bW ?_ | refine bA ?_ _)); exact BK241.out⟩
        have n4_ : Aside0 (((((w72.setCell ⟨gb270, 0, none⟩ (.int .i64 t266)).setCell ⟨gb270, 1, none⟩ (.int .i64 t267)).setCell ⟨gb270, 2, none⟩ (.int .i64 t268)).setCell ⟨gb270, 3, none⟩ (.int .i64 t269)).heap[gb255]? = some (.cells #[.int .i64 t251, .int .i64 t252, .int .i64 t253, .int .i64 t254] 23 (0, 0))) := ⟨by (with_reducible repeat (first | refine bN ?_ _ | refine bW ?_ | refine bA ?_ _)); refine blk_far ?_ NB255_270.out _; (with_reducible repeat (first | refine bN ?_ _ | refine bW ?_ | refine bA ?_ _)); refine blk_far ?_ NB255_270.out _; (with_reducible repeat (first | refine bN ?_ _ | refine bW ?_ | refine bA ?_ _)); refine blk_far ?_ NB255_270.out _; (with_reducible repeat (first | refine bN ?_ _ | refine bW ?_ | refine bA ?_ _)); refine blk_far ?_ NB255_270.out _; (with_reducible repeat (first | refine bN ?_ _ | refine bW ?_ | refine bA ?_ _)); exact BK255.out⟩
        have n5_ : Aside0 (((((w72.setCell ⟨gb270, 0, none⟩ (.int .i64 t266)).setCell ⟨gb270, 1, none⟩ (.int .i64 t267)).setCell ⟨gb270, 2, none⟩ (.int .i64 t268)).setCell ⟨gb270, 3, none⟩ (.int .i64 t269)).heap[gb270]? = some (.cells #[.int .i64 t266, .int .i64 t267, .int .i64 t268, .int .i64 t269] 23 (0, 0))) := ⟨by (with_reducible repeat (first | refine bN ?_ _ | refine bW ?_ | refine bA ?_ _)); refine blk_put (cs := #[.int .i64 t266, .int .i64 t267, .int .i64 t268, .int .i64 0]) ?_ 3 _ rfl; (with_reducible repeat (first | refine bN ?_ _ | refine bW ?_ | refine bA ?_ _)); refine blk_put (cs := #[.int .i64 t266, .int .i64 t267, .int .i64 0, .int .i64 0]) ?_ 2 _ rfl; (with_reducible repeat (first | refine bN ?_ _ | refine bW ?_ | refine bA ?_ _)); refine blk_put (cs := #[.int .i64 t266, .int .i64 0, .int .i64 0, .int .i64 0]) ?_ 1 _ rfl; (with_reducible repeat (first | refine bN ?_ _ | refine bW ?_ | refine bA ?_ _)); refine blk_put (cs := #[.int .i64 0, .int .i64 0, .int .i64 0, .int .i64 0]) ?_ 0 _ rfl; (with_reducible repeat (first | refine bN ?_ _ | refine bW ?_ | refine bA ?_ _)); exact BK270.out⟩
        have n6_ : Aside0 (Below w.heap.size w ((((w72.setCell ⟨gb270, 0, none⟩ (.int .i64 t266)).setCell ⟨gb270, 1, none⟩ (.int .i64 t267)).setCell ⟨gb270, 2, none⟩ (.int .i64 t268)).setCell ⟨gb270, 3, none⟩ (.int .i64 t269))) := ⟨by repeat (first | (with_reducible first | exact HB.out | apply lA | apply lN | apply lW | refine lS ?_ GE241.out | refine lS ?_ GE255.out | refine lS ?_ GE270.out) | exact HB.out)⟩
        (try clear HO250)
        (try clear HO258)
        (try clear HO265)
        (try clear BK241)
        (try clear BK255)
        (try clear BK270)
        (try clear HB)
        generalize ((((w72.setCell ⟨gb270, 0, none⟩ (.int .i64 t266)).setCell ⟨gb270, 1, none⟩ (.int .i64 t267)).setCell ⟨gb270, 2, none⟩ (.int .i64 t268)).setCell ⟨gb270, 3, none⟩ (.int .i64 t269)) = w77 at n0_ n1_ n2_ n3_ n4_ n5_ n6_ ⊢
        have HO250 := n0_
        have HO258 := n1_
        have HO265 := n2_
        have BK241 := n3_
        have BK255 := n4_
        have BK270 := n5_
        have HB := n6_
        clear n0_ n1_ n2_ n3_ n4_ n5_ n6_
        have n0_ := aM (rW HO250.out)
        have n1_ := aM (rW HO258.out)
        have n2_ := aM (rW HO265.out)
        have n3_ := aM (bW BK241.out)
        have n4_ := aM (bW BK255.out)
        have n5_ := aM (bW BK270.out)
        have n6_ := aM (lW HB.out)
        clear HO250
        clear HO258
        clear HO265
        clear BK241
        clear BK255
        clear BK270
        clear HB
        have HO250 := n0_
        have HO258 := n1_
        have HO265 := n2_
        have BK241 := n3_
        have BK255 := n4_
        have BK270 := n5_
        have HB := n6_
        clear n0_ n1_ n2_ n3_ n4_ n5_ n6_
        refine start_ (n := 26) (S := fun w' => w'.cell? ⟨gb255, 0, none⟩ = some (.int .i64 t251) ∧ w'.cell? ⟨gb255, 1, none⟩ = some (.int .i64 t252) ∧ w'.cell? ⟨gb255, 2, none⟩ = some (.int .i64 t253) ∧ w'.cell? ⟨gb255, 3, none⟩ = some (.int .i64 t254) ∧ w'.cell? ⟨gb270, 0, none⟩ = some (.int .i64 t266) ∧ w'.cell? ⟨gb270, 1, none⟩ = some (.int .i64 t267) ∧ w'.cell? ⟨gb270, 2, none⟩ = some (.int .i64 t268) ∧ w'.cell? ⟨gb270, 3, none⟩ = some (.int .i64 t269) ∧ w'.cell? ⟨gb241, 0, none⟩ = some (.int .i64 a0_0) ∧ w'.cell? ⟨gb241, 1, none⟩ = some (.int .i64 a0_1) ∧ w'.cell? ⟨gb241, 2, none⟩ = some (.int .i64 a0_2) ∧ w'.cell? ⟨gb241, 3, none⟩ = some (.int .i64 a0_3)) (ds := []) #[false, false, false, false, false, false, false, false, false, false, false, false, false, false, false, false, false, false, false, false, false, false, false, false, false, false] (by kernel_rfl) rfl rfl ⟨(blk_cell BK255.out 0).trans rfl, (blk_cell BK255.out 1).trans rfl, (blk_cell BK255.out 2).trans rfl, (blk_cell BK255.out 3).trans rfl, (blk_cell BK270.out 0).trans rfl, (blk_cell BK270.out 1).trans rfl, (blk_cell BK270.out 2).trans rfl, (blk_cell BK270.out 3).trans rfl, (blk_cell BK241.out 0).trans rfl, (blk_cell BK241.out 1).trans rfl, (blk_cell BK241.out 2).trans rfl, (blk_cell BK241.out 3).trans rfl⟩ (fun hHeld => ?_); refine with_tabW phaetonlaw08_CountBack.tab7 phaetonlaw08_CountBack.bits7 (fun HT_ HW_ => ?_)
        generalize w77.drew = w78 at HO250 HO258 HO265 BK241 BK255 BK270 HB hHeld ⊢
        refine pure_ (i := 0) (N := some 31) (v := ?_) (a' := ?_) #[true, false, false, false, false, false, false, false, false, false, false, false, false, false, false, false, false, false, false, false, false, false, false, false, false, false] rfl rfl (any_of HT_.out (by kernel_rfl)) (fun _ _ _ h => h) (Or.inl ⟨by rfl, ?_⟩) ?_ ?_
        rotate_left
        ·intro w'
         go_simp
         first | with_reducible rfl | (simp [Instr.field, asAgg, part]; done) | (simp [Instr.field, asAgg, part]; rfl)
        rotate_left
        ·simp only [Act.put, sT, sZ, sS, i64_w, i32_w]
         rfl
        refine pure_ (i := 1) (N := some 32) (v := ?_) (a' := ?_) #[true, true, false, false, false, false, false, false, false, false, false, false, false, false, false, false, false, false, false, false, false, false, false, false, false, false] rfl rfl (any_of HT_.out (by kernel_rfl)) (fun _ _ _ h => h) (Or.inl ⟨by rfl, ?_⟩) ?_ ?_
        rotate_left
        ·intro w'
         go_simp
         first | with_reducible rfl | (simp [Instr.field, asAgg, part]; done) | (simp [Instr.field, asAgg, part]; rfl)
        rotate_left
        ·simp only [Act.put, sT, sZ, sS, i64_w, i32_w]
         rfl
        refine pure_ (i := 2) (N := some 33) (v := ?_) (a' := ?_) #[true, true, true, false, false, false, false, false, false, false, false, false, false, false, false, false, false, false, false, false, false, false, false, false, false, false] rfl rfl (any_of HT_.out (by kernel_rfl)) (fun _ _ _ h => h) (Or.inl ⟨by rfl, ?_⟩) ?_ ?_
        rotate_left
        ·intro w'
         go_simp
         first | with_reducible rfl | (simp [Instr.field, asAgg, part]; done) | (simp [Instr.field, asAgg, part]; rfl)
        rotate_left
        ·simp only [Act.put, sT, sZ, sS, i64_w, i32_w]
         rfl
        refine take_ (i := 3) (N := some 34) (v := ?_) (a' := ?_) #[true, true, true, true, false, false, false, false, false, false, false, false, false, false, false, false, false, false, false, false, false, false, false, false, false, false] rfl rfl (take_ofW HT_.out HW_.out (by kernel_rfl)) (fun _ _ _ h => h) (Or.inl ⟨by rfl, ?_⟩) hHeld ?_ ?_
        rotate_left
        ·rintro w' ⟨s0, s1, s2, s3, s4, s5, s6, s7, s8, s9, s10, s11⟩
         go_simp
         first | with_reducible rfl | (simp [Instr.field, asAgg, part]; done) | (simp [Instr.field, asAgg, part]; rfl)
        rotate_left
        ·simp only [Act.put, sT, sZ, sS, i64_w, i32_w]
         rfl
        refine pure_ (i := 4) (N := some 35) (v := ?_) (a' := ?_) #[true, true, true, true, true, false, false, false, false, false, false, false, false, false, false, false, false, false, false, false, false, false, false, false, false, false] rfl rfl (any_of HT_.out (by kernel_rfl)) (fun _ _ _ h => h) (Or.inl ⟨by rfl, ?_⟩) ?_ ?_
        rotate_left
        ·intro w'
         go_simp
         first | with_reducible rfl | (simp [Instr.field, asAgg, part]; done) | (simp [Instr.field, asAgg, part]; rfl)
        rotate_left
        ·simp only [Act.put, sT, sZ, sS, i64_w, i32_w]
         rfl
        refine pure_ (i := 5) (N := some 36) (v := ?_) (a' := ?_) #[true, true, true, true, true, true, false, false, false, false, false, false, false, false, false, false, false, false, false, false, false, false, false, false, false, false] rfl rfl (any_of HT_.out (by kernel_rfl)) (fun _ _ _ h => h) (Or.inl ⟨by rfl, ?_⟩) ?_ ?_
        rotate_left
        ·intro w'
         go_simp
         first | with_reducible rfl | (simp [Instr.field, asAgg, part]; done) | (simp [Instr.field, asAgg, part]; rfl)
        rotate_left
        ·simp only [Act.put, sT, sZ, sS, i64_w, i32_w]
         rfl
        refine pure_ (i := 6) (N := some 37) (v := ?_) (a' := ?_) #[true, true, true, true, true, true, true, false, false, false, false, false, false, false, false, false, false, false, false, false, false, false, false, false, false, false] rfl rfl (any_of HT_.out (by kernel_rfl)) (fun _ _ _ h => h) (Or.inl ⟨by rfl, ?_⟩) ?_ ?_
        rotate_left
        ·intro w'
         go_simp
         first | with_reducible rfl | (simp [Instr.field, asAgg, part]; done) | (simp [Instr.field, asAgg, part]; rfl)
        rotate_left
        ·simp only [Act.put, sT, sZ, sS, i64_w, i32_w]
         rfl
        refine take_ (i := 7) (N := some 38) (v := ?_) (a' := ?_) #[true, true, true, true, true, true, true, true, false, false, false, false, false, false, false, false, false, false, false, false, false, false, false, false, false, false] rfl rfl (take_ofW HT_.out HW_.out (by kernel_rfl)) (fun _ _ _ h => h) (Or.inl ⟨by rfl, ?_⟩) hHeld ?_ ?_
        rotate_left
        ·rintro w' ⟨s0, s1, s2, s3, s4, s5, s6, s7, s8, s9, s10, s11⟩
         go_simp
         first | with_reducible rfl | (simp [Instr.field, asAgg, part]; done) | (simp [Instr.field, asAgg, part]; rfl)
        rotate_left
        ·simp only [Act.put, sT, sZ, sS, i64_w, i32_w]
         rfl
        refine one_ (i := 8) (N := some 39) #[true, true, true, true, true, true, true, true, true, false, false, false, false, false, false, false, false, false, false, false, false, false, false, false, false, false] rfl rfl (one_of HT_.out (by kernel_rfl)) (by decide) (fun K hK => ?_)
        refine goes_ Try.func13 (by kernel_rfl) rfl #[] (by rfl) rfl rfl (by (try simp only [List.map_toArray, List.map_cons, List.map_nil]); first | done | rfl | (simp only [List.length_drop, List.length_take]; rfl)) ?_
        with_reducible refine (count_New.calls  t271 t272 t273 t274 _ A24.out).mono ?_
        rintro e w79 ⟨rfl, hb⟩
        refine ⟨_, rfl, ?_⟩
        have n0_ := aM (Kd.R_below (by (with_reducible repeat (first | apply rA | apply rN | apply rW)); exact HO250.out) hb)
        have n1_ := aM (Kd.R_below (by (with_reducible repeat (first | apply rA | apply rN | apply rW)); exact HO258.out) hb)
        have n2_ := aM (Kd.R_below (by (with_reducible repeat (first | apply rA | apply rN | apply rW)); exact HO265.out) hb)
        have n3_ := aM (blk_below (g := gb241) (o := .cells #[.int .i64 a0_0, .int .i64 a0_1, .int .i64 a0_2, .int .i64 a0_3] 23 (0, 0)) (by (with_reducible repeat (first | refine bN ?_ _ | refine bW ?_ | refine bA ?_ _)); exact BK241.out) hb)
        have n4_ := aM (blk_below (g := gb255) (o := .cells #[.int .i64 t251, .int .i64 t252, .int .i64 t253, .int .i64 t254] 23 (0, 0)) (by (with_reducible repeat (first | refine bN ?_ _ | refine bW ?_ | refine bA ?_ _)); exact BK255.out) hb)
        have n5_ := aM (blk_below (g := gb270) (o := .cells #[.int .i64 t266, .int .i64 t267, .int .i64 t268, .int .i64 t269] 23 (0, 0)) (by (with_reducible repeat (first | refine bN ?_ _ | refine bW ?_ | refine bA ?_ _)); exact BK270.out) hb)
        have n6_ := aM (below_step (by repeat (first | (with_reducible first | exact HB.out | apply lA | apply lN | apply lW | refine lS ?_ GE241.out | refine lS ?_ GE255.out | refine lS ?_ GE270.out) | exact HB.out)) hb)
        clear HO250
        clear HO258
        clear HO265
        clear BK241
        clear BK255
        clear BK270
        clear HB
        have HO250 := n0_
        have HO258 := n1_
        have HO265 := n2_
        have BK241 := n3_
        have BK255 := n4_
        have BK270 := n5_
        have HB := n6_
        clear n0_ n1_ n2_ n3_ n4_ n5_ n6_
        (try clear hb)
        (try clear hb2)
        (try clear hk)
        (try clear hi)
        refine hK.out _ _ ⟨(blk_cell BK255.out 0).trans rfl, (blk_cell BK255.out 1).trans rfl, (blk_cell BK255.out 2).trans rfl, (blk_cell BK255.out 3).trans rfl, (blk_cell BK270.out 0).trans rfl, (blk_cell BK270.out 1).trans rfl, (blk_cell BK270.out 2).trans rfl, (blk_cell BK270.out 3).trans rfl, (blk_cell BK241.out 0).trans rfl, (blk_cell BK241.out 1).trans rfl, (blk_cell BK241.out 2).trans rfl, (blk_cell BK241.out 3).trans rfl⟩ (fun hHeld => ?_)
        clear hK K
        refine norm_ (a' := ?_) ?_ ?_
        rotate_left
        ·show Act.put _ (some 39) _ = _
         simp only [Act.put, sT, sZ, sS, i64_w, i32_w]
         rfl
        refine pure_ (i := 9) (N := some 40) (v := ?_) (a' := ?_) #[true, true, true, true, true, true, true, true, true, true, false, false, false, false, false, false, false, false, false, false, false, false, false, false, false, false] rfl rfl (any_of HT_.out (by kernel_rfl)) (fun _ _ _ h => h) (Or.inl ⟨by rfl, ?_⟩) ?_ ?_
        rotate_left
        ·intro w'
         go_simp
         first | with_reducible rfl | (simp [Instr.field, asAgg, part]; done) | (simp [Instr.field, asAgg, part]; rfl)
        rotate_left
        ·simp only [Act.put, sT, sZ, sS, i64_w, i32_w]
         rfl
        refine pure_ (i := 10) (N := some 41) (v := ?_) (a' := ?_) #[true, true, true, true, true, true, true, true, true, true, true, false, false, false, false, false, false, false, false, false, false, false, false, false, false, false] rfl rfl (any_of HT_.out (by kernel_rfl)) (fun _ _ _ h => h) (Or.inl ⟨by rfl, ?_⟩) ?_ ?_
        rotate_left
        ·intro w'
         go_simp
         first | with_reducible rfl | (simp [Instr.field, asAgg, part]; done) | (simp [Instr.field, asAgg, part]; rfl)
        rotate_left
        ·simp only [Act.put, sT, sZ, sS, i64_w, i32_w]
         rfl
        refine pure_ (i := 11) (N := some 42) (v := ?_) (a' := ?_) #[true, true, true, true, true, true, true, true, true, true, true, true, false, false, false, false, false, false, false, false, false, false, false, false, false, false] rfl rfl (any_of HT_.out (by kernel_rfl)) (fun _ _ _ h => h) (Or.inl ⟨by rfl, ?_⟩) ?_ ?_
        rotate_left
        ·intro w'
         go_simp
         first | with_reducible rfl | (simp [Instr.field, asAgg, part]; done) | (simp [Instr.field, asAgg, part]; rfl)
        rotate_left
        ·simp only [Act.put, sT, sZ, sS, i64_w, i32_w]
         rfl
        refine pure_ (i := 12) (N := some 43) (v := ?_) (a' := ?_) #[true, true, true, true, true, true, true, true, true, true, true, true, true, false, false, false, false, false, false, false, false, false, false, false, false, false] rfl rfl (any_of HT_.out (by kernel_rfl)) (fun _ _ _ h => h) (Or.inl ⟨by rfl, ?_⟩) ?_ ?_
        rotate_left
        ·intro w'
         go_simp
         first | with_reducible rfl | (simp [Instr.field, asAgg, part]; done) | (simp [Instr.field, asAgg, part]; rfl)
        rotate_left
        ·simp only [Act.put, sT, sZ, sS, i64_w, i32_w]
         rfl
        refine pure_ (i := 13) (N := some 44) (v := ?_) (a' := ?_) #[true, true, true, true, true, true, true, true, true, true, true, true, true, true, false, false, false, false, false, false, false, false, false, false, false, false] rfl rfl (any_of HT_.out (by kernel_rfl)) (fun _ _ _ h => h) (Or.inl ⟨by rfl, ?_⟩) ?_ ?_
        rotate_left
        ·intro w'
         go_simp
         first | with_reducible rfl | (simp [Instr.field, asAgg, part]; done) | (simp [Instr.field, asAgg, part]; rfl)
        rotate_left
        ·simp only [Act.put, sT, sZ, sS, i64_w, i32_w]
         rfl
        refine pure_ (i := 14) (N := some 45) (v := ?_) (a' := ?_) #[true, true, true, true, true, true, true, true, true, true, true, true, true, true, true, false, false, false, false, false, false, false, false, false, false, false] rfl rfl (any_of HT_.out (by kernel_rfl)) (fun _ _ _ h => h) (Or.inl ⟨by rfl, ?_⟩) ?_ ?_
        rotate_left
        ·intro w'
         go_simp
         first | with_reducible rfl | (simp [Instr.field, asAgg, part]; done) | (simp [Instr.field, asAgg, part]; rfl)
        rotate_left
        ·simp only [Act.put, sT, sZ, sS, i64_w, i32_w]
         rfl
        refine pure_ (i := 17) (N := some 48) (v := ?_) (a' := ?_) #[true, true, true, true, true, true, true, true, true, true, true, true, true, true, true, false, false, true, false, false, false, false, false, false, false, false] rfl rfl (any_of HT_.out (by kernel_rfl)) (fun _ _ _ h => h) (Or.inl ⟨by rfl, ?_⟩) ?_ ?_
        rotate_left
        ·intro w'
         go_simp
         first | with_reducible rfl | (simp [Instr.field, asAgg, part]; done) | (simp [Instr.field, asAgg, part]; rfl)
        rotate_left
        ·simp only [Act.put, sT, sZ, sS, i64_w, i32_w]
         rfl
        refine pure_ (i := 18) (N := some 49) (v := ?_) (a' := ?_) #[true, true, true, true, true, true, true, true, true, true, true, true, true, true, true, false, false, true, true, false, false, false, false, false, false, false] rfl rfl (any_of HT_.out (by kernel_rfl)) (fun _ _ _ h => h) (Or.inl ⟨by rfl, ?_⟩) ?_ ?_
        rotate_left
        ·intro w'
         go_simp
         first | with_reducible rfl | (simp [Instr.field, asAgg, part]; done) | (simp [Instr.field, asAgg, part]; rfl)
        rotate_left
        ·simp only [Act.put, sT, sZ, sS, i64_w, i32_w]
         rfl
        refine take_ (i := 15) (N := some 46) (v := ?_) (a' := ?_) #[true, true, true, true, true, true, true, true, true, true, true, true, true, true, true, true, false, true, true, false, false, false, false, false, false, false] rfl rfl (take_ofW HT_.out HW_.out (by kernel_rfl)) (fun _ _ _ h => h) (Or.inl ⟨by rfl, ?_⟩) hHeld ?_ ?_
        rotate_left
        ·rintro w' ⟨s0, s1, s2, s3, s4, s5, s6, s7, s8, s9, s10, s11⟩
         go_simp
         first | with_reducible rfl | (simp [Instr.field, asAgg, part]; done) | (simp [Instr.field, asAgg, part]; rfl)
        rotate_left
        ·simp only [Act.put, sT, sZ, sS, i64_w, i32_w]
         rfl
        refine one_ (i := 16) (N := some 47) #[true, true, true, true, true, true, true, true, true, true, true, true, true, true, true, true, true, true, true, false, false, false, false, false, false, false] rfl rfl (one_of HT_.out (by kernel_rfl)) (by decide) (fun K hK => ?_)
        refine goes_ Try.func15 (by kernel_rfl) rfl #[.agg #[.int .i64 a0_0, .int .i64 a0_1, .int .i64 a0_2, .int .i64 a0_3], .int .i64 2] (by rfl) rfl rfl (by (try simp only [List.map_toArray, List.map_cons, List.map_nil]); first | done | rfl | (simp only [List.length_drop, List.length_take]; rfl)) ?_
        with_reducible refine (count_Step.calls a0_0 a0_1 a0_2 a0_3 2 t275 t276 t277 t278 _ A52.out).mono ?_
        rintro e w80 ⟨rfl, hb⟩
        refine ⟨_, rfl, ?_⟩
        have n0_ := aM (Kd.R_below (by (with_reducible repeat (first | apply rA | apply rN | apply rW)); exact HO250.out) hb)
        have n1_ := aM (Kd.R_below (by (with_reducible repeat (first | apply rA | apply rN | apply rW)); exact HO258.out) hb)
        have n2_ := aM (Kd.R_below (by (with_reducible repeat (first | apply rA | apply rN | apply rW)); exact HO265.out) hb)
        have n3_ := aM (blk_below (g := gb241) (o := .cells #[.int .i64 a0_0, .int .i64 a0_1, .int .i64 a0_2, .int .i64 a0_3] 23 (0, 0)) (by (with_reducible repeat (first | refine bN ?_ _ | refine bW ?_ | refine bA ?_ _)); exact BK241.out) hb)
        have n4_ := aM (blk_below (g := gb255) (o := .cells #[.int .i64 t251, .int .i64 t252, .int .i64 t253, .int .i64 t254] 23 (0, 0)) (by (with_reducible repeat (first | refine bN ?_ _ | refine bW ?_ | refine bA ?_ _)); exact BK255.out) hb)
        have n5_ := aM (blk_below (g := gb270) (o := .cells #[.int .i64 t266, .int .i64 t267, .int .i64 t268, .int .i64 t269] 23 (0, 0)) (by (with_reducible repeat (first | refine bN ?_ _ | refine bW ?_ | refine bA ?_ _)); exact BK270.out) hb)
        have n6_ := aM (below_step (by repeat (first | (with_reducible first | exact HB.out | apply lA | apply lN | apply lW | refine lS ?_ GE241.out | refine lS ?_ GE255.out | refine lS ?_ GE270.out) | exact HB.out)) hb)
        clear HO250
        clear HO258
        clear HO265
        clear BK241
        clear BK255
        clear BK270
        clear HB
        have HO250 := n0_
        have HO258 := n1_
        have HO265 := n2_
        have BK241 := n3_
        have BK255 := n4_
        have BK270 := n5_
        have HB := n6_
        clear n0_ n1_ n2_ n3_ n4_ n5_ n6_
        (try clear hb)
        (try clear hb2)
        (try clear hk)
        (try clear hi)
        refine hK.out _ _ ⟨(blk_cell BK255.out 0).trans rfl, (blk_cell BK255.out 1).trans rfl, (blk_cell BK255.out 2).trans rfl, (blk_cell BK255.out 3).trans rfl, (blk_cell BK270.out 0).trans rfl, (blk_cell BK270.out 1).trans rfl, (blk_cell BK270.out 2).trans rfl, (blk_cell BK270.out 3).trans rfl, (blk_cell BK241.out 0).trans rfl, (blk_cell BK241.out 1).trans rfl, (blk_cell BK241.out 2).trans rfl, (blk_cell BK241.out 3).trans rfl⟩ (fun hHeld => ?_)
        clear hK K
        refine norm_ (a' := ?_) ?_ ?_
        rotate_left
        ·show Act.put _ (some 47) _ = _
         simp only [Act.put, sT, sZ, sS, i64_w, i32_w]
         rfl
        refine one_ (i := 19) (N := some 50) #[true, true, true, true, true, true, true, true, true, true, true, true, true, true, true, true, true, true, true, true, false, false, false, false, false, false] rfl rfl (one_of HT_.out (by kernel_rfl)) (by decide) (fun K hK => ?_)
        refine goes_ Try.func19 (by kernel_rfl) rfl #[.int .i64 1, .int .i64 (wrap64 ((ji14) - 1))] (by rfl) rfl rfl (by (try simp only [List.map_toArray, List.map_cons, List.map_nil]); first | done | (simp only [hji14]; rfl) | (simp only [hjw]; rfl) | rfl | (simp only [List.length_drop, List.length_take]; rfl)) ?_
        with_reducible refine (phaetonlaw08_times.calls kj2 1 (wrap64 ((ji14) - 1)) t279 _ A53.out).mono ?_
        rintro e w81 ⟨v280, rfl, ho0, hb⟩
        refine ⟨_, rfl, ?_⟩
        have n0_ := aM (Kd.R_elder' (by (with_reducible repeat (first | apply rA | apply rN | apply rW)); exact HO250.out) (Kd.R_base ho0) hb)
        have n1_ := aM (Kd.R_elder' (by (with_reducible repeat (first | apply rA | apply rN | apply rW)); exact HO258.out) (Kd.R_base ho0) hb)
        have n2_ := aM (Kd.R_elder' (by (with_reducible repeat (first | apply rA | apply rN | apply rW)); exact HO265.out) (Kd.R_base ho0) hb)
        have n3_ := aM (Kd.R_lower (Kd.R_new' (Kd.R_new' (Kd.R_new' ho0 (Kd.R_lt (by (with_reducible repeat (first | apply rA | apply rN | apply rW)); exact HO250.out))) (Kd.R_lt (by (with_reducible repeat (first | apply rA | apply rN | apply rW)); exact HO258.out))) (Kd.R_lt (by (with_reducible repeat (first | apply rA | apply rN | apply rW)); exact HO265.out))) (below_size (by repeat (first | (with_reducible first | exact HB.out | apply lA | apply lN | apply lW | refine lS ?_ GE241.out | refine lS ?_ GE255.out | refine lS ?_ GE270.out) | exact HB.out))))
        have n4_ := aM (blk_below (g := gb241) (o := .cells #[.int .i64 a0_0, .int .i64 a0_1, .int .i64 a0_2, .int .i64 a0_3] 23 (0, 0)) (by (with_reducible repeat (first | refine bN ?_ _ | refine bW ?_ | refine bA ?_ _)); exact BK241.out) hb)
        have n5_ := aM (blk_below (g := gb255) (o := .cells #[.int .i64 t251, .int .i64 t252, .int .i64 t253, .int .i64 t254] 23 (0, 0)) (by (with_reducible repeat (first | refine bN ?_ _ | refine bW ?_ | refine bA ?_ _)); exact BK255.out) hb)
        have n6_ := aM (blk_below (g := gb270) (o := .cells #[.int .i64 t266, .int .i64 t267, .int .i64 t268, .int .i64 t269] 23 (0, 0)) (by (with_reducible repeat (first | refine bN ?_ _ | refine bW ?_ | refine bA ?_ _)); exact BK270.out) hb)
        have n7_ := aM (below_step (by repeat (first | (with_reducible first | exact HB.out | apply lA | apply lN | apply lW | refine lS ?_ GE241.out | refine lS ?_ GE255.out | refine lS ?_ GE270.out) | exact HB.out)) hb)
        clear HO250
        clear HO258
        clear HO265
        clear BK241
        clear BK255
        clear BK270
        clear HB
        have HO250 := n0_
        have HO258 := n1_
        have HO265 := n2_
        have HO281 := n3_
        have BK241 := n4_
        have BK255 := n5_
        have BK270 := n6_
        have HB := n7_
        clear n0_ n1_ n2_ n3_ n4_ n5_ n6_ n7_
        (try clear hb)
        (try clear hb2)
        (try clear hk)
        (try clear hi)
        (try clear ho0)
        obtain ⟨Ao82, co82, eo82⟩ := Kd.R_slice HO281.out
        (first | subst eo82 | (injection eo82 with f1_ f2_ f3_; have f4_ := f1_.symm; have f5_ := f3_.symm; clear f1_ f2_ f3_; subst f4_; subst f5_))
        refine hK.out _ _ ⟨(blk_cell BK255.out 0).trans rfl, (blk_cell BK255.out 1).trans rfl, (blk_cell BK255.out 2).trans rfl, (blk_cell BK255.out 3).trans rfl, (blk_cell BK270.out 0).trans rfl, (blk_cell BK270.out 1).trans rfl, (blk_cell BK270.out 2).trans rfl, (blk_cell BK270.out 3).trans rfl, (blk_cell BK241.out 0).trans rfl, (blk_cell BK241.out 1).trans rfl, (blk_cell BK241.out 2).trans rfl, (blk_cell BK241.out 3).trans rfl⟩ (fun hHeld => ?_)
        clear hK K
        refine norm_ (a' := ?_) ?_ ?_
        rotate_left
        ·show Act.put _ (some 50) _ = _
         simp only [Act.put, sT, sZ, sS, i64_w, i32_w]
         rfl
        refine one_ (i := 20) (N := some 51) #[true, true, true, true, true, true, true, true, true, true, true, true, true, true, true, true, true, true, true, true, true, false, false, false, false, false] rfl rfl (one_of HT_.out (by kernel_rfl)) (by decide) (fun K hK => ?_)
        refine goes_ Try.func17 (by kernel_rfl) rfl #[.agg #[.int .i64 t275, .int .i64 t276, .int .i64 t277, .int .i64 t278], .slice Ao82 t279.length co82] (by rfl) rfl rfl (by (try simp only [List.map_toArray, List.map_cons, List.map_nil]); first | done | rfl | (simp only [List.length_drop, List.length_take]; rfl)) ?_
        with_reducible refine (count_Steps.calls kj2 t275 t276 t277 t278 _ _ t279 t282 t283 t284 t285 _ ?side1 ?side2 A54.out).mono ?_
        (case side1 => repeat (first | exact (Kd.R_reads' HO281.out).2.2 | (with_reducible refine Kd.C_alloc ?_ _) | (with_reducible refine Kd.C_drewN ?_ _) | (with_reducible refine Kd.C_drew ?_)))
        (case side2 => exact (Kd.R_reads' HO281.out).2.1)
        rintro e w83 ⟨rfl, hb⟩
        refine ⟨_, rfl, ?_⟩
        have n0_ := aM (Kd.R_below (by (with_reducible repeat (first | apply rA | apply rN | apply rW)); exact HO250.out) hb)
        have n1_ := aM (Kd.R_below (by (with_reducible repeat (first | apply rA | apply rN | apply rW)); exact HO258.out) hb)
        have n2_ := aM (Kd.R_below (by (with_reducible repeat (first | apply rA | apply rN | apply rW)); exact HO265.out) hb)
        have n3_ := aM (Kd.R_below (by (with_reducible repeat (first | apply rA | apply rN | apply rW)); exact HO281.out) hb)
        have n4_ := aM (blk_below (g := gb241) (o := .cells #[.int .i64 a0_0, .int .i64 a0_1, .int .i64 a0_2, .int .i64 a0_3] 23 (0, 0)) (by (with_reducible repeat (first | refine bN ?_ _ | refine bW ?_ | refine bA ?_ _)); exact BK241.out) hb)
        have n5_ := aM (blk_below (g := gb255) (o := .cells #[.int .i64 t251, .int .i64 t252, .int .i64 t253, .int .i64 t254] 23 (0, 0)) (by (with_reducible repeat (first | refine bN ?_ _ | refine bW ?_ | refine bA ?_ _)); exact BK255.out) hb)
        have n6_ := aM (blk_below (g := gb270) (o := .cells #[.int .i64 t266, .int .i64 t267, .int .i64 t268, .int .i64 t269] 23 (0, 0)) (by (with_reducible repeat (first | refine bN ?_ _ | refine bW ?_ | refine bA ?_ _)); exact BK270.out) hb)
        have n7_ := aM (below_step (by repeat (first | (with_reducible first | exact HB.out | apply lA | apply lN | apply lW | refine lS ?_ GE241.out | refine lS ?_ GE255.out | refine lS ?_ GE270.out) | exact HB.out)) hb)
        clear HO250
        clear HO258
        clear HO265
        clear HO281
        clear BK241
        clear BK255
        clear BK270
        clear HB
        have HO250 := n0_
        have HO258 := n1_
        have HO265 := n2_
        have HO281 := n3_
        have BK241 := n4_
        have BK255 := n5_
        have BK270 := n6_
        have HB := n7_
        clear n0_ n1_ n2_ n3_ n4_ n5_ n6_ n7_
        (try clear hb)
        (try clear hb2)
        (try clear hk)
        (try clear hi)
        refine hK.out _ _ ⟨(blk_cell BK255.out 0).trans rfl, (blk_cell BK255.out 1).trans rfl, (blk_cell BK255.out 2).trans rfl, (blk_cell BK255.out 3).trans rfl, (blk_cell BK270.out 0).trans rfl, (blk_cell BK270.out 1).trans rfl, (blk_cell BK270.out 2).trans rfl, (blk_cell BK270.out 3).trans rfl, (blk_cell BK241.out 0).trans rfl, (blk_cell BK241.out 1).trans rfl, (blk_cell BK241.out 2).trans rfl, (blk_cell BK241.out 3).trans rfl⟩ (fun hHeld => ?_)
        clear hK K
        refine norm_ (a' := ?_) ?_ ?_
        rotate_left
        ·show Act.put _ (some 51) _ = _
         simp only [Act.put, sT, sZ, sS, i64_w, i32_w]
         rfl
        refine pure_ (i := 21) (N := some 52) (v := ?_) (a' := ?_) #[true, true, true, true, true, true, true, true, true, true, true, true, true, true, true, true, true, true, true, true, true, true, false, false, false, false] rfl rfl (any_of HT_.out (by kernel_rfl)) (fun _ _ _ h => h) (Or.inl ⟨by rfl, ?_⟩) ?_ ?_
        rotate_left
        ·intro w'
         go_simp
         first | with_reducible rfl | (simp [Instr.field, asAgg, part]; done) | (simp [Instr.field, asAgg, part]; rfl)
        rotate_left
        ·simp only [Act.put, sT, sZ, sS, i64_w, i32_w]
         rfl
        refine pure_ (i := 22) (N := some 53) (v := ?_) (a' := ?_) #[true, true, true, true, true, true, true, true, true, true, true, true, true, true, true, true, true, true, true, true, true, true, true, false, false, false] rfl rfl (any_of HT_.out (by kernel_rfl)) (fun _ _ _ h => h) (Or.inl ⟨by rfl, ?_⟩) ?_ ?_
        rotate_left
        ·intro w'
         go_simp
         first | with_reducible rfl | (simp [Instr.field, asAgg, part]; done) | (simp [Instr.field, asAgg, part]; rfl)
        rotate_left
        ·simp only [Act.put, sT, sZ, sS, i64_w, i32_w]
         rfl
        refine pure_ (i := 23) (N := some 54) (v := ?_) (a' := ?_) #[true, true, true, true, true, true, true, true, true, true, true, true, true, true, true, true, true, true, true, true, true, true, true, true, false, false] rfl rfl (any_of HT_.out (by kernel_rfl)) (fun _ _ _ h => h) (Or.inl ⟨by rfl, ?_⟩) ?_ ?_
        rotate_left
        ·intro w'
         go_simp
         first | with_reducible rfl | (simp [Instr.field, asAgg, part]; done) | (simp [Instr.field, asAgg, part]; rfl)
        rotate_left
        ·simp only [Act.put, sT, sZ, sS, i64_w, i32_w]
         rfl
        refine pure_ (i := 24) (N := some 55) (v := ?_) (a' := ?_) #[true, true, true, true, true, true, true, true, true, true, true, true, true, true, true, true, true, true, true, true, true, true, true, true, true, false] rfl rfl (any_of HT_.out (by kernel_rfl)) (fun _ _ _ h => h) (Or.inl ⟨by rfl, ?_⟩) ?_ ?_
        rotate_left
        ·intro w'
         go_simp
         first | with_reducible rfl | (simp [Instr.field, asAgg, part]; done) | (simp [Instr.field, asAgg, part]; rfl)
        rotate_left
        ·simp only [Act.put, sT, sZ, sS, i64_w, i32_w]
         rfl
        refine pure_ (i := 25) (N := some 2) (v := ?_) (a' := ?_) #[true, true, true, true, true, true, true, true, true, true, true, true, true, true, true, true, true, true, true, true, true, true, true, true, true, true] rfl rfl (any_of HT_.out (by kernel_rfl)) (fun _ _ _ h => h) (Or.inl ⟨by rfl, ?_⟩) ?_ ?_
        rotate_left
        ·intro w'
         go_simp
         first | with_reducible rfl | (simp [Instr.field, asAgg, part]; done) | (simp [Instr.field, asAgg, part]; rfl)
        rotate_left
        ·simp only [Act.put, sT, sZ, sS, i64_w, i32_w]
         rfl
        refine done_ (done_of HT_.out (by kernel_rfl)) ?_
        try go_wp2
        go_ret
        exact ⟨by first | rfl | (simp [errW_none, errW_some] <;> rfl) | (simp only [← hji14]; first | rfl | (simp [errW_none, errW_some] <;> rfl)) | (simp [*, errW_none, errW_some] <;> rfl), by repeat (first | (with_reducible first | exact HB.out | apply lA | apply lN | apply lW | refine lS ?_ GE241.out | refine lS ?_ GE255.out | refine lS ?_ GE270.out) | exact HB.out)⟩
      ·rw [if_neg c25] at H
       have c25b0 : (t266 == t271 && (t267 == t272 && (t268 == t273 && (t269 == t274)))) = false := by simpa using c25
       (try (have c25b1 : decide (t266 = t271 && (t267 == t272 && (t268 == t273 && (t269 == t274)))) = false := by simpa using c25))
       (try (have c25b2 : (t266 == t271 && (t267 == t272 && (t268 == t273 && (t269 == t274)))) = false := by simpa using c25))
       (try (have c25b3 : ¬ (t266 = t271 && (t267 == t272 && (t268 == t273 && (t269 == t274)))) := by simpa using c25))
       clear c25
       exact absurd H (by simp)
     ·rw [if_neg c23] at H
      have c23b0 : (t253 == 1) = false := beq_eq_false_iff_ne.mpr c23
      have c23b1 : (t253 != 1) = true := bne_iff_ne.mpr c23
      exact absurd H (by simp)
    ·replace c22 := Bool.eq_false_iff.mpr c22
     subst c22
     have H1 : (none) = some r := by rw [if_neg (show ¬ (false = true) by decide)] at H; exact H
     clear H
     have H := H1
     clear H1
     exact absurd H (by simp)

end Go.Proofs.Ytlbhokkifdjlaaa.P

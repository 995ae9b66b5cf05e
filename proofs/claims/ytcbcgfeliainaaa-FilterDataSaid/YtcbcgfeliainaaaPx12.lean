/- Go functions that the laws of this seat reach, each as a Lean function, and a proof that a call of the Go code comes to its answers; written by a program (the kit's print, turned in a few places). Conditions: each theorem's own premises. -/
import Derived.Test.YtcbcgfeliainaaaPx0
import Derived.Test.YtcbcgfeliainaaaPx3
import Derived.Test.YtcbcgfeliainaaaPx4
namespace Go.Proofs.Ytcbcgfeliainaaa.P
open Go.RowKit Go.Proofs.YtcbcgfeliainaaaW.PrintWords Go.Proofs.YtcbcgfeliainaaaW.PrintLast Go.Proofs.YtcbcgfeliainaaaW.PrintMore
attribute [local go_sem] max2_int min2_int max_two min_two max_three min_three max_four min_four   -- for this text's walks alone
set_option linter.unusedVariables false
set_option linter.unusedSimpArgs false

/-! ### phaetonlaw07_FilterData: function 8 -/
mutual
def phaetonlaw07_FilterData.j0 : Nat → Bool → Bool → Bool → Int → Int → Bool → Int → Bool → Int → List Int → Bool → Int → Bool → Int → List Int → Option (Bool)
  | 0, _, _, _, _, _, _, _, _, _, _, _, _, _, _, _ => none
  | k + 1, x7, x35, x314000, x314001, x314002, x315000, x315001, x315002, x315003, x315004, x316000, x316001, x316002, x316003, x316004 => if x35 = true then (some x7) else (if x315000 = true then (phaetonlaw07_FilterData.j1 k x7 x314000 x314001 x314002 x315000 x315001 x315002 x315003 x315004 x316000 x316001 x316002 x316003 x316004 x315000 x315001 x316002 x316003 x316004 x315000 536870911 x315001) else (phaetonlaw07_FilterData.j1 k x7 x314000 x314001 x314002 x315000 x315001 x315002 x315003 x315004 x316000 x316001 x316002 x316003 x316004 x315000 x315001 x316002 x316003 x316004 x315000 2047 x315001))
def phaetonlaw07_FilterData.j1 : Nat → Bool → Bool → Int → Int → Bool → Int → Bool → Int → List Int → Bool → Int → Bool → Int → List Int → Bool → Int → Bool → Int → List Int → Bool → Int → Int → Option (Bool)
  | 0, _, _, _, _, _, _, _, _, _, _, _, _, _, _, _, _, _, _, _, _, _, _ => none
  | k + 1, x7, x314000, x314001, x314002, x315000, x315001, x315002, x315003, x315004, x316000, x316001, x316002, x316003, x316004, x321000, x321001, x321002, x321003, x321004, x322000, x322001, x322002 => if x7 = true then ((filter_Takes.f x314000 x314001 x314002 x315000 x315001 x315002 x315003 x315004).bind fun t322 => ((filter_Takes.f x314000 x314001 x314002 x321000 x321001 x321002 x321003 x321004).bind fun t323 => (if (t322 == t323) = true then ((filter_Takes.f x315000 0 0 x315000 x315001 x315002 x315003 x315004).bind fun t324 => (if t324 = true then ((filter_Takes.f (!x315000) 0 0 x315000 x315001 x315002 x315003 x315004).bind fun t325 => (if t325 = true then (none) else ((filter_Takes.f x322000 x322001 x322002 x316000 x316001 x316002 x316003 x316004).bind fun t326 => (if (x316000 == x315000) = true then (some (t326 == (x316001 == x315001))) else (some (t326 == false)))))) else (none))) else (none)))) else (none)
end
def phaetonlaw07_FilterData.f (k : Nat) (a0_0 : Bool) (a0_1 : Int) (a0_2 : Int) (a1_0 : Bool) (a1_1 : Int) (a1_2 : Bool) (a1_3 : Int) (l1_4 : List Int) (a2_0 : Bool) (a2_1 : Int) (a2_2 : Bool) (a2_3 : Int) (l2_4 : List Int) : Option (Bool) := (phaetonlaw07_head.f).bind fun t316 => ((phaetonref07_Right.f a0_0 a0_1 a0_2).bind fun t317 => (if t317 = true then (if (l1_4.length : Int) > 100 then (phaetonlaw07_FilterData.j0 k t316 true a0_0 a0_1 a0_2 a1_0 a1_1 a1_2 a1_3 l1_4 a2_0 a2_1 a2_2 a2_3 l2_4) else (if (l2_4.length : Int) > 100 then (phaetonlaw07_FilterData.j0 k t316 true a0_0 a0_1 a0_2 a1_0 a1_1 a1_2 a1_3 l1_4 a2_0 a2_1 a2_2 a2_3 l2_4) else ((phaetonref04_Right.f k a1_0 a1_1 a1_2 a1_3 l1_4).bind fun t318 => (if t318 = true then ((phaetonref04_Right.f k a2_0 a2_1 a2_2 a2_3 l2_4).bind fun t319 => (phaetonlaw07_FilterData.j0 k t316 (!t319) a0_0 a0_1 a0_2 a1_0 a1_1 a1_2 a1_3 l1_4 a2_0 a2_1 a2_2 a2_3 l2_4)) else (phaetonlaw07_FilterData.j0 k t316 true a0_0 a0_1 a0_2 a1_0 a1_1 a1_2 a1_3 l1_4 a2_0 a2_1 a2_2 a2_3 l2_4))))) else (phaetonlaw07_FilterData.j0 k t316 true a0_0 a0_1 a0_2 a1_0 a1_1 a1_2 a1_3 l1_4 a2_0 a2_1 a2_2 a2_3 l2_4)))
theorem phaetonlaw07_FilterData.mono_l : ∀ k, (∀ y0 y1 y2 y3 y4 y5 y6 y7 y8 y9 y10 y11 y12 y13 y14, LeO (phaetonlaw07_FilterData.j0 k y0 y1 y2 y3 y4 y5 y6 y7 y8 y9 y10 y11 y12 y13 y14) (phaetonlaw07_FilterData.j0 (k + 1) y0 y1 y2 y3 y4 y5 y6 y7 y8 y9 y10 y11 y12 y13 y14)) ∧ (∀ y0 y1 y2 y3 y4 y5 y6 y7 y8 y9 y10 y11 y12 y13 y14 y15 y16 y17 y18 y19 y20 y21, LeO (phaetonlaw07_FilterData.j1 k y0 y1 y2 y3 y4 y5 y6 y7 y8 y9 y10 y11 y12 y13 y14 y15 y16 y17 y18 y19 y20 y21) (phaetonlaw07_FilterData.j1 (k + 1) y0 y1 y2 y3 y4 y5 y6 y7 y8 y9 y10 y11 y12 y13 y14 y15 y16 y17 y18 y19 y20 y21))
  | 0 => ⟨fun _ _ _ _ _ _ _ _ _ _ _ _ _ _ _ r h => by simp [phaetonlaw07_FilterData.j0] at h, fun _ _ _ _ _ _ _ _ _ _ _ _ _ _ _ _ _ _ _ _ _ _ r h => by simp [phaetonlaw07_FilterData.j1] at h⟩
  | k + 1 => by
    obtain ⟨ih0, ih1⟩ := phaetonlaw07_FilterData.mono_l k
    refine ⟨?_, ?_⟩
    · intro y0 y1 y2 y3 y4 y5 y6 y7 y8 y9 y10 y11 y12 y13 y14
      unfold phaetonlaw07_FilterData.j0
      repeat' first
      | (with_reducible exact ih0 _ _ _ _ _ _ _ _ _ _ _ _ _ _ _)
      | (with_reducible exact ih1 _ _ _ _ _ _ _ _ _ _ _ _ _ _ _ _ _ _ _ _ _ _)
      | (with_reducible exact phaetonref04_Right.mono _ _ _ _ _ _)
      | (with_reducible exact LeO.refl _)
      | (with_reducible exact LeO.none _)
      | (with_reducible refine LeO.ite ?_ ?_)
      | (with_reducible refine LeO.bind ?_ (fun _ => ?_))
      | exact ih0 _ _ _ _ _ _ _ _ _ _ _ _ _ _ _
      | exact ih1 _ _ _ _ _ _ _ _ _ _ _ _ _ _ _ _ _ _ _ _ _ _
      | exact phaetonref04_Right.mono _ _ _ _ _ _
      | exact LeO.none _
      | refine LeO.ite ?_ ?_
      | refine LeO.bind ?_ (fun _ => ?_)
    · intro y0 y1 y2 y3 y4 y5 y6 y7 y8 y9 y10 y11 y12 y13 y14 y15 y16 y17 y18 y19 y20 y21
      unfold phaetonlaw07_FilterData.j1
      repeat' first
      | (with_reducible exact ih0 _ _ _ _ _ _ _ _ _ _ _ _ _ _ _)
      | (with_reducible exact ih1 _ _ _ _ _ _ _ _ _ _ _ _ _ _ _ _ _ _ _ _ _ _)
      | (with_reducible exact phaetonref04_Right.mono _ _ _ _ _ _)
      | (with_reducible exact LeO.refl _)
      | (with_reducible exact LeO.none _)
      | (with_reducible refine LeO.ite ?_ ?_)
      | (with_reducible refine LeO.bind ?_ (fun _ => ?_))
      | exact ih0 _ _ _ _ _ _ _ _ _ _ _ _ _ _ _
      | exact ih1 _ _ _ _ _ _ _ _ _ _ _ _ _ _ _ _ _ _ _ _ _ _
      | exact phaetonref04_Right.mono _ _ _ _ _ _
      | exact LeO.none _
      | refine LeO.ite ?_ ?_
      | refine LeO.bind ?_ (fun _ => ?_)
theorem phaetonlaw07_FilterData.mono : ∀ a0 a1 a2 a3 a4 a5 a6 a7 a8 a9 a10 a11 a12 k, LeO (phaetonlaw07_FilterData.f k a0 a1 a2 a3 a4 a5 a6 a7 a8 a9 a10 a11 a12) (phaetonlaw07_FilterData.f (k + 1) a0 a1 a2 a3 a4 a5 a6 a7 a8 a9 a10 a11 a12) := by
  intro a0 a1 a2 a3 a4 a5 a6 a7 a8 a9 a10 a11 a12 k
  obtain ⟨ih0, ih1⟩ := phaetonlaw07_FilterData.mono_l k
  unfold phaetonlaw07_FilterData.f
  repeat' first
      | (with_reducible exact ih0 _ _ _ _ _ _ _ _ _ _ _ _ _ _ _)
      | (with_reducible exact ih1 _ _ _ _ _ _ _ _ _ _ _ _ _ _ _ _ _ _ _ _ _ _)
      | (with_reducible exact phaetonref04_Right.mono _ _ _ _ _ _)
      | (with_reducible exact LeO.refl _)
      | (with_reducible exact LeO.none _)
      | (with_reducible refine LeO.ite ?_ ?_)
      | (with_reducible refine LeO.bind ?_ (fun _ => ?_))
      | exact ih0 _ _ _ _ _ _ _ _ _ _ _ _ _ _ _
      | exact ih1 _ _ _ _ _ _ _ _ _ _ _ _ _ _ _ _ _ _ _ _ _ _
      | exact phaetonref04_Right.mono _ _ _ _ _ _
      | exact LeO.none _
      | refine LeO.ite ?_ ?_
      | refine LeO.bind ?_ (fun _ => ?_)
def phaetonlaw07_FilterData.T10 : Bool × List (List Nat × List Nat) := (true, [([], []), ([0], [0]), ([1], [1]), ([1], [1]), ([2, 3, 1, 1], [1, 2, 3]), ([1], [1]), ([1], [1]), ([5, 6, 4, 1], [1, 5, 6]), ([4, 7, 1], [1, 4, 7]), ([1, 8], [1, 8]), ([9, 7], [9]), ([10], [10]), ([11, 10], [10, 11]), ([12, 10], [10, 12]), ([10], [10]), ([13, 14, 10, 10], [10, 13, 14]), ([10, 15], [10, 15]), ([16, 15], [16]), ([17], [17]), ([18, 17], [17, 18]), ([19, 17], [17, 19]), ([20, 17], [17, 20]), ([17], [17]), ([21, 22, 17, 17], [17, 21, 22]), ([23, 17], [17, 23]), ([17, 24], [17, 24]), ([25, 23], [25]), ([26], [26]), ([26], [26]), ([27, 28, 26, 26], [26, 27, 28]), ([26], [26]), ([30, 26], [26, 30]), ([26], [26]), ([32, 26], [26, 32]), ([31, 33, 26], [26, 31, 33]), ([34, 29, 26], [26, 34]), ([35], [35]), ([36, 35], [35, 36]), ([35], [35]), ([38, 35], [35, 38]), ([37, 39, 35], [35, 37, 39]), ([35, 40, 26], [26, 35, 40]), ([29, 41, 26], [26, 29, 41]), ([26, 42], [26, 42]), ([43, 35, 0, 1, 2, 3, 4, 5, 6, 7, 8, 9, 10, 11, 12, 13, 14, 15, 16, 17, 18, 19, 20, 21, 22, 23, 24, 25, 26, 27, 28, 29, 30, 31, 32, 33, 34, 35, 36, 37, 38, 39, 40, 41, 42, 43], [43])])
def phaetonlaw07_FilterData.B10 : List Nat := [0, 1, 3, 3, 15, 3, 3, 127, 255, 511, 1023, 2047, 4095, 8191, 2047, 32767, 65535, 131071, 262143, 524287, 1048575, 2097151, 262143, 8388607, 16777215, 33554431, 67108863, 134217727, 134217727, 536870911, 134217727, 1207959551, 134217727, 4429185023, 16240345087, 34359738367, 68719476735, 137438953471, 68719476735, 343597383679, 1099511627775, 2199023255551, 4398046511103, 8796093022207, 17592186044415]
theorem phaetonlaw07_FilterData.tab10 : rtab .any (opsOf Try.f8 10) = phaetonlaw07_FilterData.T10 := by kernel_rfl
theorem phaetonlaw07_FilterData.bits10 : waitsOk phaetonlaw07_FilterData.T10.2 phaetonlaw07_FilterData.B10 = true := by kernel_rfl
set_option maxHeartbeats 8000000 in
set_option maxRecDepth 100000 in
theorem phaetonlaw07_FilterData.calls (k : Nat) (a0_0 : Bool) (a0_1 : Int) (a0_2 : Int) (a1_0 : Bool) (a1_1 : Int) (a1_2 : Bool) (a1_3 : Int) (A1_4 : Option Addr) (c1_4 : Nat) (l1_4 : List Int) (a2_0 : Bool) (a2_1 : Int) (a2_2 : Bool) (a2_3 : Int) (A2_4 : Option Addr) (c2_4 : Nat) (l2_4 : List Int) (r : Bool) (w : World) (hr1_4 : Kd.C (Kd.int .u8) w A1_4 l1_4.length l1_4) (hc1_4 : l1_4.length ≤ c1_4) (hr2_4 : Kd.C (Kd.int .u8) w A2_4 l2_4.length l2_4) (hc2_4 : l2_4.length ≤ c2_4) (h : phaetonlaw07_FilterData.f k a0_0 a0_1 a0_2 a1_0 a1_1 a1_2 a1_3 l1_4 a2_0 a2_1 a2_2 a2_3 l2_4 = some r) :
    Calls Try.prog 8 #[.agg #[.bool a0_0, .int .i64 a0_1, .int .i64 a0_2], .agg #[.bool a1_0, .int .i64 a1_1, .bool a1_2, .int .i64 a1_3, .slice A1_4 l1_4.length c1_4], .agg #[.bool a2_0, .int .i64 a2_1, .bool a2_2, .int .i64 a2_3, .slice A2_4 l2_4.length c2_4]] w fun e w' => e = .returned (.bool r) ∧ Below w.heap.size w w' := by
  have hu23 := Try.underlying23
  have hu27 := Try.underlying27
  have HR1_4 := Aside0.mk hr1_4
  have HC1_4 := Aside0.mk hc1_4
  clear hr1_4 hc1_4
  have HR2_4 := Aside0.mk hr2_4
  have HC2_4 := Aside0.mk hc2_4
  clear hr2_4 hc2_4
  have HB := Aside0.mk (Below.refl w.heap.size w)
  have H : ((phaetonlaw07_head.f).bind fun t316 => ((phaetonref07_Right.f a0_0 a0_1 a0_2).bind fun t317 => (if t317 = true then (if (l1_4.length : Int) > 100 then (phaetonlaw07_FilterData.j0 k t316 true a0_0 a0_1 a0_2 a1_0 a1_1 a1_2 a1_3 l1_4 a2_0 a2_1 a2_2 a2_3 l2_4) else (if (l2_4.length : Int) > 100 then (phaetonlaw07_FilterData.j0 k t316 true a0_0 a0_1 a0_2 a1_0 a1_1 a1_2 a1_3 l1_4 a2_0 a2_1 a2_2 a2_3 l2_4) else ((phaetonref04_Right.f k a1_0 a1_1 a1_2 a1_3 l1_4).bind fun t318 => (if t318 = true then ((phaetonref04_Right.f k a2_0 a2_1 a2_2 a2_3 l2_4).bind fun t319 => (phaetonlaw07_FilterData.j0 k t316 (!t319) a0_0 a0_1 a0_2 a1_0 a1_1 a1_2 a1_3 l1_4 a2_0 a2_1 a2_2 a2_3 l2_4)) else (phaetonlaw07_FilterData.j0 k t316 true a0_0 a0_1 a0_2 a1_0 a1_1 a1_2 a1_3 l1_4 a2_0 a2_1 a2_2 a2_3 l2_4))))) else (phaetonlaw07_FilterData.j0 k t316 true a0_0 a0_1 a0_2 a1_0 a1_1 a1_2 a1_3 l1_4 a2_0 a2_1 a2_2 a2_3 l2_4)))) = some r := h
  clear h
  replace H := Option.bind_eq_some_iff.mp H
  obtain ⟨t316, A40, H⟩ := H
  replace H : ((phaetonref07_Right.f a0_0 a0_1 a0_2).bind fun t317 => (if t317 = true then (if (l1_4.length : Int) > 100 then (phaetonlaw07_FilterData.j0 k t316 true a0_0 a0_1 a0_2 a1_0 a1_1 a1_2 a1_3 l1_4 a2_0 a2_1 a2_2 a2_3 l2_4) else (if (l2_4.length : Int) > 100 then (phaetonlaw07_FilterData.j0 k t316 true a0_0 a0_1 a0_2 a1_0 a1_1 a1_2 a1_3 l1_4 a2_0 a2_1 a2_2 a2_3 l2_4) else ((phaetonref04_Right.f k a1_0 a1_1 a1_2 a1_3 l1_4).bind fun t318 => (if t318 = true then ((phaetonref04_Right.f k a2_0 a2_1 a2_2 a2_3 l2_4).bind fun t319 => (phaetonlaw07_FilterData.j0 k t316 (!t319) a0_0 a0_1 a0_2 a1_0 a1_1 a1_2 a1_3 l1_4 a2_0 a2_1 a2_2 a2_3 l2_4)) else (phaetonlaw07_FilterData.j0 k t316 true a0_0 a0_1 a0_2 a1_0 a1_1 a1_2 a1_3 l1_4 a2_0 a2_1 a2_2 a2_3 l2_4))))) else (phaetonlaw07_FilterData.j0 k t316 true a0_0 a0_1 a0_2 a1_0 a1_1 a1_2 a1_3 l1_4 a2_0 a2_1 a2_2 a2_3 l2_4))) = some r := H
  have A4 := Aside0.mk A40
  clear A40
  have HC5 := Aside0.mk H
  clear H
  go_enter Try.func8, Try.ntmps8
  go_upto_region 2 with (first | ((with_reducible refine gate_dst (N := 3) rfl ?_); (try (refine gate_guard (by rfl) ?_; dsimp only)); refine box_event ?hg (N := 3) ?hd (cs := #[.bool a0_0, .int .i64 a0_1, .int .i64 a0_2]) (t := 23) ?hr ?_; (case hd => rfl); (case hg => rfl); (case hr => first | (go_simp; done) | (go_simp; rfl)); intro gb313 hg w6 hbox hb; have n0_ := Aside0.mk (below_step (by repeat (first | (with_reducible first | exact HB.out | apply below_alloc | apply pw_below_drewN | apply below_drew1) | exact HB.out)) hb); have n1_ := Aside0.mk (hbox); have n2_ := Aside0.mk ((by rw [hg]; exact (below_size (by repeat (first | (with_reducible first | exact HB.out | apply below_alloc | apply pw_below_drewN | apply below_drew1) | exact HB.out))) : w.heap.size ≤ gb313)); have n3_ := Aside0.mk ((by rw [hg]; exact (below_size (by repeat (first | (with_reducible first | exact HB.out | apply below_alloc | apply pw_below_drewN | apply below_drew1) | exact HB.out))) : w.heap.size ≤ gb313)); clear HB; have HB := n0_; have BK313 := n1_; have GW313 := n2_; have GE313 := n3_; clear n0_ n1_ n2_ n3_; clear hb hbox hg) | ((with_reducible refine gate_dst (N := 4) rfl ?_); (try (refine gate_guard (by rfl) ?_; dsimp only)); refine box_event ?hg (N := 4) ?hd (cs := #[.bool a1_0, .int .i64 a1_1, .bool a1_2, .int .i64 a1_3, .slice A1_4 l1_4.length c1_4]) (t := 27) ?hr ?_; (case hd => rfl); (case hg => rfl); (case hr => first | (go_simp; done) | (go_simp; rfl)); intro gb314 hg w7 hbox hb; have n0_ := Aside0.mk (blk_below (g := gb313) (o := .cells #[.bool a0_0, .int .i64 a0_1, .int .i64 a0_2] 23 (0, 0)) (by (with_reducible repeat (first | refine blk_drewN ?_ _ | refine blk_drew ?_ | refine blk_alloc ?_ _)); exact BK313.out) hb); have n1_ := Aside0.mk (below_step (by repeat (first | (with_reducible first | exact HB.out | apply below_alloc | apply pw_below_drewN | apply below_drew1 | refine below_set ?_ GE313.out) | exact HB.out)) hb); have n2_ := Aside0.mk (hbox); have n3_ := Aside0.mk ((by rw [hg]; exact (below_size (by repeat (first | (with_reducible first | exact HB.out | apply below_alloc | apply pw_below_drewN | apply below_drew1 | refine below_set ?_ GE313.out) | exact HB.out))) : w.heap.size ≤ gb314)); have n4_ := Aside0.mk ((by rw [hg]; exact (below_size (by repeat (first | (with_reducible first | exact HB.out | apply below_alloc | apply pw_below_drewN | apply below_drew1 | refine below_set ?_ GE313.out) | exact HB.out))) : w.heap.size ≤ gb314)); have n5_ := Aside0.mk ((by rw [hg]; exact Nat.ne_of_lt (blk_lt (g := gb313) (o := .cells #[.bool a0_0, .int .i64 a0_1, .int .i64 a0_2] 23 (0, 0)) (by (with_reducible repeat (first | refine blk_drewN ?_ _ | refine blk_drew ?_ | refine blk_alloc ?_ _)); exact BK313.out)) : gb313 ≠ gb314)); have n6_ := Aside0.mk ((by rw [hg]; exact Nat.ne_of_gt (blk_lt (g := gb313) (o := .cells #[.bool a0_0, .int .i64 a0_1, .int .i64 a0_2] 23 (0, 0)) (by (with_reducible repeat (first | refine blk_drewN ?_ _ | refine blk_drew ?_ | refine blk_alloc ?_ _)); exact BK313.out)) : gb314 ≠ gb313)); clear BK313; clear HB; have BK313 := n0_; have HB := n1_; have BK314 := n2_; have GW314 := n3_; have GE314 := n4_; have NB313_314 := n5_; have NB314_313 := n6_; clear n0_ n1_ n2_ n3_ n4_ n5_ n6_; clear hb hbox hg) | ((with_reducible refine gate_dst (N := 5) rfl ?_); (try (refine gate_guard (by rfl) ?_; dsimp only)); refine box_event ?hg (N := 5) ?hd (cs := #[.bool a2_0, .int .i64 a2_1, .bool a2_2, .int .i64 a2_3, .slice A2_4 l2_4.length c2_4]) (t := 27) ?hr ?_; (case hd => rfl); (case hg => rfl); (case hr => first | (go_simp; done) | (go_simp; rfl)); intro gb315 hg w8 hbox hb; have n0_ := Aside0.mk (blk_below (g := gb313) (o := .cells #[.bool a0_0, .int .i64 a0_1, .int .i64 a0_2] 23 (0, 0)) (by (with_reducible repeat (first | refine blk_drewN ?_ _ | refine blk_drew ?_ | refine blk_alloc ?_ _)); exact BK313.out) hb); have n1_ := Aside0.mk (blk_below (g := gb314) (o := .cells #[.bool a1_0, .int .i64 a1_1, .bool a1_2, .int .i64 a1_3, .slice A1_4 l1_4.length c1_4] 27 (0, 0)) (by (with_reducible repeat (first | refine blk_drewN ?_ _ | refine blk_drew ?_ | refine blk_alloc ?_ _)); exact BK314.out) hb); have n2_ := Aside0.mk (below_step (by repeat (first | (with_reducible first | exact HB.out | apply below_alloc | apply pw_below_drewN | apply below_drew1 | refine below_set ?_ GE313.out | refine below_set ?_ GE314.out) | exact HB.out)) hb); have n3_ := Aside0.mk (hbox); have n4_ := Aside0.mk ((by rw [hg]; exact (below_size (by repeat (first | (with_reducible first | exact HB.out | apply below_alloc | apply pw_below_drewN | apply below_drew1 | refine below_set ?_ GE313.out | refine below_set ?_ GE314.out) | exact HB.out))) : w.heap.size ≤ gb315)); have n5_ := Aside0.mk ((by rw [hg]; exact (below_size (by repeat (first | (with_reducible first | exact HB.out | apply below_alloc | apply pw_below_drewN | apply below_drew1 | refine below_set ?_ GE313.out | refine below_set ?_ GE314.out) | exact HB.out))) : w.heap.size ≤ gb315)); have n6_ := Aside0.mk ((by rw [hg]; exact Nat.ne_of_lt (blk_lt (g := gb313) (o := .cells #[.bool a0_0, .int .i64 a0_1, .int .i64 a0_2] 23 (0, 0)) (by (with_reducible repeat (first | refine blk_drewN ?_ _ | refine blk_drew ?_ | refine blk_alloc ?_ _)); exact BK313.out)) : gb313 ≠ gb315)); have n7_ := Aside0.mk ((by rw [hg]; exact Nat.ne_of_gt (blk_lt (g := gb313) (o := .cells #[.bool a0_0, .int .i64 a0_1, .int .i64 a0_2] 23 (0, 0)) (by (with_reducible repeat (first | refine blk_drewN ?_ _ | refine blk_drew ?_ | refine blk_alloc ?_ _)); exact BK313.out)) : gb315 ≠ gb313)); have n8_ := Aside0.mk ((by rw [hg]; exact Nat.ne_of_lt (blk_lt (g := gb314) (o := .cells #[.bool a1_0, .int .i64 a1_1, .bool a1_2, .int .i64 a1_3, .slice A1_4 l1_4.length c1_4] 27 (0, 0)) (by (with_reducible repeat (first | refine blk_drewN ?_ _ | refine blk_drew ?_ | refine blk_alloc ?_ _)); exact BK314.out)) : gb314 ≠ gb315)); have n9_ := Aside0.mk ((by rw [hg]; exact Nat.ne_of_gt (blk_lt (g := gb314) (o := .cells #[.bool a1_0, .int .i64 a1_1, .bool a1_2, .int .i64 a1_3, .slice A1_4 l1_4.length c1_4] 27 (0, 0)) (by (with_reducible repeat (first | refine blk_drewN ?_ _ | refine blk_drew ?_ | refine blk_alloc ?_ _)); exact BK314.out)) : gb315 ≠ gb314)); clear BK313; clear BK314; clear HB; have BK313 := n0_; have BK314 := n1_; have HB := n2_; have BK315 := n3_; have GW315 := n4_; have GE315 := n5_; have NB313_315 := n6_; have NB315_313 := n7_; have NB314_315 := n8_; have NB315_314 := n9_; clear n0_ n1_ n2_ n3_ n4_ n5_ n6_ n7_ n8_ n9_; clear hb hbox hg) | ((with_reducible refine gate_callee (f := 10) rfl ?_); refine goesL_ (some 10) rfl rfl Try.func10 (by kernel_rfl) rfl #[] rfl (by (try simp only [List.map_toArray, List.map_cons, List.map_nil]); first | done | rfl | (simp only [List.length_drop, List.length_take]; rfl)) ?_; (with_reducible refine (phaetonlaw07_head.calls  t316 _ A4.out).mono ?_); rintro e w9 ⟨rfl, hb⟩; refine ⟨_, rfl, ?_⟩; have n0_ := Aside0.mk (blk_below (g := gb313) (o := .cells #[.bool a0_0, .int .i64 a0_1, .int .i64 a0_2] 23 (0, 0)) (by (with_reducible repeat (first | refine blk_drewN ?_ _ | refine blk_drew ?_ | refine blk_alloc ?_ _)); exact BK313.out) hb); have n1_ := Aside0.mk (blk_below (g := gb314) (o := .cells #[.bool a1_0, .int .i64 a1_1, .bool a1_2, .int .i64 a1_3, .slice A1_4 l1_4.length c1_4] 27 (0, 0)) (by (with_reducible repeat (first | refine blk_drewN ?_ _ | refine blk_drew ?_ | refine blk_alloc ?_ _)); exact BK314.out) hb); have n2_ := Aside0.mk (blk_below (g := gb315) (o := .cells #[.bool a2_0, .int .i64 a2_1, .bool a2_2, .int .i64 a2_3, .slice A2_4 l2_4.length c2_4] 27 (0, 0)) (by (with_reducible repeat (first | refine blk_drewN ?_ _ | refine blk_drew ?_ | refine blk_alloc ?_ _)); exact BK315.out) hb); have n3_ := Aside0.mk (below_step (by repeat (first | (with_reducible first | exact HB.out | apply below_alloc | apply pw_below_drewN | apply below_drew1 | refine below_set ?_ GE313.out | refine below_set ?_ GE314.out | refine below_set ?_ GE315.out) | exact HB.out)) hb); clear BK313; clear BK314; clear BK315; clear HB; have BK313 := n0_; have BK314 := n1_; have BK315 := n2_; have HB := n3_; clear n0_ n1_ n2_ n3_; (try clear hb); (try clear hb2); (try clear hk); (try clear hi)))
  (try simp only [Act.put, List.setIfInBounds_toArray, List.set_cons_zero, List.set_cons_succ])
  go_cut [35] (fun v35 wc => ∃ (kq : Nat) (x35_4 : Bool), v35 = .bool x35_4 ∧ Aside0 (phaetonlaw07_FilterData.j0 kq t316 x35_4 a0_0 a0_1 a0_2 a1_0 a1_1 a1_2 a1_3 l1_4 a2_0 a2_1 a2_2 a2_3 l2_4 = some r) ∧ Aside0 (kq ≤ k) ∧ Aside0 (wc.heap[gb313]? = some (.cells #[.bool a0_0, .int .i64 a0_1, .int .i64 a0_2] 23 (0, 0))) ∧ Aside0 (wc.heap[gb314]? = some (.cells #[.bool a1_0, .int .i64 a1_1, .bool a1_2, .int .i64 a1_3, (.slice A1_4 l1_4.length c1_4)] 27 (0, 0))) ∧ Aside0 (wc.heap[gb315]? = some (.cells #[.bool a2_0, .int .i64 a2_1, .bool a2_2, .int .i64 a2_3, (.slice A2_4 l2_4.length c2_4)] 27 (0, 0))) ∧ Aside0 (Below w.heap.size w wc))
  case first =>
    have H := HC5.out
    clear HC5
    replace H := Option.bind_eq_some_iff.mp H
    obtain ⟨t317, A100, H⟩ := H
    replace H : (if t317 = true then (if (l1_4.length : Int) > 100 then (phaetonlaw07_FilterData.j0 k t316 true a0_0 a0_1 a0_2 a1_0 a1_1 a1_2 a1_3 l1_4 a2_0 a2_1 a2_2 a2_3 l2_4) else (if (l2_4.length : Int) > 100 then (phaetonlaw07_FilterData.j0 k t316 true a0_0 a0_1 a0_2 a1_0 a1_1 a1_2 a1_3 l1_4 a2_0 a2_1 a2_2 a2_3 l2_4) else ((phaetonref04_Right.f k a1_0 a1_1 a1_2 a1_3 l1_4).bind fun t318 => (if t318 = true then ((phaetonref04_Right.f k a2_0 a2_1 a2_2 a2_3 l2_4).bind fun t319 => (phaetonlaw07_FilterData.j0 k t316 (!t319) a0_0 a0_1 a0_2 a1_0 a1_1 a1_2 a1_3 l1_4 a2_0 a2_1 a2_2 a2_3 l2_4)) else (phaetonlaw07_FilterData.j0 k t316 true a0_0 a0_1 a0_2 a1_0 a1_1 a1_2 a1_3 l1_4 a2_0 a2_1 a2_2 a2_3 l2_4))))) else (phaetonlaw07_FilterData.j0 k t316 true a0_0 a0_1 a0_2 a1_0 a1_1 a1_2 a1_3 l1_4 a2_0 a2_1 a2_2 a2_3 l2_4)) = some r := H
    have A10 := Aside0.mk A100
    clear A100
    by_cases c11 : t317 = true
    · subst c11
      have H1 : (if (l1_4.length : Int) > 100 then (phaetonlaw07_FilterData.j0 k t316 true a0_0 a0_1 a0_2 a1_0 a1_1 a1_2 a1_3 l1_4 a2_0 a2_1 a2_2 a2_3 l2_4) else (if (l2_4.length : Int) > 100 then (phaetonlaw07_FilterData.j0 k t316 true a0_0 a0_1 a0_2 a1_0 a1_1 a1_2 a1_3 l1_4 a2_0 a2_1 a2_2 a2_3 l2_4) else ((phaetonref04_Right.f k a1_0 a1_1 a1_2 a1_3 l1_4).bind fun t318 => (if t318 = true then ((phaetonref04_Right.f k a2_0 a2_1 a2_2 a2_3 l2_4).bind fun t319 => (phaetonlaw07_FilterData.j0 k t316 (!t319) a0_0 a0_1 a0_2 a1_0 a1_1 a1_2 a1_3 l1_4 a2_0 a2_1 a2_2 a2_3 l2_4)) else (phaetonlaw07_FilterData.j0 k t316 true a0_0 a0_1 a0_2 a1_0 a1_1 a1_2 a1_3 l1_4 a2_0 a2_1 a2_2 a2_3 l2_4))))) = some r := by rw [if_pos rfl] at H; exact H
      clear H
      have H := H1
      clear H1
      by_cases c12 : (l1_4.length : Int) > 100
      · rw [if_pos c12] at H
        have c12b0 : decide (100 < (l1_4.length : Int)) = true := decide_eq_true c12
        have c12b1 : decide (100 < l1_4.length) = true := decide_eq_true (by omega)
        clear c12
        (first | rw [c12b0] | (simp only [i64_w, i32_w]; rw [c12b0]) | skip)
        have H' := Aside0.mk H
        clear H
        have hnb13 := NB313_314.out
        have hnc13 := NB314_313.out
        have hnb14 := NB313_315.out
        have hnc14 := NB315_313.out
        have hcz15_0 : w9.cell? ⟨gb313, 0, none⟩ = some (.bool a0_0) := (blk_cell BK313.out 0).trans rfl
        have hcz15_1 : w9.cell? ⟨gb313, 1, none⟩ = some (.int .i64 a0_1) := (blk_cell BK313.out 1).trans rfl
        have hcz15_2 : w9.cell? ⟨gb313, 2, none⟩ = some (.int .i64 a0_2) := (blk_cell BK313.out 2).trans rfl
        have hfz15_0 := blk_frozen BK313.out 0
        have hfz15_1 := blk_frozen BK313.out 1
        have hfz15_2 := blk_frozen BK313.out 2
        go_wp2_with (first | ((with_reducible refine gate_callee (f := 12) rfl ?_); refine goesL_ (some 12) rfl rfl Try.func12 (by kernel_rfl) rfl #[.agg #[.bool a0_0, .int .i64 a0_1, .int .i64 a0_2]] rfl (by (try simp only [List.map_toArray, List.map_cons, List.map_nil]); first | done | rfl | (simp only [List.length_drop, List.length_take]; rfl)) ?_; (with_reducible refine (phaetonref07_Right.calls a0_0 a0_1 a0_2 true _ A10.out).mono ?_); rintro e w16 ⟨rfl, hb⟩; refine ⟨_, rfl, ?_⟩; have n0_ := Aside0.mk (blk_below (g := gb313) (o := .cells #[.bool a0_0, .int .i64 a0_1, .int .i64 a0_2] 23 (0, 0)) (by (with_reducible repeat (first | refine blk_drewN ?_ _ | refine blk_drew ?_ | refine blk_alloc ?_ _)); exact BK313.out) hb); have n1_ := Aside0.mk (blk_below (g := gb314) (o := .cells #[.bool a1_0, .int .i64 a1_1, .bool a1_2, .int .i64 a1_3, .slice A1_4 l1_4.length c1_4] 27 (0, 0)) (by (with_reducible repeat (first | refine blk_drewN ?_ _ | refine blk_drew ?_ | refine blk_alloc ?_ _)); exact BK314.out) hb); have n2_ := Aside0.mk (blk_below (g := gb315) (o := .cells #[.bool a2_0, .int .i64 a2_1, .bool a2_2, .int .i64 a2_3, .slice A2_4 l2_4.length c2_4] 27 (0, 0)) (by (with_reducible repeat (first | refine blk_drewN ?_ _ | refine blk_drew ?_ | refine blk_alloc ?_ _)); exact BK315.out) hb); have n3_ := Aside0.mk (below_step (by repeat (first | (with_reducible first | exact HB.out | apply below_alloc | apply pw_below_drewN | apply below_drew1 | refine below_set ?_ GE313.out | refine below_set ?_ GE314.out | refine below_set ?_ GE315.out) | exact HB.out)) hb); clear BK313; clear BK314; clear BK315; clear HB; have BK313 := n0_; have BK314 := n1_; have BK315 := n2_; have HB := n3_; clear n0_ n1_ n2_ n3_; (try clear hb); (try clear hb2); (try clear hk); (try clear hi); have hnb17 := NB314_315.out; have hnc17 := NB315_314.out; have hcz18_0 : w16.cell? ⟨gb314, 0, none⟩ = some (.bool a1_0) := (blk_cell BK314.out 0).trans rfl; have hcz18_1 : w16.cell? ⟨gb314, 1, none⟩ = some (.int .i64 a1_1) := (blk_cell BK314.out 1).trans rfl; have hcz18_2 : w16.cell? ⟨gb314, 2, none⟩ = some (.bool a1_2) := (blk_cell BK314.out 2).trans rfl; have hcz18_3 : w16.cell? ⟨gb314, 3, none⟩ = some (.int .i64 a1_3) := (blk_cell BK314.out 3).trans rfl; have hcz18_4 : w16.cell? ⟨gb314, 4, none⟩ = some (.slice A1_4 l1_4.length c1_4) := (blk_cell BK314.out 4).trans rfl; have hfz18_0 := blk_frozen BK314.out 0; have hfz18_1 := blk_frozen BK314.out 1; have hfz18_2 := blk_frozen BK314.out 2; have hfz18_3 := blk_frozen BK314.out 3; have hfz18_4 := blk_frozen BK314.out 4))
        go_meet
        case rel => exact ⟨_, (true), (by first | rfl | (simp; done) | (simp [*]; done)), H', ⟨by first | omega | exact Nat.le_refl _⟩, ⟨by (with_reducible repeat (first | refine blk_drewN ?_ _ | refine blk_drew ?_ | refine blk_alloc ?_ _)); exact BK313.out⟩, ⟨by (with_reducible repeat (first | refine blk_drewN ?_ _ | refine blk_drew ?_ | refine blk_alloc ?_ _)); exact BK314.out⟩, ⟨by (with_reducible repeat (first | refine blk_drewN ?_ _ | refine blk_drew ?_ | refine blk_alloc ?_ _)); exact BK315.out⟩, ⟨by repeat (first | (with_reducible first | exact HB.out | apply below_alloc | apply pw_below_drewN | apply below_drew1 | refine below_set ?_ GE313.out | refine below_set ?_ GE314.out | refine below_set ?_ GE315.out) | exact HB.out)⟩⟩
      · rw [if_neg c12] at H
        have c12b0 : decide (100 < (l1_4.length : Int)) = false := decide_eq_false c12
        have c12b1 : decide (100 < l1_4.length) = false := decide_eq_false (by omega)
        clear c12
        (first | rw [c12b0] | (simp only [i64_w, i32_w]; rw [c12b0]) | skip)
        by_cases c19 : (l2_4.length : Int) > 100
        · rw [if_pos c19] at H
          have c19b0 : decide (100 < (l2_4.length : Int)) = true := decide_eq_true c19
          have c19b1 : decide (100 < l2_4.length) = true := decide_eq_true (by omega)
          clear c19
          have H' := Aside0.mk H
          clear H
          have hnb20 := NB313_314.out
          have hnc20 := NB314_313.out
          have hnb21 := NB313_315.out
          have hnc21 := NB315_313.out
          have hcz22_0 : w9.cell? ⟨gb313, 0, none⟩ = some (.bool a0_0) := (blk_cell BK313.out 0).trans rfl
          have hcz22_1 : w9.cell? ⟨gb313, 1, none⟩ = some (.int .i64 a0_1) := (blk_cell BK313.out 1).trans rfl
          have hcz22_2 : w9.cell? ⟨gb313, 2, none⟩ = some (.int .i64 a0_2) := (blk_cell BK313.out 2).trans rfl
          have hfz22_0 := blk_frozen BK313.out 0
          have hfz22_1 := blk_frozen BK313.out 1
          have hfz22_2 := blk_frozen BK313.out 2
          go_wp2_with (first | ((with_reducible refine gate_callee (f := 12) rfl ?_); refine goesL_ (some 12) rfl rfl Try.func12 (by kernel_rfl) rfl #[.agg #[.bool a0_0, .int .i64 a0_1, .int .i64 a0_2]] rfl (by (try simp only [List.map_toArray, List.map_cons, List.map_nil]); first | done | rfl | (simp only [List.length_drop, List.length_take]; rfl)) ?_; (with_reducible refine (phaetonref07_Right.calls a0_0 a0_1 a0_2 true _ A10.out).mono ?_); rintro e w23 ⟨rfl, hb⟩; refine ⟨_, rfl, ?_⟩; have n0_ := Aside0.mk (blk_below (g := gb313) (o := .cells #[.bool a0_0, .int .i64 a0_1, .int .i64 a0_2] 23 (0, 0)) (by (with_reducible repeat (first | refine blk_drewN ?_ _ | refine blk_drew ?_ | refine blk_alloc ?_ _)); exact BK313.out) hb); have n1_ := Aside0.mk (blk_below (g := gb314) (o := .cells #[.bool a1_0, .int .i64 a1_1, .bool a1_2, .int .i64 a1_3, .slice A1_4 l1_4.length c1_4] 27 (0, 0)) (by (with_reducible repeat (first | refine blk_drewN ?_ _ | refine blk_drew ?_ | refine blk_alloc ?_ _)); exact BK314.out) hb); have n2_ := Aside0.mk (blk_below (g := gb315) (o := .cells #[.bool a2_0, .int .i64 a2_1, .bool a2_2, .int .i64 a2_3, .slice A2_4 l2_4.length c2_4] 27 (0, 0)) (by (with_reducible repeat (first | refine blk_drewN ?_ _ | refine blk_drew ?_ | refine blk_alloc ?_ _)); exact BK315.out) hb); have n3_ := Aside0.mk (below_step (by repeat (first | (with_reducible first | exact HB.out | apply below_alloc | apply pw_below_drewN | apply below_drew1 | refine below_set ?_ GE313.out | refine below_set ?_ GE314.out | refine below_set ?_ GE315.out) | exact HB.out)) hb); clear BK313; clear BK314; clear BK315; clear HB; have BK313 := n0_; have BK314 := n1_; have BK315 := n2_; have HB := n3_; clear n0_ n1_ n2_ n3_; (try clear hb); (try clear hb2); (try clear hk); (try clear hi); have hnb24 := NB314_315.out; have hnc24 := NB315_314.out; have hcz25_0 : w23.cell? ⟨gb314, 0, none⟩ = some (.bool a1_0) := (blk_cell BK314.out 0).trans rfl; have hcz25_1 : w23.cell? ⟨gb314, 1, none⟩ = some (.int .i64 a1_1) := (blk_cell BK314.out 1).trans rfl; have hcz25_2 : w23.cell? ⟨gb314, 2, none⟩ = some (.bool a1_2) := (blk_cell BK314.out 2).trans rfl; have hcz25_3 : w23.cell? ⟨gb314, 3, none⟩ = some (.int .i64 a1_3) := (blk_cell BK314.out 3).trans rfl; have hcz25_4 : w23.cell? ⟨gb314, 4, none⟩ = some (.slice A1_4 l1_4.length c1_4) := (blk_cell BK314.out 4).trans rfl; have hfz25_0 := blk_frozen BK314.out 0; have hfz25_1 := blk_frozen BK314.out 1; have hfz25_2 := blk_frozen BK314.out 2; have hfz25_3 := blk_frozen BK314.out 3; have hfz25_4 := blk_frozen BK314.out 4; have hcz26_0 : w23.cell? ⟨gb315, 0, none⟩ = some (.bool a2_0) := (blk_cell BK315.out 0).trans rfl; have hcz26_1 : w23.cell? ⟨gb315, 1, none⟩ = some (.int .i64 a2_1) := (blk_cell BK315.out 1).trans rfl; have hcz26_2 : w23.cell? ⟨gb315, 2, none⟩ = some (.bool a2_2) := (blk_cell BK315.out 2).trans rfl; have hcz26_3 : w23.cell? ⟨gb315, 3, none⟩ = some (.int .i64 a2_3) := (blk_cell BK315.out 3).trans rfl; have hcz26_4 : w23.cell? ⟨gb315, 4, none⟩ = some (.slice A2_4 l2_4.length c2_4) := (blk_cell BK315.out 4).trans rfl; have hfz26_0 := blk_frozen BK315.out 0; have hfz26_1 := blk_frozen BK315.out 1; have hfz26_2 := blk_frozen BK315.out 2; have hfz26_3 := blk_frozen BK315.out 3; have hfz26_4 := blk_frozen BK315.out 4))
          go_meet
          case rel => exact ⟨_, (true), (by first | rfl | (simp; done) | (simp [*]; done)), H', ⟨by first | omega | exact Nat.le_refl _⟩, ⟨by (with_reducible repeat (first | refine blk_drewN ?_ _ | refine blk_drew ?_ | refine blk_alloc ?_ _)); exact BK313.out⟩, ⟨by (with_reducible repeat (first | refine blk_drewN ?_ _ | refine blk_drew ?_ | refine blk_alloc ?_ _)); exact BK314.out⟩, ⟨by (with_reducible repeat (first | refine blk_drewN ?_ _ | refine blk_drew ?_ | refine blk_alloc ?_ _)); exact BK315.out⟩, ⟨by repeat (first | (with_reducible first | exact HB.out | apply below_alloc | apply pw_below_drewN | apply below_drew1 | refine below_set ?_ GE313.out | refine below_set ?_ GE314.out | refine below_set ?_ GE315.out) | exact HB.out)⟩⟩
        · rw [if_neg c19] at H
          have c19b0 : decide (100 < (l2_4.length : Int)) = false := decide_eq_false c19
          have c19b1 : decide (100 < l2_4.length) = false := decide_eq_false (by omega)
          clear c19
          replace H := Option.bind_eq_some_iff.mp H
          obtain ⟨t318, A270, H⟩ := H
          replace H : (if t318 = true then ((phaetonref04_Right.f k a2_0 a2_1 a2_2 a2_3 l2_4).bind fun t319 => (phaetonlaw07_FilterData.j0 k t316 (!t319) a0_0 a0_1 a0_2 a1_0 a1_1 a1_2 a1_3 l1_4 a2_0 a2_1 a2_2 a2_3 l2_4)) else (phaetonlaw07_FilterData.j0 k t316 true a0_0 a0_1 a0_2 a1_0 a1_1 a1_2 a1_3 l1_4 a2_0 a2_1 a2_2 a2_3 l2_4)) = some r := H
          have A27 := Aside0.mk A270
          clear A270
          by_cases c28 : t318 = true
          · subst c28
            have H1 : ((phaetonref04_Right.f k a2_0 a2_1 a2_2 a2_3 l2_4).bind fun t319 => (phaetonlaw07_FilterData.j0 k t316 (!t319) a0_0 a0_1 a0_2 a1_0 a1_1 a1_2 a1_3 l1_4 a2_0 a2_1 a2_2 a2_3 l2_4)) = some r := by rw [if_pos rfl] at H; exact H
            clear H
            have H := H1
            clear H1
            replace H := Option.bind_eq_some_iff.mp H
            obtain ⟨t319, A290, H⟩ := H
            replace H : (phaetonlaw07_FilterData.j0 k t316 (!t319) a0_0 a0_1 a0_2 a1_0 a1_1 a1_2 a1_3 l1_4 a2_0 a2_1 a2_2 a2_3 l2_4) = some r := H
            have A29 := Aside0.mk A290
            clear A290
            have H' := Aside0.mk H
            clear H
            have hnb30 := NB313_314.out
            have hnc30 := NB314_313.out
            have hnb31 := NB313_315.out
            have hnc31 := NB315_313.out
            have hcz32_0 : w9.cell? ⟨gb313, 0, none⟩ = some (.bool a0_0) := (blk_cell BK313.out 0).trans rfl
            have hcz32_1 : w9.cell? ⟨gb313, 1, none⟩ = some (.int .i64 a0_1) := (blk_cell BK313.out 1).trans rfl
            have hcz32_2 : w9.cell? ⟨gb313, 2, none⟩ = some (.int .i64 a0_2) := (blk_cell BK313.out 2).trans rfl
            have hfz32_0 := blk_frozen BK313.out 0
            have hfz32_1 := blk_frozen BK313.out 1
            have hfz32_2 := blk_frozen BK313.out 2
            go_wp2_with (first | ((with_reducible refine gate_callee (f := 12) rfl ?_); refine goesL_ (some 12) rfl rfl Try.func12 (by kernel_rfl) rfl #[.agg #[.bool a0_0, .int .i64 a0_1, .int .i64 a0_2]] rfl (by (try simp only [List.map_toArray, List.map_cons, List.map_nil]); first | done | rfl | (simp only [List.length_drop, List.length_take]; rfl)) ?_; (with_reducible refine (phaetonref07_Right.calls a0_0 a0_1 a0_2 true _ A10.out).mono ?_); rintro e w33 ⟨rfl, hb⟩; refine ⟨_, rfl, ?_⟩; have n0_ := Aside0.mk (blk_below (g := gb313) (o := .cells #[.bool a0_0, .int .i64 a0_1, .int .i64 a0_2] 23 (0, 0)) (by (with_reducible repeat (first | refine blk_drewN ?_ _ | refine blk_drew ?_ | refine blk_alloc ?_ _)); exact BK313.out) hb); have n1_ := Aside0.mk (blk_below (g := gb314) (o := .cells #[.bool a1_0, .int .i64 a1_1, .bool a1_2, .int .i64 a1_3, .slice A1_4 l1_4.length c1_4] 27 (0, 0)) (by (with_reducible repeat (first | refine blk_drewN ?_ _ | refine blk_drew ?_ | refine blk_alloc ?_ _)); exact BK314.out) hb); have n2_ := Aside0.mk (blk_below (g := gb315) (o := .cells #[.bool a2_0, .int .i64 a2_1, .bool a2_2, .int .i64 a2_3, .slice A2_4 l2_4.length c2_4] 27 (0, 0)) (by (with_reducible repeat (first | refine blk_drewN ?_ _ | refine blk_drew ?_ | refine blk_alloc ?_ _)); exact BK315.out) hb); have n3_ := Aside0.mk (below_step (by repeat (first | (with_reducible first | exact HB.out | apply below_alloc | apply pw_below_drewN | apply below_drew1 | refine below_set ?_ GE313.out | refine below_set ?_ GE314.out | refine below_set ?_ GE315.out) | exact HB.out)) hb); clear BK313; clear BK314; clear BK315; clear HB; have BK313 := n0_; have BK314 := n1_; have BK315 := n2_; have HB := n3_; clear n0_ n1_ n2_ n3_; (try clear hb); (try clear hb2); (try clear hk); (try clear hi); have hnb34 := NB314_315.out; have hnc34 := NB315_314.out; have hcz35_0 : w33.cell? ⟨gb314, 0, none⟩ = some (.bool a1_0) := (blk_cell BK314.out 0).trans rfl; have hcz35_1 : w33.cell? ⟨gb314, 1, none⟩ = some (.int .i64 a1_1) := (blk_cell BK314.out 1).trans rfl; have hcz35_2 : w33.cell? ⟨gb314, 2, none⟩ = some (.bool a1_2) := (blk_cell BK314.out 2).trans rfl; have hcz35_3 : w33.cell? ⟨gb314, 3, none⟩ = some (.int .i64 a1_3) := (blk_cell BK314.out 3).trans rfl; have hcz35_4 : w33.cell? ⟨gb314, 4, none⟩ = some (.slice A1_4 l1_4.length c1_4) := (blk_cell BK314.out 4).trans rfl; have hfz35_0 := blk_frozen BK314.out 0; have hfz35_1 := blk_frozen BK314.out 1; have hfz35_2 := blk_frozen BK314.out 2; have hfz35_3 := blk_frozen BK314.out 3; have hfz35_4 := blk_frozen BK314.out 4; have hcz36_0 : w33.cell? ⟨gb315, 0, none⟩ = some (.bool a2_0) := (blk_cell BK315.out 0).trans rfl; have hcz36_1 : w33.cell? ⟨gb315, 1, none⟩ = some (.int .i64 a2_1) := (blk_cell BK315.out 1).trans rfl; have hcz36_2 : w33.cell? ⟨gb315, 2, none⟩ = some (.bool a2_2) := (blk_cell BK315.out 2).trans rfl; have hcz36_3 : w33.cell? ⟨gb315, 3, none⟩ = some (.int .i64 a2_3) := (blk_cell BK315.out 3).trans rfl; have hcz36_4 : w33.cell? ⟨gb315, 4, none⟩ = some (.slice A2_4 l2_4.length c2_4) := (blk_cell BK315.out 4).trans rfl; have hfz36_0 := blk_frozen BK315.out 0; have hfz36_1 := blk_frozen BK315.out 1; have hfz36_2 := blk_frozen BK315.out 2; have hfz36_3 := blk_frozen BK315.out 3; have hfz36_4 := blk_frozen BK315.out 4) | (go_at_call 14; (with_reducible refine (phaetonref04_Right.calls k a1_0 a1_1 a1_2 a1_3 _ _ l1_4 true _ ?side1 ?side2 A27.out).mono ?_); (case side1 => repeat (first | exact (Kd.C_below HR1_4.out HB.out) | (with_reducible refine Kd.C_alloc ?_ _) | (with_reducible refine Kd.C_drewN ?_ _) | (with_reducible refine Kd.C_drew ?_))); (case side2 => exact HC1_4.out); rintro e w37 ⟨rfl, hb⟩; have n0_ := Aside0.mk (blk_below (g := gb313) (o := .cells #[.bool a0_0, .int .i64 a0_1, .int .i64 a0_2] 23 (0, 0)) (by (with_reducible repeat (first | refine blk_drewN ?_ _ | refine blk_drew ?_ | refine blk_alloc ?_ _)); exact BK313.out) hb); have n1_ := Aside0.mk (blk_below (g := gb314) (o := .cells #[.bool a1_0, .int .i64 a1_1, .bool a1_2, .int .i64 a1_3, .slice A1_4 l1_4.length c1_4] 27 (0, 0)) (by (with_reducible repeat (first | refine blk_drewN ?_ _ | refine blk_drew ?_ | refine blk_alloc ?_ _)); exact BK314.out) hb); have n2_ := Aside0.mk (blk_below (g := gb315) (o := .cells #[.bool a2_0, .int .i64 a2_1, .bool a2_2, .int .i64 a2_3, .slice A2_4 l2_4.length c2_4] 27 (0, 0)) (by (with_reducible repeat (first | refine blk_drewN ?_ _ | refine blk_drew ?_ | refine blk_alloc ?_ _)); exact BK315.out) hb); have n3_ := Aside0.mk (below_step (by repeat (first | (with_reducible first | exact HB.out | apply below_alloc | apply pw_below_drewN | apply below_drew1 | refine below_set ?_ GE313.out | refine below_set ?_ GE314.out | refine below_set ?_ GE315.out) | exact HB.out)) hb); clear BK313; clear BK314; clear BK315; clear HB; have BK313 := n0_; have BK314 := n1_; have BK315 := n2_; have HB := n3_; clear n0_ n1_ n2_ n3_; (try clear hb); (try clear hb2); (try clear hk); (try clear hi); have hcz38_0 : w37.cell? ⟨gb315, 0, none⟩ = some (.bool a2_0) := (blk_cell BK315.out 0).trans rfl; have hcz38_1 : w37.cell? ⟨gb315, 1, none⟩ = some (.int .i64 a2_1) := (blk_cell BK315.out 1).trans rfl; have hcz38_2 : w37.cell? ⟨gb315, 2, none⟩ = some (.bool a2_2) := (blk_cell BK315.out 2).trans rfl; have hcz38_3 : w37.cell? ⟨gb315, 3, none⟩ = some (.int .i64 a2_3) := (blk_cell BK315.out 3).trans rfl; have hcz38_4 : w37.cell? ⟨gb315, 4, none⟩ = some (.slice A2_4 l2_4.length c2_4) := (blk_cell BK315.out 4).trans rfl; have hfz38_0 := blk_frozen BK315.out 0; have hfz38_1 := blk_frozen BK315.out 1; have hfz38_2 := blk_frozen BK315.out 2; have hfz38_3 := blk_frozen BK315.out 3; have hfz38_4 := blk_frozen BK315.out 4) | (go_at_call 14; (with_reducible refine (phaetonref04_Right.calls k a2_0 a2_1 a2_2 a2_3 _ _ l2_4 t319 _ ?side1 ?side2 A29.out).mono ?_); (case side1 => repeat (first | exact (Kd.C_below HR2_4.out HB.out) | (with_reducible refine Kd.C_alloc ?_ _) | (with_reducible refine Kd.C_drewN ?_ _) | (with_reducible refine Kd.C_drew ?_))); (case side2 => exact HC2_4.out); rintro e w39 ⟨rfl, hb⟩; have n0_ := Aside0.mk (blk_below (g := gb313) (o := .cells #[.bool a0_0, .int .i64 a0_1, .int .i64 a0_2] 23 (0, 0)) (by (with_reducible repeat (first | refine blk_drewN ?_ _ | refine blk_drew ?_ | refine blk_alloc ?_ _)); exact BK313.out) hb); have n1_ := Aside0.mk (blk_below (g := gb314) (o := .cells #[.bool a1_0, .int .i64 a1_1, .bool a1_2, .int .i64 a1_3, .slice A1_4 l1_4.length c1_4] 27 (0, 0)) (by (with_reducible repeat (first | refine blk_drewN ?_ _ | refine blk_drew ?_ | refine blk_alloc ?_ _)); exact BK314.out) hb); have n2_ := Aside0.mk (blk_below (g := gb315) (o := .cells #[.bool a2_0, .int .i64 a2_1, .bool a2_2, .int .i64 a2_3, .slice A2_4 l2_4.length c2_4] 27 (0, 0)) (by (with_reducible repeat (first | refine blk_drewN ?_ _ | refine blk_drew ?_ | refine blk_alloc ?_ _)); exact BK315.out) hb); have n3_ := Aside0.mk (below_step (by repeat (first | (with_reducible first | exact HB.out | apply below_alloc | apply pw_below_drewN | apply below_drew1 | refine below_set ?_ GE313.out | refine below_set ?_ GE314.out | refine below_set ?_ GE315.out) | exact HB.out)) hb); clear BK313; clear BK314; clear BK315; clear HB; have BK313 := n0_; have BK314 := n1_; have BK315 := n2_; have HB := n3_; clear n0_ n1_ n2_ n3_; (try clear hb); (try clear hb2); (try clear hk); (try clear hi)))
            go_meet
            case rel => exact ⟨_, (!t319), (by first | rfl | (simp; done) | (simp [*]; done)), H', ⟨by first | omega | exact Nat.le_refl _⟩, ⟨by (with_reducible repeat (first | refine blk_drewN ?_ _ | refine blk_drew ?_ | refine blk_alloc ?_ _)); exact BK313.out⟩, ⟨by (with_reducible repeat (first | refine blk_drewN ?_ _ | refine blk_drew ?_ | refine blk_alloc ?_ _)); exact BK314.out⟩, ⟨by (with_reducible repeat (first | refine blk_drewN ?_ _ | refine blk_drew ?_ | refine blk_alloc ?_ _)); exact BK315.out⟩, ⟨by repeat (first | (with_reducible first | exact HB.out | apply below_alloc | apply pw_below_drewN | apply below_drew1 | refine below_set ?_ GE313.out | refine below_set ?_ GE314.out | refine below_set ?_ GE315.out) | exact HB.out)⟩⟩
          · replace c28 := Bool.eq_false_iff.mpr c28
            subst c28
            have H1 : (phaetonlaw07_FilterData.j0 k t316 true a0_0 a0_1 a0_2 a1_0 a1_1 a1_2 a1_3 l1_4 a2_0 a2_1 a2_2 a2_3 l2_4) = some r := by rw [if_neg (show ¬ (false = true) by decide)] at H; exact H
            clear H
            have H := H1
            clear H1
            have H' := Aside0.mk H
            clear H
            have hnb40 := NB313_314.out
            have hnc40 := NB314_313.out
            have hnb41 := NB313_315.out
            have hnc41 := NB315_313.out
            have hcz42_0 : w9.cell? ⟨gb313, 0, none⟩ = some (.bool a0_0) := (blk_cell BK313.out 0).trans rfl
            have hcz42_1 : w9.cell? ⟨gb313, 1, none⟩ = some (.int .i64 a0_1) := (blk_cell BK313.out 1).trans rfl
            have hcz42_2 : w9.cell? ⟨gb313, 2, none⟩ = some (.int .i64 a0_2) := (blk_cell BK313.out 2).trans rfl
            have hfz42_0 := blk_frozen BK313.out 0
            have hfz42_1 := blk_frozen BK313.out 1
            have hfz42_2 := blk_frozen BK313.out 2
            go_wp2_with (first | ((with_reducible refine gate_callee (f := 12) rfl ?_); refine goesL_ (some 12) rfl rfl Try.func12 (by kernel_rfl) rfl #[.agg #[.bool a0_0, .int .i64 a0_1, .int .i64 a0_2]] rfl (by (try simp only [List.map_toArray, List.map_cons, List.map_nil]); first | done | rfl | (simp only [List.length_drop, List.length_take]; rfl)) ?_; (with_reducible refine (phaetonref07_Right.calls a0_0 a0_1 a0_2 true _ A10.out).mono ?_); rintro e w43 ⟨rfl, hb⟩; refine ⟨_, rfl, ?_⟩; have n0_ := Aside0.mk (blk_below (g := gb313) (o := .cells #[.bool a0_0, .int .i64 a0_1, .int .i64 a0_2] 23 (0, 0)) (by (with_reducible repeat (first | refine blk_drewN ?_ _ | refine blk_drew ?_ | refine blk_alloc ?_ _)); exact BK313.out) hb); have n1_ := Aside0.mk (blk_below (g := gb314) (o := .cells #[.bool a1_0, .int .i64 a1_1, .bool a1_2, .int .i64 a1_3, .slice A1_4 l1_4.length c1_4] 27 (0, 0)) (by (with_reducible repeat (first | refine blk_drewN ?_ _ | refine blk_drew ?_ | refine blk_alloc ?_ _)); exact BK314.out) hb); have n2_ := Aside0.mk (blk_below (g := gb315) (o := .cells #[.bool a2_0, .int .i64 a2_1, .bool a2_2, .int .i64 a2_3, .slice A2_4 l2_4.length c2_4] 27 (0, 0)) (by (with_reducible repeat (first | refine blk_drewN ?_ _ | refine blk_drew ?_ | refine blk_alloc ?_ _)); exact BK315.out) hb); have n3_ := Aside0.mk (below_step (by repeat (first | (with_reducible first | exact HB.out | apply below_alloc | apply pw_below_drewN | apply below_drew1 | refine below_set ?_ GE313.out | refine below_set ?_ GE314.out | refine below_set ?_ GE315.out) | exact HB.out)) hb); clear BK313; clear BK314; clear BK315; clear HB; have BK313 := n0_; have BK314 := n1_; have BK315 := n2_; have HB := n3_; clear n0_ n1_ n2_ n3_; (try clear hb); (try clear hb2); (try clear hk); (try clear hi); have hnb44 := NB314_315.out; have hnc44 := NB315_314.out; have hcz45_0 : w43.cell? ⟨gb314, 0, none⟩ = some (.bool a1_0) := (blk_cell BK314.out 0).trans rfl; have hcz45_1 : w43.cell? ⟨gb314, 1, none⟩ = some (.int .i64 a1_1) := (blk_cell BK314.out 1).trans rfl; have hcz45_2 : w43.cell? ⟨gb314, 2, none⟩ = some (.bool a1_2) := (blk_cell BK314.out 2).trans rfl; have hcz45_3 : w43.cell? ⟨gb314, 3, none⟩ = some (.int .i64 a1_3) := (blk_cell BK314.out 3).trans rfl; have hcz45_4 : w43.cell? ⟨gb314, 4, none⟩ = some (.slice A1_4 l1_4.length c1_4) := (blk_cell BK314.out 4).trans rfl; have hfz45_0 := blk_frozen BK314.out 0; have hfz45_1 := blk_frozen BK314.out 1; have hfz45_2 := blk_frozen BK314.out 2; have hfz45_3 := blk_frozen BK314.out 3; have hfz45_4 := blk_frozen BK314.out 4; have hcz46_0 : w43.cell? ⟨gb315, 0, none⟩ = some (.bool a2_0) := (blk_cell BK315.out 0).trans rfl; have hcz46_1 : w43.cell? ⟨gb315, 1, none⟩ = some (.int .i64 a2_1) := (blk_cell BK315.out 1).trans rfl; have hcz46_2 : w43.cell? ⟨gb315, 2, none⟩ = some (.bool a2_2) := (blk_cell BK315.out 2).trans rfl; have hcz46_3 : w43.cell? ⟨gb315, 3, none⟩ = some (.int .i64 a2_3) := (blk_cell BK315.out 3).trans rfl; have hcz46_4 : w43.cell? ⟨gb315, 4, none⟩ = some (.slice A2_4 l2_4.length c2_4) := (blk_cell BK315.out 4).trans rfl; have hfz46_0 := blk_frozen BK315.out 0; have hfz46_1 := blk_frozen BK315.out 1; have hfz46_2 := blk_frozen BK315.out 2; have hfz46_3 := blk_frozen BK315.out 3; have hfz46_4 := blk_frozen BK315.out 4) | (go_at_call 14; (with_reducible refine (phaetonref04_Right.calls k a1_0 a1_1 a1_2 a1_3 _ _ l1_4 false _ ?side1 ?side2 A27.out).mono ?_); (case side1 => repeat (first | exact (Kd.C_below HR1_4.out HB.out) | (with_reducible refine Kd.C_alloc ?_ _) | (with_reducible refine Kd.C_drewN ?_ _) | (with_reducible refine Kd.C_drew ?_))); (case side2 => exact HC1_4.out); rintro e w47 ⟨rfl, hb⟩; have n0_ := Aside0.mk (blk_below (g := gb313) (o := .cells #[.bool a0_0, .int .i64 a0_1, .int .i64 a0_2] 23 (0, 0)) (by (with_reducible repeat (first | refine blk_drewN ?_ _ | refine blk_drew ?_ | refine blk_alloc ?_ _)); exact BK313.out) hb); have n1_ := Aside0.mk (blk_below (g := gb314) (o := .cells #[.bool a1_0, .int .i64 a1_1, .bool a1_2, .int .i64 a1_3, .slice A1_4 l1_4.length c1_4] 27 (0, 0)) (by (with_reducible repeat (first | refine blk_drewN ?_ _ | refine blk_drew ?_ | refine blk_alloc ?_ _)); exact BK314.out) hb); have n2_ := Aside0.mk (blk_below (g := gb315) (o := .cells #[.bool a2_0, .int .i64 a2_1, .bool a2_2, .int .i64 a2_3, .slice A2_4 l2_4.length c2_4] 27 (0, 0)) (by (with_reducible repeat (first | refine blk_drewN ?_ _ | refine blk_drew ?_ | refine blk_alloc ?_ _)); exact BK315.out) hb); have n3_ := Aside0.mk (below_step (by repeat (first | (with_reducible first | exact HB.out | apply below_alloc | apply pw_below_drewN | apply below_drew1 | refine below_set ?_ GE313.out | refine below_set ?_ GE314.out | refine below_set ?_ GE315.out) | exact HB.out)) hb); clear BK313; clear BK314; clear BK315; clear HB; have BK313 := n0_; have BK314 := n1_; have BK315 := n2_; have HB := n3_; clear n0_ n1_ n2_ n3_; (try clear hb); (try clear hb2); (try clear hk); (try clear hi)))
            go_meet
            case rel => exact ⟨_, (true), (by first | rfl | (simp; done) | (simp [*]; done)), H', ⟨by first | omega | exact Nat.le_refl _⟩, ⟨by (with_reducible repeat (first | refine blk_drewN ?_ _ | refine blk_drew ?_ | refine blk_alloc ?_ _)); exact BK313.out⟩, ⟨by (with_reducible repeat (first | refine blk_drewN ?_ _ | refine blk_drew ?_ | refine blk_alloc ?_ _)); exact BK314.out⟩, ⟨by (with_reducible repeat (first | refine blk_drewN ?_ _ | refine blk_drew ?_ | refine blk_alloc ?_ _)); exact BK315.out⟩, ⟨by repeat (first | (with_reducible first | exact HB.out | apply below_alloc | apply pw_below_drewN | apply below_drew1 | refine below_set ?_ GE313.out | refine below_set ?_ GE314.out | refine below_set ?_ GE315.out) | exact HB.out)⟩⟩
    · replace c11 := Bool.eq_false_iff.mpr c11
      subst c11
      have H1 : (phaetonlaw07_FilterData.j0 k t316 true a0_0 a0_1 a0_2 a1_0 a1_1 a1_2 a1_3 l1_4 a2_0 a2_1 a2_2 a2_3 l2_4) = some r := by rw [if_neg (show ¬ (false = true) by decide)] at H; exact H
      clear H
      have H := H1
      clear H1
      have H' := Aside0.mk H
      clear H
      have hnb48 := NB313_314.out
      have hnc48 := NB314_313.out
      have hnb49 := NB313_315.out
      have hnc49 := NB315_313.out
      have hcz50_0 : w9.cell? ⟨gb313, 0, none⟩ = some (.bool a0_0) := (blk_cell BK313.out 0).trans rfl
      have hcz50_1 : w9.cell? ⟨gb313, 1, none⟩ = some (.int .i64 a0_1) := (blk_cell BK313.out 1).trans rfl
      have hcz50_2 : w9.cell? ⟨gb313, 2, none⟩ = some (.int .i64 a0_2) := (blk_cell BK313.out 2).trans rfl
      have hfz50_0 := blk_frozen BK313.out 0
      have hfz50_1 := blk_frozen BK313.out 1
      have hfz50_2 := blk_frozen BK313.out 2
      go_wp2_with (first | ((with_reducible refine gate_callee (f := 12) rfl ?_); refine goesL_ (some 12) rfl rfl Try.func12 (by kernel_rfl) rfl #[.agg #[.bool a0_0, .int .i64 a0_1, .int .i64 a0_2]] rfl (by (try simp only [List.map_toArray, List.map_cons, List.map_nil]); first | done | rfl | (simp only [List.length_drop, List.length_take]; rfl)) ?_; (with_reducible refine (phaetonref07_Right.calls a0_0 a0_1 a0_2 false _ A10.out).mono ?_); rintro e w51 ⟨rfl, hb⟩; refine ⟨_, rfl, ?_⟩; have n0_ := Aside0.mk (blk_below (g := gb313) (o := .cells #[.bool a0_0, .int .i64 a0_1, .int .i64 a0_2] 23 (0, 0)) (by (with_reducible repeat (first | refine blk_drewN ?_ _ | refine blk_drew ?_ | refine blk_alloc ?_ _)); exact BK313.out) hb); have n1_ := Aside0.mk (blk_below (g := gb314) (o := .cells #[.bool a1_0, .int .i64 a1_1, .bool a1_2, .int .i64 a1_3, .slice A1_4 l1_4.length c1_4] 27 (0, 0)) (by (with_reducible repeat (first | refine blk_drewN ?_ _ | refine blk_drew ?_ | refine blk_alloc ?_ _)); exact BK314.out) hb); have n2_ := Aside0.mk (blk_below (g := gb315) (o := .cells #[.bool a2_0, .int .i64 a2_1, .bool a2_2, .int .i64 a2_3, .slice A2_4 l2_4.length c2_4] 27 (0, 0)) (by (with_reducible repeat (first | refine blk_drewN ?_ _ | refine blk_drew ?_ | refine blk_alloc ?_ _)); exact BK315.out) hb); have n3_ := Aside0.mk (below_step (by repeat (first | (with_reducible first | exact HB.out | apply below_alloc | apply pw_below_drewN | apply below_drew1 | refine below_set ?_ GE313.out | refine below_set ?_ GE314.out | refine below_set ?_ GE315.out) | exact HB.out)) hb); clear BK313; clear BK314; clear BK315; clear HB; have BK313 := n0_; have BK314 := n1_; have BK315 := n2_; have HB := n3_; clear n0_ n1_ n2_ n3_; (try clear hb); (try clear hb2); (try clear hk); (try clear hi)))
      go_meet
      case rel => exact ⟨_, (true), (by first | rfl | (simp; done) | (simp [*]; done)), H', ⟨by first | omega | exact Nat.le_refl _⟩, ⟨by (with_reducible repeat (first | refine blk_drewN ?_ _ | refine blk_drew ?_ | refine blk_alloc ?_ _)); exact BK313.out⟩, ⟨by (with_reducible repeat (first | refine blk_drewN ?_ _ | refine blk_drew ?_ | refine blk_alloc ?_ _)); exact BK314.out⟩, ⟨by (with_reducible repeat (first | refine blk_drewN ?_ _ | refine blk_drew ?_ | refine blk_alloc ?_ _)); exact BK315.out⟩, ⟨by repeat (first | (with_reducible first | exact HB.out | apply below_alloc | apply pw_below_drewN | apply below_drew1 | refine below_set ?_ GE313.out | refine below_set ?_ GE314.out | refine below_set ?_ GE315.out) | exact HB.out)⟩⟩
  case rest =>
    clear HC5
    try clear c1
    try clear c2
    try clear p2
    try clear c3
    try clear c4
    try clear c8
    try clear c10
    try clear c11
    try clear c12
    try clear c12b0
    try clear c12b1
    try clear c13
    try clear c14
    try clear c17
    try clear c19
    try clear c19b0
    try clear c19b1
    try clear c20
    try clear c21
    try clear c24
    try clear c28
    try clear c30
    try clear c31
    try clear c34
    try clear c40
    try clear c41
    try clear c44
    try clear c48
    try clear c49
    try clear hcz15_0
    try clear hcz15_1
    try clear hcz15_2
    try clear hcz18_0
    try clear hcz18_1
    try clear hcz18_2
    try clear hcz18_3
    try clear hcz18_4
    try clear hcz22_0
    try clear hcz22_1
    try clear hcz22_2
    try clear hcz25_0
    try clear hcz25_1
    try clear hcz25_2
    try clear hcz25_3
    try clear hcz25_4
    try clear hcz26_0
    try clear hcz26_1
    try clear hcz26_2
    try clear hcz26_3
    try clear hcz26_4
    try clear hcz32_0
    try clear hcz32_1
    try clear hcz32_2
    try clear hcz35_0
    try clear hcz35_1
    try clear hcz35_2
    try clear hcz35_3
    try clear hcz35_4
    try clear hcz36_0
    try clear hcz36_1
    try clear hcz36_2
    try clear hcz36_3
    try clear hcz36_4
    try clear hcz38_0
    try clear hcz38_1
    try clear hcz38_2
    try clear hcz38_3
    try clear hcz38_4
    try clear hcz42_0
    try clear hcz42_1
    try clear hcz42_2
    try clear hcz45_0
    try clear hcz45_1
    try clear hcz45_2
    try clear hcz45_3
    try clear hcz45_4
    try clear hcz46_0
    try clear hcz46_1
    try clear hcz46_2
    try clear hcz46_3
    try clear hcz46_4
    try clear hcz50_0
    try clear hcz50_1
    try clear hcz50_2
    try clear hfz15_0
    try clear hfz15_1
    try clear hfz15_2
    try clear hfz18_0
    try clear hfz18_1
    try clear hfz18_2
    try clear hfz18_3
    try clear hfz18_4
    try clear hfz22_0
    try clear hfz22_1
    try clear hfz22_2
    try clear hfz25_0
    try clear hfz25_1
    try clear hfz25_2
    try clear hfz25_3
    try clear hfz25_4
    try clear hfz26_0
    try clear hfz26_1
    try clear hfz26_2
    try clear hfz26_3
    try clear hfz26_4
    try clear hfz32_0
    try clear hfz32_1
    try clear hfz32_2
    try clear hfz35_0
    try clear hfz35_1
    try clear hfz35_2
    try clear hfz35_3
    try clear hfz35_4
    try clear hfz36_0
    try clear hfz36_1
    try clear hfz36_2
    try clear hfz36_3
    try clear hfz36_4
    try clear hfz38_0
    try clear hfz38_1
    try clear hfz38_2
    try clear hfz38_3
    try clear hfz38_4
    try clear hfz42_0
    try clear hfz42_1
    try clear hfz42_2
    try clear hfz45_0
    try clear hfz45_1
    try clear hfz45_2
    try clear hfz45_3
    try clear hfz45_4
    try clear hfz46_0
    try clear hfz46_1
    try clear hfz46_2
    try clear hfz46_3
    try clear hfz46_4
    try clear hfz50_0
    try clear hfz50_1
    try clear hfz50_2
    obtain ⟨kq, x35_4, rfl, HA, HJ4, BK313, BK314, BK315, HB⟩ := hcut
    cases kq with
    | zero => exact absurd HA.out (by simp [phaetonlaw07_FilterData.j0])
    | succ kj4 =>
      have H := HA.out
      clear HA
      simp only [phaetonlaw07_FilterData.j0] at H
      by_cases c52 : x35_4 = true
      · subst c52
        have H1 : (some t316) = some r := by rw [if_pos rfl] at H; exact H
        clear H
        have H := H1
        clear H1
        obtain rfl := Option.some.inj H
        go_wp2
        go_ret
        exact ⟨by first | rfl | (simp [errW_none, errW_some] <;> rfl) | (simp [*, errW_none, errW_some] <;> rfl), by repeat (first | (with_reducible first | exact HB.out | apply below_alloc | apply pw_below_drewN | apply below_drew1 | refine below_set ?_ GE313.out | refine below_set ?_ GE314.out | refine below_set ?_ GE315.out) | exact HB.out)⟩
      · replace c52 := Bool.eq_false_iff.mpr c52
        subst c52
        have H1 : (if a1_0 = true then (phaetonlaw07_FilterData.j1 kj4 t316 a0_0 a0_1 a0_2 a1_0 a1_1 a1_2 a1_3 l1_4 a2_0 a2_1 a2_2 a2_3 l2_4 a1_0 a1_1 a2_2 a2_3 l2_4 a1_0 536870911 a1_1) else (phaetonlaw07_FilterData.j1 kj4 t316 a0_0 a0_1 a0_2 a1_0 a1_1 a1_2 a1_3 l1_4 a2_0 a2_1 a2_2 a2_3 l2_4 a1_0 a1_1 a2_2 a2_3 l2_4 a1_0 2047 a1_1)) = some r := by rw [if_neg (show ¬ (false = true) by decide)] at H; exact H
        clear H
        have H := H1
        clear H1
        have HC53 := Aside0.mk H
        clear H
        have hnb54 := NB315_313.out
        have hnc54 := NB313_315.out
        have hnb55 := NB315_314.out
        have hnc55 := NB314_315.out
        have hcz56_0 : wc.cell? ⟨gb315, 0, none⟩ = some (.bool a2_0) := (blk_cell BK315.out 0).trans rfl
        have hcz56_1 : wc.cell? ⟨gb315, 1, none⟩ = some (.int .i64 a2_1) := (blk_cell BK315.out 1).trans rfl
        have hcz56_2 : wc.cell? ⟨gb315, 2, none⟩ = some (.bool a2_2) := (blk_cell BK315.out 2).trans rfl
        have hcz56_3 : wc.cell? ⟨gb315, 3, none⟩ = some (.int .i64 a2_3) := (blk_cell BK315.out 3).trans rfl
        have hcz56_4 : wc.cell? ⟨gb315, 4, none⟩ = some (.slice A2_4 l2_4.length c2_4) := (blk_cell BK315.out 4).trans rfl
        have hfz56_0 := blk_frozen BK315.out 0
        have hfz56_1 := blk_frozen BK315.out 1
        have hfz56_2 := blk_frozen BK315.out 2
        have hfz56_3 := blk_frozen BK315.out 3
        have hfz56_4 := blk_frozen BK315.out 4
        go_upto_if 50 with (first | ((with_reducible refine gate_dst (N := 8) rfl ?_); (try (refine gate_guard (by rfl) ?_; dsimp only)); refine box_event ?hg (N := 8) ?hd (cs := #[.bool false, .int .i64 0, .bool false, .int .i64 0, .slice none 0 0]) (t := 27) ?hr ?_; (case hd => rfl); (case hg => rfl); (case hr => first | (go_simp; done) | (go_simp; rfl)); intro gb320 hg w57 hbox hb; have n0_ := Aside0.mk (blk_below (g := gb313) (o := .cells #[.bool a0_0, .int .i64 a0_1, .int .i64 a0_2] 23 (0, 0)) (by (with_reducible repeat (first | refine blk_drewN ?_ _ | refine blk_drew ?_ | refine blk_alloc ?_ _)); exact BK313.out) hb); have n1_ := Aside0.mk (blk_below (g := gb314) (o := .cells #[.bool a1_0, .int .i64 a1_1, .bool a1_2, .int .i64 a1_3, .slice A1_4 l1_4.length c1_4] 27 (0, 0)) (by (with_reducible repeat (first | refine blk_drewN ?_ _ | refine blk_drew ?_ | refine blk_alloc ?_ _)); exact BK314.out) hb); have n2_ := Aside0.mk (blk_below (g := gb315) (o := .cells #[.bool a2_0, .int .i64 a2_1, .bool a2_2, .int .i64 a2_3, .slice A2_4 l2_4.length c2_4] 27 (0, 0)) (by (with_reducible repeat (first | refine blk_drewN ?_ _ | refine blk_drew ?_ | refine blk_alloc ?_ _)); exact BK315.out) hb); have n3_ := Aside0.mk (below_step (by repeat (first | (with_reducible first | exact HB.out | apply below_alloc | apply pw_below_drewN | apply below_drew1 | refine below_set ?_ GE313.out | refine below_set ?_ GE314.out | refine below_set ?_ GE315.out) | exact HB.out)) hb); have n4_ := Aside0.mk (hbox); have n5_ := Aside0.mk ((by rw [hg]; exact (below_size (by repeat (first | (with_reducible first | exact HB.out | apply below_alloc | apply pw_below_drewN | apply below_drew1 | refine below_set ?_ GE313.out | refine below_set ?_ GE314.out | refine below_set ?_ GE315.out) | exact HB.out))) : w.heap.size ≤ gb320)); have n6_ := Aside0.mk ((by rw [hg]; exact (below_size (by repeat (first | (with_reducible first | exact HB.out | apply below_alloc | apply pw_below_drewN | apply below_drew1 | refine below_set ?_ GE313.out | refine below_set ?_ GE314.out | refine below_set ?_ GE315.out) | exact HB.out))) : w.heap.size ≤ gb320)); have n7_ := Aside0.mk ((by rw [hg]; exact Nat.ne_of_lt (blk_lt (g := gb313) (o := .cells #[.bool a0_0, .int .i64 a0_1, .int .i64 a0_2] 23 (0, 0)) (by (with_reducible repeat (first | refine blk_drewN ?_ _ | refine blk_drew ?_ | refine blk_alloc ?_ _)); exact BK313.out)) : gb313 ≠ gb320)); have n8_ := Aside0.mk ((by rw [hg]; exact Nat.ne_of_gt (blk_lt (g := gb313) (o := .cells #[.bool a0_0, .int .i64 a0_1, .int .i64 a0_2] 23 (0, 0)) (by (with_reducible repeat (first | refine blk_drewN ?_ _ | refine blk_drew ?_ | refine blk_alloc ?_ _)); exact BK313.out)) : gb320 ≠ gb313)); have n9_ := Aside0.mk ((by rw [hg]; exact Nat.ne_of_lt (blk_lt (g := gb314) (o := .cells #[.bool a1_0, .int .i64 a1_1, .bool a1_2, .int .i64 a1_3, .slice A1_4 l1_4.length c1_4] 27 (0, 0)) (by (with_reducible repeat (first | refine blk_drewN ?_ _ | refine blk_drew ?_ | refine blk_alloc ?_ _)); exact BK314.out)) : gb314 ≠ gb320)); have n10_ := Aside0.mk ((by rw [hg]; exact Nat.ne_of_gt (blk_lt (g := gb314) (o := .cells #[.bool a1_0, .int .i64 a1_1, .bool a1_2, .int .i64 a1_3, .slice A1_4 l1_4.length c1_4] 27 (0, 0)) (by (with_reducible repeat (first | refine blk_drewN ?_ _ | refine blk_drew ?_ | refine blk_alloc ?_ _)); exact BK314.out)) : gb320 ≠ gb314)); have n11_ := Aside0.mk ((by rw [hg]; exact Nat.ne_of_lt (blk_lt (g := gb315) (o := .cells #[.bool a2_0, .int .i64 a2_1, .bool a2_2, .int .i64 a2_3, .slice A2_4 l2_4.length c2_4] 27 (0, 0)) (by (with_reducible repeat (first | refine blk_drewN ?_ _ | refine blk_drew ?_ | refine blk_alloc ?_ _)); exact BK315.out)) : gb315 ≠ gb320)); have n12_ := Aside0.mk ((by rw [hg]; exact Nat.ne_of_gt (blk_lt (g := gb315) (o := .cells #[.bool a2_0, .int .i64 a2_1, .bool a2_2, .int .i64 a2_3, .slice A2_4 l2_4.length c2_4] 27 (0, 0)) (by (with_reducible repeat (first | refine blk_drewN ?_ _ | refine blk_drew ?_ | refine blk_alloc ?_ _)); exact BK315.out)) : gb320 ≠ gb315)); clear BK313; clear BK314; clear BK315; clear HB; have BK313 := n0_; have BK314 := n1_; have BK315 := n2_; have HB := n3_; have BK320 := n4_; have GW320 := n5_; have GE320 := n6_; have NB313_320 := n7_; have NB320_313 := n8_; have NB314_320 := n9_; have NB320_314 := n10_; have NB315_320 := n11_; have NB320_315 := n12_; clear n0_ n1_ n2_ n3_ n4_ n5_ n6_ n7_ n8_ n9_ n10_ n11_ n12_; clear hb hbox hg; have hnb58 := NB320_313.out; have hnc58 := NB313_320.out; have hnb59 := NB320_314.out; have hnc59 := NB314_320.out; have hnb60 := NB320_315.out; have hnc60 := NB315_320.out; have hcz61_0 : w57.cell? ⟨gb320, 0, none⟩ = some (.bool false) := (blk_cell BK320.out 0).trans rfl; have hcz61_1 : w57.cell? ⟨gb320, 1, none⟩ = some (.int .i64 0) := (blk_cell BK320.out 1).trans rfl; have hcz61_2 : w57.cell? ⟨gb320, 2, none⟩ = some (.bool false) := (blk_cell BK320.out 2).trans rfl; have hcz61_3 : w57.cell? ⟨gb320, 3, none⟩ = some (.int .i64 0) := (blk_cell BK320.out 3).trans rfl; have hcz61_4 : w57.cell? ⟨gb320, 4, none⟩ = some (.slice none 0 0) := (blk_cell BK320.out 4).trans rfl; have hfz61_0 := blk_frozen BK320.out 0; have hfz61_1 := blk_frozen BK320.out 1; have hfz61_2 := blk_frozen BK320.out 2; have hfz61_3 := blk_frozen BK320.out 3; have hfz61_4 := blk_frozen BK320.out 4; have hnb62 := NB314_313.out; have hnc62 := NB313_314.out; have hcz63_0 : w57.cell? ⟨gb314, 0, none⟩ = some (.bool a1_0) := (blk_cell BK314.out 0).trans rfl; have hcz63_1 : w57.cell? ⟨gb314, 1, none⟩ = some (.int .i64 a1_1) := (blk_cell BK314.out 1).trans rfl; have hcz63_2 : w57.cell? ⟨gb314, 2, none⟩ = some (.bool a1_2) := (blk_cell BK314.out 2).trans rfl; have hcz63_3 : w57.cell? ⟨gb314, 3, none⟩ = some (.int .i64 a1_3) := (blk_cell BK314.out 3).trans rfl; have hcz63_4 : w57.cell? ⟨gb314, 4, none⟩ = some (.slice A1_4 l1_4.length c1_4) := (blk_cell BK314.out 4).trans rfl; have hfz63_0 := blk_frozen BK314.out 0; have hfz63_1 := blk_frozen BK314.out 1; have hfz63_2 := blk_frozen BK314.out 2; have hfz63_3 := blk_frozen BK314.out 3; have hfz63_4 := blk_frozen BK314.out 4) | ((with_reducible refine gate_dst (N := 9) rfl ?_); (try (refine gate_guard (by rfl) ?_; dsimp only)); refine box_event ?hg (N := 9) ?hd (cs := #[.bool false, .int .i64 0, .int .i64 0]) (t := 23) ?hr ?_; (case hd => rfl); (case hg => rfl); (case hr => first | (go_simp; done) | (go_simp; rfl)); intro gb321 hg w64 hbox hb; have n0_ := Aside0.mk (blk_below (g := gb313) (o := .cells #[.bool a0_0, .int .i64 a0_1, .int .i64 a0_2] 23 (0, 0)) (by (with_reducible repeat (first | refine blk_drewN ?_ _ | refine blk_drew ?_ | refine blk_alloc ?_ _)); refine blk_far ?_ NB313_320.out _; (with_reducible repeat (first | refine blk_drewN ?_ _ | refine blk_drew ?_ | refine blk_alloc ?_ _)); refine blk_far ?_ NB313_320.out _; (with_reducible repeat (first | refine blk_drewN ?_ _ | refine blk_drew ?_ | refine blk_alloc ?_ _)); refine blk_far ?_ NB313_320.out _; (with_reducible repeat (first | refine blk_drewN ?_ _ | refine blk_drew ?_ | refine blk_alloc ?_ _)); refine blk_far ?_ NB313_320.out _; (with_reducible repeat (first | refine blk_drewN ?_ _ | refine blk_drew ?_ | refine blk_alloc ?_ _)); refine blk_far ?_ NB313_320.out _; (with_reducible repeat (first | refine blk_drewN ?_ _ | refine blk_drew ?_ | refine blk_alloc ?_ _)); refine blk_far ?_ NB313_320.out _; (with_reducible repeat (first | refine blk_drewN ?_ _ | refine blk_drew ?_ | refine blk_alloc ?_ _)); refine blk_far ?_ NB313_320.out _; (with_reducible repeat (first | refine blk_drewN ?_ _ | refine blk_drew ?_ | refine blk_alloc ?_ _)); exact BK313.out) hb); have n1_ := Aside0.mk (blk_below (g := gb314) (o := .cells #[.bool a1_0, .int .i64 a1_1, .bool a1_2, .int .i64 a1_3, .slice A1_4 l1_4.length c1_4] 27 (0, 0)) (by (with_reducible repeat (first | refine blk_drewN ?_ _ | refine blk_drew ?_ | refine blk_alloc ?_ _)); refine blk_far ?_ NB314_320.out _; (with_reducible repeat (first | refine blk_drewN ?_ _ | refine blk_drew ?_ | refine blk_alloc ?_ _)); refine blk_far ?_ NB314_320.out _; (with_reducible repeat (first | refine blk_drewN ?_ _ | refine blk_drew ?_ | refine blk_alloc ?_ _)); refine blk_far ?_ NB314_320.out _; (with_reducible repeat (first | refine blk_drewN ?_ _ | refine blk_drew ?_ | refine blk_alloc ?_ _)); refine blk_far ?_ NB314_320.out _; (with_reducible repeat (first | refine blk_drewN ?_ _ | refine blk_drew ?_ | refine blk_alloc ?_ _)); refine blk_far ?_ NB314_320.out _; (with_reducible repeat (first | refine blk_drewN ?_ _ | refine blk_drew ?_ | refine blk_alloc ?_ _)); refine blk_far ?_ NB314_320.out _; (with_reducible repeat (first | refine blk_drewN ?_ _ | refine blk_drew ?_ | refine blk_alloc ?_ _)); refine blk_far ?_ NB314_320.out _; (with_reducible repeat (first | refine blk_drewN ?_ _ | refine blk_drew ?_ | refine blk_alloc ?_ _)); exact BK314.out) hb); have n2_ := Aside0.mk (blk_below (g := gb315) (o := .cells #[.bool a2_0, .int .i64 a2_1, .bool a2_2, .int .i64 a2_3, .slice A2_4 l2_4.length c2_4] 27 (0, 0)) (by (with_reducible repeat (first | refine blk_drewN ?_ _ | refine blk_drew ?_ | refine blk_alloc ?_ _)); refine blk_far ?_ NB315_320.out _; (with_reducible repeat (first | refine blk_drewN ?_ _ | refine blk_drew ?_ | refine blk_alloc ?_ _)); refine blk_far ?_ NB315_320.out _; (with_reducible repeat (first | refine blk_drewN ?_ _ | refine blk_drew ?_ | refine blk_alloc ?_ _)); refine blk_far ?_ NB315_320.out _; (with_reducible repeat (first | refine blk_drewN ?_ _ | refine blk_drew ?_ | refine blk_alloc ?_ _)); refine blk_far ?_ NB315_320.out _; (with_reducible repeat (first | refine blk_drewN ?_ _ | refine blk_drew ?_ | refine blk_alloc ?_ _)); refine blk_far ?_ NB315_320.out _; (with_reducible repeat (first | refine blk_drewN ?_ _ | refine blk_drew ?_ | refine blk_alloc ?_ _)); refine blk_far ?_ NB315_320.out _; (with_reducible repeat (first | refine blk_drewN ?_ _ | refine blk_drew ?_ | refine blk_alloc ?_ _)); refine blk_far ?_ NB315_320.out _; (with_reducible repeat (first | refine blk_drewN ?_ _ | refine blk_drew ?_ | refine blk_alloc ?_ _)); exact BK315.out) hb); have n3_ := Aside0.mk (blk_below (g := gb320) (o := .cells #[.bool a1_0, .int .i64 a1_1, .bool a2_2, .int .i64 a2_3, .slice A2_4 l2_4.length c2_4] 27 (0, 0)) (by (with_reducible repeat (first | refine blk_drewN ?_ _ | refine blk_drew ?_ | refine blk_alloc ?_ _)); refine blk_put (cs := #[.bool a1_0, .int .i64 a2_1, .bool a2_2, .int .i64 a2_3, .slice A2_4 l2_4.length c2_4]) ?_ 1 _ rfl; (with_reducible repeat (first | refine blk_drewN ?_ _ | refine blk_drew ?_ | refine blk_alloc ?_ _)); refine blk_put (cs := #[.bool a2_0, .int .i64 a2_1, .bool a2_2, .int .i64 a2_3, .slice A2_4 l2_4.length c2_4]) ?_ 0 _ rfl; (with_reducible repeat (first | refine blk_drewN ?_ _ | refine blk_drew ?_ | refine blk_alloc ?_ _)); refine blk_put (cs := #[.bool a2_0, .int .i64 a2_1, .bool a2_2, .int .i64 a2_3, .slice none 0 0]) ?_ 4 _ rfl; (with_reducible repeat (first | refine blk_drewN ?_ _ | refine blk_drew ?_ | refine blk_alloc ?_ _)); refine blk_put (cs := #[.bool a2_0, .int .i64 a2_1, .bool a2_2, .int .i64 0, .slice none 0 0]) ?_ 3 _ rfl; (with_reducible repeat (first | refine blk_drewN ?_ _ | refine blk_drew ?_ | refine blk_alloc ?_ _)); refine blk_put (cs := #[.bool a2_0, .int .i64 a2_1, .bool false, .int .i64 0, .slice none 0 0]) ?_ 2 _ rfl; (with_reducible repeat (first | refine blk_drewN ?_ _ | refine blk_drew ?_ | refine blk_alloc ?_ _)); refine blk_put (cs := #[.bool a2_0, .int .i64 0, .bool false, .int .i64 0, .slice none 0 0]) ?_ 1 _ rfl; (with_reducible repeat (first | refine blk_drewN ?_ _ | refine blk_drew ?_ | refine blk_alloc ?_ _)); refine blk_put (cs := #[.bool false, .int .i64 0, .bool false, .int .i64 0, .slice none 0 0]) ?_ 0 _ rfl; (with_reducible repeat (first | refine blk_drewN ?_ _ | refine blk_drew ?_ | refine blk_alloc ?_ _)); exact BK320.out) hb); have n4_ := Aside0.mk (below_step (by repeat (first | (with_reducible first | exact HB.out | apply below_alloc | apply pw_below_drewN | apply below_drew1 | refine below_set ?_ GE313.out | refine below_set ?_ GE314.out | refine below_set ?_ GE315.out | refine below_set ?_ GE320.out) | exact HB.out)) hb); have n5_ := Aside0.mk (hbox); have n6_ := Aside0.mk ((by rw [hg]; exact (below_size (by repeat (first | (with_reducible first | exact HB.out | apply below_alloc | apply pw_below_drewN | apply below_drew1 | refine below_set ?_ GE313.out | refine below_set ?_ GE314.out | refine below_set ?_ GE315.out | refine below_set ?_ GE320.out) | exact HB.out))) : w.heap.size ≤ gb321)); have n7_ := Aside0.mk ((by rw [hg]; exact (below_size (by repeat (first | (with_reducible first | exact HB.out | apply below_alloc | apply pw_below_drewN | apply below_drew1 | refine below_set ?_ GE313.out | refine below_set ?_ GE314.out | refine below_set ?_ GE315.out | refine below_set ?_ GE320.out) | exact HB.out))) : w.heap.size ≤ gb321)); have n8_ := Aside0.mk ((by rw [hg]; exact Nat.ne_of_lt (blk_lt (g := gb313) (o := .cells #[.bool a0_0, .int .i64 a0_1, .int .i64 a0_2] 23 (0, 0)) (by (with_reducible repeat (first | refine blk_drewN ?_ _ | refine blk_drew ?_ | refine blk_alloc ?_ _)); refine blk_far ?_ NB313_320.out _; (with_reducible repeat (first | refine blk_drewN ?_ _ | refine blk_drew ?_ | refine blk_alloc ?_ _)); refine blk_far ?_ NB313_320.out _; (with_reducible repeat (first | refine blk_drewN ?_ _ | refine blk_drew ?_ | refine blk_alloc ?_ _)); refine blk_far ?_ NB313_320.out _; (with_reducible repeat (first | refine blk_drewN ?_ _ | refine blk_drew ?_ | refine blk_alloc ?_ _)); refine blk_far ?_ NB313_320.out _; (with_reducible repeat (first | refine blk_drewN ?_ _ | refine blk_drew ?_ | refine blk_alloc ?_ _)); refine blk_far ?_ NB313_320.out _; (with_reducible repeat (first | refine blk_drewN ?_ _ | refine blk_drew ?_ | refine blk_alloc ?_ _)); refine blk_far ?_ NB313_320.out _; (with_reducible repeat (first | refine blk_drewN ?_ _ | refine blk_drew ?_ | refine blk_alloc ?_ _)); refine blk_far ?_ NB313_320.out _; (with_reducible repeat (first | refine blk_drewN ?_ _ | refine blk_drew ?_ | refine blk_alloc ?_ _)); exact BK313.out)) : gb313 ≠ gb321)); have n9_ := Aside0.mk ((by rw [hg]; exact Nat.ne_of_gt (blk_lt (g := gb313) (o := .cells #[.bool a0_0, .int .i64 a0_1, .int .i64 a0_2] 23 (0, 0)) (by (with_reducible repeat (first | refine blk_drewN ?_ _ | refine blk_drew ?_ | refine blk_alloc ?_ _)); refine blk_far ?_ NB313_320.out _; (with_reducible repeat (first | refine blk_drewN ?_ _ | refine blk_drew ?_ | refine blk_alloc ?_ _)); refine blk_far ?_ NB313_320.out _; (with_reducible repeat (first | refine blk_drewN ?_ _ | refine blk_drew ?_ | refine blk_alloc ?_ _)); refine blk_far ?_ NB313_320.out _; (with_reducible repeat (first | refine blk_drewN ?_ _ | refine blk_drew ?_ | refine blk_alloc ?_ _)); refine blk_far ?_ NB313_320.out _; (with_reducible repeat (first | refine blk_drewN ?_ _ | refine blk_drew ?_ | refine blk_alloc ?_ _)); refine blk_far ?_ NB313_320.out _; (with_reducible repeat (first | refine blk_drewN ?_ _ | refine blk_drew ?_ | refine blk_alloc ?_ _)); refine blk_far ?_ NB313_320.out _; (with_reducible repeat (first | refine blk_drewN ?_ _ | refine blk_drew ?_ | refine blk_alloc ?_ _)); refine blk_far ?_ NB313_320.out _; (with_reducible repeat (first | refine blk_drewN ?_ _ | refine blk_drew ?_ | refine blk_alloc ?_ _)); exact BK313.out)) : gb321 ≠ gb313)); have n10_ := Aside0.mk ((by rw [hg]; exact Nat.ne_of_lt (blk_lt (g := gb314) (o := .cells #[.bool a1_0, .int .i64 a1_1, .bool a1_2, .int .i64 a1_3, .slice A1_4 l1_4.length c1_4] 27 (0, 0)) (by (with_reducible repeat (first | refine blk_drewN ?_ _ | refine blk_drew ?_ | refine blk_alloc ?_ _)); refine blk_far ?_ NB314_320.out _; (with_reducible repeat (first | refine blk_drewN ?_ _ | refine blk_drew ?_ | refine blk_alloc ?_ _)); refine blk_far ?_ NB314_320.out _; (with_reducible repeat (first | refine blk_drewN ?_ _ | refine blk_drew ?_ | refine blk_alloc ?_ _)); refine blk_far ?_ NB314_320.out _; (with_reducible repeat (first | refine blk_drewN ?_ _ | refine blk_drew ?_ | refine blk_alloc ?_ _)); refine blk_far ?_ NB314_320.out _; (with_reducible repeat (first | refine blk_drewN ?_ _ | refine blk_drew ?_ | refine blk_alloc ?_ _)); refine blk_far ?_ NB314_320.out _; (with_reducible repeat (first | refine blk_drewN ?_ _ | refine blk_drew ?_ | refine blk_alloc ?_ _)); refine blk_far ?_ NB314_320.out _; (with_reducible repeat (first | refine blk_drewN ?_ _ | refine blk_drew ?_ | refine blk_alloc ?_ _)); refine blk_far ?_ NB314_320.out _; (with_reducible repeat (first | refine blk_drewN ?_ _ | refine blk_drew ?_ | refine blk_alloc ?_ _)); exact BK314.out)) : gb314 ≠ gb321)); have n11_ := Aside0.mk ((by rw [hg]; exact Nat.ne_of_gt (blk_lt (g := gb314) (o := .cells #[.bool a1_0, .int .i64 a1_1, .bool a1_2, .int .i64 a1_3, .slice A1_4 l1_4.length c1_4] 27 (0, 0)) (by (with_reducible repeat (first | refine blk_drewN ?_ _ | refine blk_drew ?_ | refine blk_alloc ?_ _)); refine blk_far ?_ NB314_320.out _; (with_reducible repeat (first | refine blk_drewN ?_ _ | refine blk_drew ?_ | refine blk_alloc ?_ _)); refine blk_far ?_ NB314_320.out _; (with_reducible repeat (first | refine blk_drewN ?_ _ | refine blk_drew ?_ | refine blk_alloc ?_ _)); refine blk_far ?_ NB314_320.out _; (with_reducible repeat (first | refine blk_drewN ?_ _ | refine blk_drew ?_ | refine blk_alloc ?_ _)); refine blk_far ?_ NB314_320.out _; (with_reducible repeat (first | refine blk_drewN ?_ _ | refine blk_drew ?_ | refine blk_alloc ?_ _)); refine blk_far ?_ NB314_320.out _; (with_reducible repeat (first | refine blk_drewN ?_ _ | refine blk_drew ?_ | refine blk_alloc ?_ _)); refine blk_far ?_ NB314_320.out _; (with_reducible repeat (first | refine blk_drewN ?_ _ | refine blk_drew ?_ | refine blk_alloc ?_ _)); refine blk_far ?_ NB314_320.out _; (with_reducible repeat (first | refine blk_drewN ?_ _ | refine blk_drew ?_ | refine blk_alloc ?_ _)); exact BK314.out)) : gb321 ≠ gb314)); have n12_ := Aside0.mk ((by rw [hg]; exact Nat.ne_of_lt (blk_lt (g := gb315) (o := .cells #[.bool a2_0, .int .i64 a2_1, .bool a2_2, .int .i64 a2_3, .slice A2_4 l2_4.length c2_4] 27 (0, 0)) (by (with_reducible repeat (first | refine blk_drewN ?_ _ | refine blk_drew ?_ | refine blk_alloc ?_ _)); refine blk_far ?_ NB315_320.out _; (with_reducible repeat (first | refine blk_drewN ?_ _ | refine blk_drew ?_ | refine blk_alloc ?_ _)); refine blk_far ?_ NB315_320.out _; (with_reducible repeat (first | refine blk_drewN ?_ _ | refine blk_drew ?_ | refine blk_alloc ?_ _)); refine blk_far ?_ NB315_320.out _; (with_reducible repeat (first | refine blk_drewN ?_ _ | refine blk_drew ?_ | refine blk_alloc ?_ _)); refine blk_far ?_ NB315_320.out _; (with_reducible repeat (first | refine blk_drewN ?_ _ | refine blk_drew ?_ | refine blk_alloc ?_ _)); refine blk_far ?_ NB315_320.out _; (with_reducible repeat (first | refine blk_drewN ?_ _ | refine blk_drew ?_ | refine blk_alloc ?_ _)); refine blk_far ?_ NB315_320.out _; (with_reducible repeat (first | refine blk_drewN ?_ _ | refine blk_drew ?_ | refine blk_alloc ?_ _)); refine blk_far ?_ NB315_320.out _; (with_reducible repeat (first | refine blk_drewN ?_ _ | refine blk_drew ?_ | refine blk_alloc ?_ _)); exact BK315.out)) : gb315 ≠ gb321)); have n13_ := Aside0.mk ((by rw [hg]; exact Nat.ne_of_gt (blk_lt (g := gb315) (o := .cells #[.bool a2_0, .int .i64 a2_1, .bool a2_2, .int .i64 a2_3, .slice A2_4 l2_4.length c2_4] 27 (0, 0)) (by (with_reducible repeat (first | refine blk_drewN ?_ _ | refine blk_drew ?_ | refine blk_alloc ?_ _)); refine blk_far ?_ NB315_320.out _; (with_reducible repeat (first | refine blk_drewN ?_ _ | refine blk_drew ?_ | refine blk_alloc ?_ _)); refine blk_far ?_ NB315_320.out _; (with_reducible repeat (first | refine blk_drewN ?_ _ | refine blk_drew ?_ | refine blk_alloc ?_ _)); refine blk_far ?_ NB315_320.out _; (with_reducible repeat (first | refine blk_drewN ?_ _ | refine blk_drew ?_ | refine blk_alloc ?_ _)); refine blk_far ?_ NB315_320.out _; (with_reducible repeat (first | refine blk_drewN ?_ _ | refine blk_drew ?_ | refine blk_alloc ?_ _)); refine blk_far ?_ NB315_320.out _; (with_reducible repeat (first | refine blk_drewN ?_ _ | refine blk_drew ?_ | refine blk_alloc ?_ _)); refine blk_far ?_ NB315_320.out _; (with_reducible repeat (first | refine blk_drewN ?_ _ | refine blk_drew ?_ | refine blk_alloc ?_ _)); refine blk_far ?_ NB315_320.out _; (with_reducible repeat (first | refine blk_drewN ?_ _ | refine blk_drew ?_ | refine blk_alloc ?_ _)); exact BK315.out)) : gb321 ≠ gb315)); have n14_ := Aside0.mk ((by rw [hg]; exact Nat.ne_of_lt (blk_lt (g := gb320) (o := .cells #[.bool a1_0, .int .i64 a1_1, .bool a2_2, .int .i64 a2_3, .slice A2_4 l2_4.length c2_4] 27 (0, 0)) (by (with_reducible repeat (first | refine blk_drewN ?_ _ | refine blk_drew ?_ | refine blk_alloc ?_ _)); refine blk_put (cs := #[.bool a1_0, .int .i64 a2_1, .bool a2_2, .int .i64 a2_3, .slice A2_4 l2_4.length c2_4]) ?_ 1 _ rfl; (with_reducible repeat (first | refine blk_drewN ?_ _ | refine blk_drew ?_ | refine blk_alloc ?_ _)); refine blk_put (cs := #[.bool a2_0, .int .i64 a2_1, .bool a2_2, .int .i64 a2_3, .slice A2_4 l2_4.length c2_4]) ?_ 0 _ rfl; (with_reducible repeat (first | refine blk_drewN ?_ _ | refine blk_drew ?_ | refine blk_alloc ?_ _)); refine blk_put (cs := #[.bool a2_0, .int .i64 a2_1, .bool a2_2, .int .i64 a2_3, .slice none 0 0]) ?_ 4 _ rfl; (with_reducible repeat (first | refine blk_drewN ?_ _ | refine blk_drew ?_ | refine blk_alloc ?_ _)); refine blk_put (cs := #[.bool a2_0, .int .i64 a2_1, .bool a2_2, .int .i64 0, .slice none 0 0]) ?_ 3 _ rfl; (with_reducible repeat (first | refine blk_drewN ?_ _ | refine blk_drew ?_ | refine blk_alloc ?_ _)); refine blk_put (cs := #[.bool a2_0, .int .i64 a2_1, .bool false, .int .i64 0, .slice none 0 0]) ?_ 2 _ rfl; (with_reducible repeat (first | refine blk_drewN ?_ _ | refine blk_drew ?_ | refine blk_alloc ?_ _)); refine blk_put (cs := #[.bool a2_0, .int .i64 0, .bool false, .int .i64 0, .slice none 0 0]) ?_ 1 _ rfl; (with_reducible repeat (first | refine blk_drewN ?_ _ | refine blk_drew ?_ | refine blk_alloc ?_ _)); refine blk_put (cs := #[.bool false, .int .i64 0, .bool false, .int .i64 0, .slice none 0 0]) ?_ 0 _ rfl; (with_reducible repeat (first | refine blk_drewN ?_ _ | refine blk_drew ?_ | refine blk_alloc ?_ _)); exact BK320.out)) : gb320 ≠ gb321)); have n15_ := Aside0.mk ((by rw [hg]; exact Nat.ne_of_gt (blk_lt (g := gb320) (o := .cells #[.bool a1_0, .int .i64 a1_1, .bool a2_2, .int .i64 a2_3, .slice A2_4 l2_4.length c2_4] 27 (0, 0)) (by (with_reducible repeat (first | refine blk_drewN ?_ _ | refine blk_drew ?_ | refine blk_alloc ?_ _)); refine blk_put (cs := #[.bool a1_0, .int .i64 a2_1, .bool a2_2, .int .i64 a2_3, .slice A2_4 l2_4.length c2_4]) ?_ 1 _ rfl; (with_reducible repeat (first | refine blk_drewN ?_ _ | refine blk_drew ?_ | refine blk_alloc ?_ _)); refine blk_put (cs := #[.bool a2_0, .int .i64 a2_1, .bool a2_2, .int .i64 a2_3, .slice A2_4 l2_4.length c2_4]) ?_ 0 _ rfl; (with_reducible repeat (first | refine blk_drewN ?_ _ | refine blk_drew ?_ | refine blk_alloc ?_ _)); refine blk_put (cs := #[.bool a2_0, .int .i64 a2_1, .bool a2_2, .int .i64 a2_3, .slice none 0 0]) ?_ 4 _ rfl; (with_reducible repeat (first | refine blk_drewN ?_ _ | refine blk_drew ?_ | refine blk_alloc ?_ _)); refine blk_put (cs := #[.bool a2_0, .int .i64 a2_1, .bool a2_2, .int .i64 0, .slice none 0 0]) ?_ 3 _ rfl; (with_reducible repeat (first | refine blk_drewN ?_ _ | refine blk_drew ?_ | refine blk_alloc ?_ _)); refine blk_put (cs := #[.bool a2_0, .int .i64 a2_1, .bool false, .int .i64 0, .slice none 0 0]) ?_ 2 _ rfl; (with_reducible repeat (first | refine blk_drewN ?_ _ | refine blk_drew ?_ | refine blk_alloc ?_ _)); refine blk_put (cs := #[.bool a2_0, .int .i64 0, .bool false, .int .i64 0, .slice none 0 0]) ?_ 1 _ rfl; (with_reducible repeat (first | refine blk_drewN ?_ _ | refine blk_drew ?_ | refine blk_alloc ?_ _)); refine blk_put (cs := #[.bool false, .int .i64 0, .bool false, .int .i64 0, .slice none 0 0]) ?_ 0 _ rfl; (with_reducible repeat (first | refine blk_drewN ?_ _ | refine blk_drew ?_ | refine blk_alloc ?_ _)); exact BK320.out)) : gb321 ≠ gb320)); clear BK313; clear BK314; clear BK315; clear BK320; clear HB; have BK313 := n0_; have BK314 := n1_; have BK315 := n2_; have BK320 := n3_; have HB := n4_; have BK321 := n5_; have GW321 := n6_; have GE321 := n7_; have NB313_321 := n8_; have NB321_313 := n9_; have NB314_321 := n10_; have NB321_314 := n11_; have NB315_321 := n12_; have NB321_315 := n13_; have NB320_321 := n14_; have NB321_320 := n15_; clear n0_ n1_ n2_ n3_ n4_ n5_ n6_ n7_ n8_ n9_ n10_ n11_ n12_ n13_ n14_ n15_; clear hb hbox hg; have hnb65 := NB321_313.out; have hnc65 := NB313_321.out; have hnb66 := NB321_314.out; have hnc66 := NB314_321.out; have hnb67 := NB321_315.out; have hnc67 := NB315_321.out; have hnb68 := NB321_320.out; have hnc68 := NB320_321.out; have hcz69_0 : w64.cell? ⟨gb321, 0, none⟩ = some (.bool false) := (blk_cell BK321.out 0).trans rfl; have hcz69_1 : w64.cell? ⟨gb321, 1, none⟩ = some (.int .i64 0) := (blk_cell BK321.out 1).trans rfl; have hcz69_2 : w64.cell? ⟨gb321, 2, none⟩ = some (.int .i64 0) := (blk_cell BK321.out 2).trans rfl; have hfz69_0 := blk_frozen BK321.out 0; have hfz69_1 := blk_frozen BK321.out 1; have hfz69_2 := blk_frozen BK321.out 2; have hcz70_0 : w64.cell? ⟨gb314, 0, none⟩ = some (.bool a1_0) := (blk_cell BK314.out 0).trans rfl; have hcz70_1 : w64.cell? ⟨gb314, 1, none⟩ = some (.int .i64 a1_1) := (blk_cell BK314.out 1).trans rfl; have hcz70_2 : w64.cell? ⟨gb314, 2, none⟩ = some (.bool a1_2) := (blk_cell BK314.out 2).trans rfl; have hcz70_3 : w64.cell? ⟨gb314, 3, none⟩ = some (.int .i64 a1_3) := (blk_cell BK314.out 3).trans rfl; have hcz70_4 : w64.cell? ⟨gb314, 4, none⟩ = some (.slice A1_4 l1_4.length c1_4) := (blk_cell BK314.out 4).trans rfl; have hfz70_0 := blk_frozen BK314.out 0; have hfz70_1 := blk_frozen BK314.out 1; have hfz70_2 := blk_frozen BK314.out 2; have hfz70_3 := blk_frozen BK314.out 3; have hfz70_4 := blk_frozen BK314.out 4))
        (try simp only [Act.put, List.setIfInBounds_toArray, List.set_cons_zero, List.set_cons_succ])
        go_cut [] (fun wc => ∃ (kq : Nat) (x322001_52 : Int), Aside0 (phaetonlaw07_FilterData.j1 kq t316 a0_0 a0_1 a0_2 a1_0 a1_1 a1_2 a1_3 l1_4 a2_0 a2_1 a2_2 a2_3 l2_4 a1_0 a1_1 a2_2 a2_3 l2_4 a1_0 x322001_52 a1_1 = some r) ∧ Aside0 (kq ≤ kj4) ∧ Aside0 (wc.heap[gb313]? = some (.cells #[.bool a0_0, .int .i64 a0_1, .int .i64 a0_2] 23 (0, 0))) ∧ Aside0 (wc.heap[gb314]? = some (.cells #[.bool a1_0, .int .i64 a1_1, .bool a1_2, .int .i64 a1_3, (.slice A1_4 l1_4.length c1_4)] 27 (0, 0))) ∧ Aside0 (wc.heap[gb315]? = some (.cells #[.bool a2_0, .int .i64 a2_1, .bool a2_2, .int .i64 a2_3, (.slice A2_4 l2_4.length c2_4)] 27 (0, 0))) ∧ Aside0 (wc.heap[gb320]? = some (.cells #[.bool a1_0, .int .i64 a1_1, .bool a2_2, .int .i64 a2_3, (.slice A2_4 l2_4.length c2_4)] 27 (0, 0))) ∧ Aside0 (wc.heap[gb321]? = some (.cells #[.bool a1_0, .int .i64 x322001_52, .int .i64 a1_1] 23 (0, 0))) ∧ Aside0 (Below w.heap.size w wc))
        case first =>
          have H := HC53.out
          clear HC53
          by_cases c71 : a1_0 = true
          · subst c71
            have H1 : (phaetonlaw07_FilterData.j1 kj4 t316 a0_0 a0_1 a0_2 true a1_1 a1_2 a1_3 l1_4 a2_0 a2_1 a2_2 a2_3 l2_4 true a1_1 a2_2 a2_3 l2_4 true 536870911 a1_1) = some r := by rw [if_pos rfl] at H; exact H
            clear H
            have H := H1
            clear H1
            have H' := Aside0.mk H
            clear H
            have hnb72 := NB321_313.out
            have hnc72 := NB313_321.out
            have hnb73 := NB321_314.out
            have hnc73 := NB314_321.out
            have hnb74 := NB321_315.out
            have hnc74 := NB315_321.out
            have hnb75 := NB321_320.out
            have hnc75 := NB320_321.out
            have hcz76_0 : w64.cell? ⟨gb321, 0, none⟩ = some (.bool false) := (blk_cell BK321.out 0).trans rfl
            have hcz76_1 : w64.cell? ⟨gb321, 1, none⟩ = some (.int .i64 0) := (blk_cell BK321.out 1).trans rfl
            have hcz76_2 : w64.cell? ⟨gb321, 2, none⟩ = some (.int .i64 0) := (blk_cell BK321.out 2).trans rfl
            have hfz76_0 := blk_frozen BK321.out 0
            have hfz76_1 := blk_frozen BK321.out 1
            have hfz76_2 := blk_frozen BK321.out 2
            go_wp2
            go_meet
            case rel => exact ⟨_, (536870911), H', ⟨by have := HJ4.out; first | omega | exact Nat.le_refl _⟩, ⟨by (with_reducible repeat (first | refine blk_drewN ?_ _ | refine blk_drew ?_ | refine blk_alloc ?_ _)); refine blk_far ?_ NB313_321.out _; (with_reducible repeat (first | refine blk_drewN ?_ _ | refine blk_drew ?_ | refine blk_alloc ?_ _)); refine blk_far ?_ NB313_321.out _; (with_reducible repeat (first | refine blk_drewN ?_ _ | refine blk_drew ?_ | refine blk_alloc ?_ _)); refine blk_far ?_ NB313_321.out _; (with_reducible repeat (first | refine blk_drewN ?_ _ | refine blk_drew ?_ | refine blk_alloc ?_ _)); refine blk_far ?_ NB313_321.out _; (with_reducible repeat (first | refine blk_drewN ?_ _ | refine blk_drew ?_ | refine blk_alloc ?_ _)); exact BK313.out⟩, ⟨by (with_reducible repeat (first | refine blk_drewN ?_ _ | refine blk_drew ?_ | refine blk_alloc ?_ _)); refine blk_far ?_ NB314_321.out _; (with_reducible repeat (first | refine blk_drewN ?_ _ | refine blk_drew ?_ | refine blk_alloc ?_ _)); refine blk_far ?_ NB314_321.out _; (with_reducible repeat (first | refine blk_drewN ?_ _ | refine blk_drew ?_ | refine blk_alloc ?_ _)); refine blk_far ?_ NB314_321.out _; (with_reducible repeat (first | refine blk_drewN ?_ _ | refine blk_drew ?_ | refine blk_alloc ?_ _)); refine blk_far ?_ NB314_321.out _; (with_reducible repeat (first | refine blk_drewN ?_ _ | refine blk_drew ?_ | refine blk_alloc ?_ _)); exact BK314.out⟩, ⟨by (with_reducible repeat (first | refine blk_drewN ?_ _ | refine blk_drew ?_ | refine blk_alloc ?_ _)); refine blk_far ?_ NB315_321.out _; (with_reducible repeat (first | refine blk_drewN ?_ _ | refine blk_drew ?_ | refine blk_alloc ?_ _)); refine blk_far ?_ NB315_321.out _; (with_reducible repeat (first | refine blk_drewN ?_ _ | refine blk_drew ?_ | refine blk_alloc ?_ _)); refine blk_far ?_ NB315_321.out _; (with_reducible repeat (first | refine blk_drewN ?_ _ | refine blk_drew ?_ | refine blk_alloc ?_ _)); refine blk_far ?_ NB315_321.out _; (with_reducible repeat (first | refine blk_drewN ?_ _ | refine blk_drew ?_ | refine blk_alloc ?_ _)); exact BK315.out⟩, ⟨by (with_reducible repeat (first | refine blk_drewN ?_ _ | refine blk_drew ?_ | refine blk_alloc ?_ _)); refine blk_far ?_ NB320_321.out _; (with_reducible repeat (first | refine blk_drewN ?_ _ | refine blk_drew ?_ | refine blk_alloc ?_ _)); refine blk_far ?_ NB320_321.out _; (with_reducible repeat (first | refine blk_drewN ?_ _ | refine blk_drew ?_ | refine blk_alloc ?_ _)); refine blk_far ?_ NB320_321.out _; (with_reducible repeat (first | refine blk_drewN ?_ _ | refine blk_drew ?_ | refine blk_alloc ?_ _)); refine blk_far ?_ NB320_321.out _; (with_reducible repeat (first | refine blk_drewN ?_ _ | refine blk_drew ?_ | refine blk_alloc ?_ _)); exact BK320.out⟩, ⟨by (with_reducible repeat (first | refine blk_drewN ?_ _ | refine blk_drew ?_ | refine blk_alloc ?_ _)); refine blk_put (cs := #[.bool true, .int .i64 2047, .int .i64 a1_1]) ?_ 1 _ rfl; (with_reducible repeat (first | refine blk_drewN ?_ _ | refine blk_drew ?_ | refine blk_alloc ?_ _)); refine blk_put (cs := #[.bool true, .int .i64 2047, .int .i64 0]) ?_ 2 _ rfl; (with_reducible repeat (first | refine blk_drewN ?_ _ | refine blk_drew ?_ | refine blk_alloc ?_ _)); refine blk_put (cs := #[.bool true, .int .i64 0, .int .i64 0]) ?_ 1 _ rfl; (with_reducible repeat (first | refine blk_drewN ?_ _ | refine blk_drew ?_ | refine blk_alloc ?_ _)); refine blk_put (cs := #[.bool false, .int .i64 0, .int .i64 0]) ?_ 0 _ rfl; (with_reducible repeat (first | refine blk_drewN ?_ _ | refine blk_drew ?_ | refine blk_alloc ?_ _)); exact BK321.out⟩, ⟨by repeat (first | (with_reducible first | exact HB.out | apply below_alloc | apply pw_below_drewN | apply below_drew1 | refine below_set ?_ GE313.out | refine below_set ?_ GE314.out | refine below_set ?_ GE315.out | refine below_set ?_ GE320.out | refine below_set ?_ GE321.out) | exact HB.out)⟩⟩
          · replace c71 := Bool.eq_false_iff.mpr c71
            subst c71
            have H1 : (phaetonlaw07_FilterData.j1 kj4 t316 a0_0 a0_1 a0_2 false a1_1 a1_2 a1_3 l1_4 a2_0 a2_1 a2_2 a2_3 l2_4 false a1_1 a2_2 a2_3 l2_4 false 2047 a1_1) = some r := by rw [if_neg (show ¬ (false = true) by decide)] at H; exact H
            clear H
            have H := H1
            clear H1
            have H' := Aside0.mk H
            clear H
            go_wp2
            go_meet
            case rel => exact ⟨_, (2047), H', ⟨by have := HJ4.out; first | omega | exact Nat.le_refl _⟩, ⟨by (with_reducible repeat (first | refine blk_drewN ?_ _ | refine blk_drew ?_ | refine blk_alloc ?_ _)); refine blk_far ?_ NB313_321.out _; (with_reducible repeat (first | refine blk_drewN ?_ _ | refine blk_drew ?_ | refine blk_alloc ?_ _)); refine blk_far ?_ NB313_321.out _; (with_reducible repeat (first | refine blk_drewN ?_ _ | refine blk_drew ?_ | refine blk_alloc ?_ _)); refine blk_far ?_ NB313_321.out _; (with_reducible repeat (first | refine blk_drewN ?_ _ | refine blk_drew ?_ | refine blk_alloc ?_ _)); exact BK313.out⟩, ⟨by (with_reducible repeat (first | refine blk_drewN ?_ _ | refine blk_drew ?_ | refine blk_alloc ?_ _)); refine blk_far ?_ NB314_321.out _; (with_reducible repeat (first | refine blk_drewN ?_ _ | refine blk_drew ?_ | refine blk_alloc ?_ _)); refine blk_far ?_ NB314_321.out _; (with_reducible repeat (first | refine blk_drewN ?_ _ | refine blk_drew ?_ | refine blk_alloc ?_ _)); refine blk_far ?_ NB314_321.out _; (with_reducible repeat (first | refine blk_drewN ?_ _ | refine blk_drew ?_ | refine blk_alloc ?_ _)); exact BK314.out⟩, ⟨by (with_reducible repeat (first | refine blk_drewN ?_ _ | refine blk_drew ?_ | refine blk_alloc ?_ _)); refine blk_far ?_ NB315_321.out _; (with_reducible repeat (first | refine blk_drewN ?_ _ | refine blk_drew ?_ | refine blk_alloc ?_ _)); refine blk_far ?_ NB315_321.out _; (with_reducible repeat (first | refine blk_drewN ?_ _ | refine blk_drew ?_ | refine blk_alloc ?_ _)); refine blk_far ?_ NB315_321.out _; (with_reducible repeat (first | refine blk_drewN ?_ _ | refine blk_drew ?_ | refine blk_alloc ?_ _)); exact BK315.out⟩, ⟨by (with_reducible repeat (first | refine blk_drewN ?_ _ | refine blk_drew ?_ | refine blk_alloc ?_ _)); refine blk_far ?_ NB320_321.out _; (with_reducible repeat (first | refine blk_drewN ?_ _ | refine blk_drew ?_ | refine blk_alloc ?_ _)); refine blk_far ?_ NB320_321.out _; (with_reducible repeat (first | refine blk_drewN ?_ _ | refine blk_drew ?_ | refine blk_alloc ?_ _)); refine blk_far ?_ NB320_321.out _; (with_reducible repeat (first | refine blk_drewN ?_ _ | refine blk_drew ?_ | refine blk_alloc ?_ _)); exact BK320.out⟩, ⟨by (with_reducible repeat (first | refine blk_drewN ?_ _ | refine blk_drew ?_ | refine blk_alloc ?_ _)); refine blk_put (cs := #[.bool false, .int .i64 2047, .int .i64 0]) ?_ 2 _ rfl; (with_reducible repeat (first | refine blk_drewN ?_ _ | refine blk_drew ?_ | refine blk_alloc ?_ _)); refine blk_put (cs := #[.bool false, .int .i64 0, .int .i64 0]) ?_ 1 _ rfl; (with_reducible repeat (first | refine blk_drewN ?_ _ | refine blk_drew ?_ | refine blk_alloc ?_ _)); refine blk_put (cs := #[.bool false, .int .i64 0, .int .i64 0]) ?_ 0 _ rfl; (with_reducible repeat (first | refine blk_drewN ?_ _ | refine blk_drew ?_ | refine blk_alloc ?_ _)); exact BK321.out⟩, ⟨by repeat (first | (with_reducible first | exact HB.out | apply below_alloc | apply pw_below_drewN | apply below_drew1 | refine below_set ?_ GE313.out | refine below_set ?_ GE314.out | refine below_set ?_ GE315.out | refine below_set ?_ GE320.out | refine below_set ?_ GE321.out) | exact HB.out)⟩⟩
        case rest =>
          clear HC53
          try clear c1
          try clear c2
          try clear p2
          try clear c3
          try clear c4
          try clear c5
          try clear c6
          try clear c7
          try clear c8
          try clear c10
          try clear c11
          try clear c12
          try clear c12b0
          try clear c12b1
          try clear c13
          try clear c14
          try clear c17
          try clear c19
          try clear c19b0
          try clear c19b1
          try clear c20
          try clear c21
          try clear c24
          try clear c28
          try clear c30
          try clear c31
          try clear c34
          try clear c40
          try clear c41
          try clear c44
          try clear c48
          try clear c49
          try clear c52
          try clear c54
          try clear c55
          try clear c58
          try clear c59
          try clear c60
          try clear c62
          try clear c65
          try clear c66
          try clear c67
          try clear c68
          try clear c71
          try clear c72
          try clear c73
          try clear c74
          try clear c75
          try clear hcz15_0
          try clear hcz15_1
          try clear hcz15_2
          try clear hcz18_0
          try clear hcz18_1
          try clear hcz18_2
          try clear hcz18_3
          try clear hcz18_4
          try clear hcz22_0
          try clear hcz22_1
          try clear hcz22_2
          try clear hcz25_0
          try clear hcz25_1
          try clear hcz25_2
          try clear hcz25_3
          try clear hcz25_4
          try clear hcz26_0
          try clear hcz26_1
          try clear hcz26_2
          try clear hcz26_3
          try clear hcz26_4
          try clear hcz32_0
          try clear hcz32_1
          try clear hcz32_2
          try clear hcz35_0
          try clear hcz35_1
          try clear hcz35_2
          try clear hcz35_3
          try clear hcz35_4
          try clear hcz36_0
          try clear hcz36_1
          try clear hcz36_2
          try clear hcz36_3
          try clear hcz36_4
          try clear hcz38_0
          try clear hcz38_1
          try clear hcz38_2
          try clear hcz38_3
          try clear hcz38_4
          try clear hcz42_0
          try clear hcz42_1
          try clear hcz42_2
          try clear hcz45_0
          try clear hcz45_1
          try clear hcz45_2
          try clear hcz45_3
          try clear hcz45_4
          try clear hcz46_0
          try clear hcz46_1
          try clear hcz46_2
          try clear hcz46_3
          try clear hcz46_4
          try clear hcz50_0
          try clear hcz50_1
          try clear hcz50_2
          try clear hcz56_0
          try clear hcz56_1
          try clear hcz56_2
          try clear hcz56_3
          try clear hcz56_4
          try clear hcz61_0
          try clear hcz61_1
          try clear hcz61_2
          try clear hcz61_3
          try clear hcz61_4
          try clear hcz63_0
          try clear hcz63_1
          try clear hcz63_2
          try clear hcz63_3
          try clear hcz63_4
          try clear hcz69_0
          try clear hcz69_1
          try clear hcz69_2
          try clear hcz70_0
          try clear hcz70_1
          try clear hcz70_2
          try clear hcz70_3
          try clear hcz70_4
          try clear hcz76_0
          try clear hcz76_1
          try clear hcz76_2
          try clear hfz15_0
          try clear hfz15_1
          try clear hfz15_2
          try clear hfz18_0
          try clear hfz18_1
          try clear hfz18_2
          try clear hfz18_3
          try clear hfz18_4
          try clear hfz22_0
          try clear hfz22_1
          try clear hfz22_2
          try clear hfz25_0
          try clear hfz25_1
          try clear hfz25_2
          try clear hfz25_3
          try clear hfz25_4
          try clear hfz26_0
          try clear hfz26_1
          try clear hfz26_2
          try clear hfz26_3
          try clear hfz26_4
          try clear hfz32_0
          try clear hfz32_1
          try clear hfz32_2
          try clear hfz35_0
          try clear hfz35_1
          try clear hfz35_2
          try clear hfz35_3
          try clear hfz35_4
          try clear hfz36_0
          try clear hfz36_1
          try clear hfz36_2
          try clear hfz36_3
          try clear hfz36_4
          try clear hfz38_0
          try clear hfz38_1
          try clear hfz38_2
          try clear hfz38_3
          try clear hfz38_4
          try clear hfz42_0
          try clear hfz42_1
          try clear hfz42_2
          try clear hfz45_0
          try clear hfz45_1
          try clear hfz45_2
          try clear hfz45_3
          try clear hfz45_4
          try clear hfz46_0
          try clear hfz46_1
          try clear hfz46_2
          try clear hfz46_3
          try clear hfz46_4
          try clear hfz50_0
          try clear hfz50_1
          try clear hfz50_2
          try clear hfz56_0
          try clear hfz56_1
          try clear hfz56_2
          try clear hfz56_3
          try clear hfz56_4
          try clear hfz61_0
          try clear hfz61_1
          try clear hfz61_2
          try clear hfz61_3
          try clear hfz61_4
          try clear hfz63_0
          try clear hfz63_1
          try clear hfz63_2
          try clear hfz63_3
          try clear hfz63_4
          try clear hfz69_0
          try clear hfz69_1
          try clear hfz69_2
          try clear hfz70_0
          try clear hfz70_1
          try clear hfz70_2
          try clear hfz70_3
          try clear hfz70_4
          try clear hfz76_0
          try clear hfz76_1
          try clear hfz76_2
          try clear p2
          obtain ⟨kq, x322001_52, HA, HJ52, BK313, BK314, BK315, BK320, BK321, HB⟩ := hcut
          cases kq with
          | zero => exact absurd HA.out (by simp [phaetonlaw07_FilterData.j1])
          | succ kj52 =>
            have H := HA.out
            clear HA
            simp only [phaetonlaw07_FilterData.j1] at H
            by_cases c77 : t316 = true
            · subst c77
              have H1 : ((filter_Takes.f a0_0 a0_1 a0_2 a1_0 a1_1 a1_2 a1_3 l1_4).bind fun t322 => ((filter_Takes.f a0_0 a0_1 a0_2 a1_0 a1_1 a2_2 a2_3 l2_4).bind fun t323 => (if (t322 == t323) = true then ((filter_Takes.f a1_0 0 0 a1_0 a1_1 a1_2 a1_3 l1_4).bind fun t324 => (if t324 = true then ((filter_Takes.f (!a1_0) 0 0 a1_0 a1_1 a1_2 a1_3 l1_4).bind fun t325 => (if t325 = true then (none) else ((filter_Takes.f a1_0 x322001_52 a1_1 a2_0 a2_1 a2_2 a2_3 l2_4).bind fun t326 => (if (a2_0 == a1_0) = true then (some (t326 == (a2_1 == a1_1))) else (some (t326 == false)))))) else (none))) else (none)))) = some r := by rw [if_pos rfl] at H; exact H
              clear H
              have H := H1
              clear H1
              replace H := Option.bind_eq_some_iff.mp H
              obtain ⟨t322, A780, H⟩ := H
              replace H : ((filter_Takes.f a0_0 a0_1 a0_2 a1_0 a1_1 a2_2 a2_3 l2_4).bind fun t323 => (if (t322 == t323) = true then ((filter_Takes.f a1_0 0 0 a1_0 a1_1 a1_2 a1_3 l1_4).bind fun t324 => (if t324 = true then ((filter_Takes.f (!a1_0) 0 0 a1_0 a1_1 a1_2 a1_3 l1_4).bind fun t325 => (if t325 = true then (none) else ((filter_Takes.f a1_0 x322001_52 a1_1 a2_0 a2_1 a2_2 a2_3 l2_4).bind fun t326 => (if (a2_0 == a1_0) = true then (some (t326 == (a2_1 == a1_1))) else (some (t326 == false)))))) else (none))) else (none))) = some r := H
              have A78 := Aside0.mk A780
              clear A780
              replace H := Option.bind_eq_some_iff.mp H
              obtain ⟨t323, A790, H⟩ := H
              replace H : (if (t322 == t323) = true then ((filter_Takes.f a1_0 0 0 a1_0 a1_1 a1_2 a1_3 l1_4).bind fun t324 => (if t324 = true then ((filter_Takes.f (!a1_0) 0 0 a1_0 a1_1 a1_2 a1_3 l1_4).bind fun t325 => (if t325 = true then (none) else ((filter_Takes.f a1_0 x322001_52 a1_1 a2_0 a2_1 a2_2 a2_3 l2_4).bind fun t326 => (if (a2_0 == a1_0) = true then (some (t326 == (a2_1 == a1_1))) else (some (t326 == false)))))) else (none))) else (none)) = some r := H
              have A79 := Aside0.mk A790
              clear A790
              by_cases c80 : (t322 == t323) = true
              · rw [if_pos c80] at H
                have c80b0 : (t322 == t323) = true := c80
                (try (have c80b1 : decide (t322 = t323) = true := by simpa using c80))
                (try (have c80b2 : (t322 == t323) = true := by simpa using c80))
                clear c80
                replace H := Option.bind_eq_some_iff.mp H
                obtain ⟨t324, A810, H⟩ := H
                replace H : (if t324 = true then ((filter_Takes.f (!a1_0) 0 0 a1_0 a1_1 a1_2 a1_3 l1_4).bind fun t325 => (if t325 = true then (none) else ((filter_Takes.f a1_0 x322001_52 a1_1 a2_0 a2_1 a2_2 a2_3 l2_4).bind fun t326 => (if (a2_0 == a1_0) = true then (some (t326 == (a2_1 == a1_1))) else (some (t326 == false)))))) else (none)) = some r := H
                have A81 := Aside0.mk A810
                clear A810
                by_cases c82 : t324 = true
                · subst c82
                  have H1 : ((filter_Takes.f (!a1_0) 0 0 a1_0 a1_1 a1_2 a1_3 l1_4).bind fun t325 => (if t325 = true then (none) else ((filter_Takes.f a1_0 x322001_52 a1_1 a2_0 a2_1 a2_2 a2_3 l2_4).bind fun t326 => (if (a2_0 == a1_0) = true then (some (t326 == (a2_1 == a1_1))) else (some (t326 == false)))))) = some r := by rw [if_pos rfl] at H; exact H
                  clear H
                  have H := H1
                  clear H1
                  replace H := Option.bind_eq_some_iff.mp H
                  obtain ⟨t325, A830, H⟩ := H
                  replace H : (if t325 = true then (none) else ((filter_Takes.f a1_0 x322001_52 a1_1 a2_0 a2_1 a2_2 a2_3 l2_4).bind fun t326 => (if (a2_0 == a1_0) = true then (some (t326 == (a2_1 == a1_1))) else (some (t326 == false))))) = some r := H
                  have A83 := Aside0.mk A830
                  clear A830
                  by_cases c84 : t325 = true
                  · subst c84
                    have H1 : (none) = some r := by rw [if_pos rfl] at H; exact H
                    clear H
                    have H := H1
                    clear H1
                    exact absurd H (by simp)
                  · replace c84 := Bool.eq_false_iff.mpr c84
                    subst c84
                    have H1 : ((filter_Takes.f a1_0 x322001_52 a1_1 a2_0 a2_1 a2_2 a2_3 l2_4).bind fun t326 => (if (a2_0 == a1_0) = true then (some (t326 == (a2_1 == a1_1))) else (some (t326 == false)))) = some r := by rw [if_neg (show ¬ (false = true) by decide)] at H; exact H
                    clear H
                    have H := H1
                    clear H1
                    replace H := Option.bind_eq_some_iff.mp H
                    obtain ⟨t326, A850, H⟩ := H
                    replace H : (if (a2_0 == a1_0) = true then (some (t326 == (a2_1 == a1_1))) else (some (t326 == false))) = some r := H
                    have A85 := Aside0.mk A850
                    clear A850
                    by_cases c86 : (a2_0 == a1_0) = true
                    · rw [if_pos c86] at H
                      have c86b0 : (a2_0 == a1_0) = true := c86
                      (try (have c86b1 : decide (a2_0 = a1_0) = true := by simpa using c86))
                      (try (have c86b2 : (a2_0 == a1_0) = true := by simpa using c86))
                      clear c86
                      obtain rfl := Option.some.inj H
                      try go_wp2
                      have n0_ := Aside0.mk (blk_drew BK313.out)
                      have n1_ := Aside0.mk (blk_drew BK314.out)
                      have n2_ := Aside0.mk (blk_drew BK315.out)
                      have n3_ := Aside0.mk (blk_drew BK320.out)
                      have n4_ := Aside0.mk (blk_drew BK321.out)
                      have n5_ := Aside0.mk (below_drew1 HB.out)
                      clear BK313
                      clear BK314
                      clear BK315
                      clear BK320
                      clear BK321
                      clear HB
                      have BK313 := n0_
                      have BK314 := n1_
                      have BK315 := n2_
                      have BK320 := n3_
                      have BK321 := n4_
                      have HB := n5_
                      clear n0_ n1_ n2_ n3_ n4_ n5_
                      refine start_ (n := 45) (S := fun w' => w'.cell? ⟨gb313, 0, none⟩ = some (.bool a0_0) ∧ w'.cell? ⟨gb313, 1, none⟩ = some (.int .i64 a0_1) ∧ w'.cell? ⟨gb313, 2, none⟩ = some (.int .i64 a0_2) ∧ w'.cell? ⟨gb314, 0, none⟩ = some (.bool a1_0) ∧ w'.cell? ⟨gb314, 1, none⟩ = some (.int .i64 a1_1) ∧ w'.cell? ⟨gb314, 2, none⟩ = some (.bool a1_2) ∧ w'.cell? ⟨gb314, 3, none⟩ = some (.int .i64 a1_3) ∧ w'.cell? ⟨gb314, 4, none⟩ = some (.slice A1_4 l1_4.length c1_4) ∧ w'.cell? ⟨gb320, 0, none⟩ = some (.bool a1_0) ∧ w'.cell? ⟨gb320, 1, none⟩ = some (.int .i64 a1_1) ∧ w'.cell? ⟨gb320, 2, none⟩ = some (.bool a2_2) ∧ w'.cell? ⟨gb320, 3, none⟩ = some (.int .i64 a2_3) ∧ w'.cell? ⟨gb320, 4, none⟩ = some (.slice A2_4 l2_4.length c2_4) ∧ w'.cell? ⟨gb321, 0, none⟩ = some (.bool a1_0) ∧ w'.cell? ⟨gb321, 1, none⟩ = some (.int .i64 x322001_52) ∧ w'.cell? ⟨gb321, 2, none⟩ = some (.int .i64 a1_1) ∧ w'.cell? ⟨gb315, 0, none⟩ = some (.bool a2_0) ∧ w'.cell? ⟨gb315, 1, none⟩ = some (.int .i64 a2_1) ∧ w'.cell? ⟨gb315, 2, none⟩ = some (.bool a2_2) ∧ w'.cell? ⟨gb315, 3, none⟩ = some (.int .i64 a2_3) ∧ w'.cell? ⟨gb315, 4, none⟩ = some (.slice A2_4 l2_4.length c2_4)) (ds := []) #[false, false, false, false, false, false, false, false, false, false, false, false, false, false, false, false, false, false, false, false, false, false, false, false, false, false, false, false, false, false, false, false, false, false, false, false, false, false, false, false, false, false, false, false, false] (by kernel_rfl) rfl rfl ⟨(blk_cell BK313.out 0).trans rfl, (blk_cell BK313.out 1).trans rfl, (blk_cell BK313.out 2).trans rfl, (blk_cell BK314.out 0).trans rfl, (blk_cell BK314.out 1).trans rfl, (blk_cell BK314.out 2).trans rfl, (blk_cell BK314.out 3).trans rfl, (blk_cell BK314.out 4).trans rfl, (blk_cell BK320.out 0).trans rfl, (blk_cell BK320.out 1).trans rfl, (blk_cell BK320.out 2).trans rfl, (blk_cell BK320.out 3).trans rfl, (blk_cell BK320.out 4).trans rfl, (blk_cell BK321.out 0).trans rfl, (blk_cell BK321.out 1).trans rfl, (blk_cell BK321.out 2).trans rfl, (blk_cell BK315.out 0).trans rfl, (blk_cell BK315.out 1).trans rfl, (blk_cell BK315.out 2).trans rfl, (blk_cell BK315.out 3).trans rfl, (blk_cell BK315.out 4).trans rfl⟩ (fun hHeld => ?_); refine with_tabW phaetonlaw07_FilterData.tab10 phaetonlaw07_FilterData.bits10 (fun HT_ HW_ => ?_)
                      generalize wc.drew = w87 at BK313 BK314 BK315 BK320 BK321 HB hHeld ⊢
                      refine pure_ (i := 0) (N := some 52) (v := ?_) (a' := ?_) #[true, false, false, false, false, false, false, false, false, false, false, false, false, false, false, false, false, false, false, false, false, false, false, false, false, false, false, false, false, false, false, false, false, false, false, false, false, false, false, false, false, false, false, false, false] rfl rfl (any_of HT_.out (by kernel_rfl)) (fun _ _ _ h => h) (Or.inl ⟨by rfl, ?_⟩) ?_ ?_
                      rotate_left
                      · intro w'
                        go_simp
                        with_reducible rfl
                      rotate_left
                      · simp only [Act.put, List.setIfInBounds_toArray, List.set_cons_zero, List.set_cons_succ, i64_w, i32_w]
                        rfl
                      refine pure_ (i := 1) (N := some 53) (v := ?_) (a' := ?_) #[true, true, false, false, false, false, false, false, false, false, false, false, false, false, false, false, false, false, false, false, false, false, false, false, false, false, false, false, false, false, false, false, false, false, false, false, false, false, false, false, false, false, false, false, false] rfl rfl (any_of HT_.out (by kernel_rfl)) (fun _ _ _ h => h) (Or.inl ⟨by rfl, ?_⟩) ?_ ?_
                      rotate_left
                      · intro w'
                        go_simp
                        with_reducible rfl
                      rotate_left
                      · simp only [Act.put, List.setIfInBounds_toArray, List.set_cons_zero, List.set_cons_succ, i64_w, i32_w]
                        rfl
                      refine take_ (i := 2) (N := some 54) (v := ?_) (a' := ?_) #[true, true, true, false, false, false, false, false, false, false, false, false, false, false, false, false, false, false, false, false, false, false, false, false, false, false, false, false, false, false, false, false, false, false, false, false, false, false, false, false, false, false, false, false, false] rfl rfl (take_ofW HT_.out HW_.out (by kernel_rfl)) (fun _ _ _ h => h) (Or.inl ⟨by rfl, ?_⟩) hHeld ?_ ?_
                      rotate_left
                      · rintro w' ⟨s0, s1, s2, s3, s4, s5, s6, s7, s8, s9, s10, s11, s12, s13, s14, s15, s16, s17, s18, s19, s20⟩
                        go_simp
                        with_reducible rfl
                      rotate_left
                      · simp only [Act.put, List.setIfInBounds_toArray, List.set_cons_zero, List.set_cons_succ, i64_w, i32_w]
                        rfl
                      refine take_ (i := 3) (N := some 55) (v := ?_) (a' := ?_) #[true, true, true, true, false, false, false, false, false, false, false, false, false, false, false, false, false, false, false, false, false, false, false, false, false, false, false, false, false, false, false, false, false, false, false, false, false, false, false, false, false, false, false, false, false] rfl rfl (take_ofW HT_.out HW_.out (by kernel_rfl)) (fun _ _ _ h => h) (Or.inl ⟨by rfl, ?_⟩) hHeld ?_ ?_
                      rotate_left
                      · rintro w' ⟨s0, s1, s2, s3, s4, s5, s6, s7, s8, s9, s10, s11, s12, s13, s14, s15, s16, s17, s18, s19, s20⟩
                        go_simp
                        with_reducible rfl
                      rotate_left
                      · simp only [Act.put, List.setIfInBounds_toArray, List.set_cons_zero, List.set_cons_succ, i64_w, i32_w]
                        rfl
                      refine take_ (i := 5) (N := some 57) (v := ?_) (a' := ?_) #[true, true, true, true, false, true, false, false, false, false, false, false, false, false, false, false, false, false, false, false, false, false, false, false, false, false, false, false, false, false, false, false, false, false, false, false, false, false, false, false, false, false, false, false, false] rfl rfl (take_ofW HT_.out HW_.out (by kernel_rfl)) (fun _ _ _ h => h) (Or.inl ⟨by rfl, ?_⟩) hHeld ?_ ?_
                      rotate_left
                      · rintro w' ⟨s0, s1, s2, s3, s4, s5, s6, s7, s8, s9, s10, s11, s12, s13, s14, s15, s16, s17, s18, s19, s20⟩
                        go_simp
                        with_reducible rfl
                      rotate_left
                      · simp only [Act.put, List.setIfInBounds_toArray, List.set_cons_zero, List.set_cons_succ, i64_w, i32_w]
                        rfl
                      refine take_ (i := 6) (N := some 58) (v := ?_) (a' := ?_) #[true, true, true, true, false, true, true, false, false, false, false, false, false, false, false, false, false, false, false, false, false, false, false, false, false, false, false, false, false, false, false, false, false, false, false, false, false, false, false, false, false, false, false, false, false] rfl rfl (take_ofW HT_.out HW_.out (by kernel_rfl)) (fun _ _ _ h => h) (Or.inl ⟨by rfl, ?_⟩) hHeld ?_ ?_
                      rotate_left
                      · rintro w' ⟨s0, s1, s2, s3, s4, s5, s6, s7, s8, s9, s10, s11, s12, s13, s14, s15, s16, s17, s18, s19, s20⟩
                        go_simp
                        with_reducible rfl
                      rotate_left
                      · simp only [Act.put, List.setIfInBounds_toArray, List.set_cons_zero, List.set_cons_succ, i64_w, i32_w]
                        rfl
                      refine one_ (i := 4) (N := some 56) #[true, true, true, true, true, true, true, false, false, false, false, false, false, false, false, false, false, false, false, false, false, false, false, false, false, false, false, false, false, false, false, false, false, false, false, false, false, false, false, false, false, false, false, false, false] rfl rfl (one_of HT_.out (by kernel_rfl)) (by decide) (fun K hK => ?_)
                      refine goes_ Try.func15 (by kernel_rfl) rfl #[.agg #[.bool a0_0, .int .i64 a0_1, .int .i64 a0_2], .agg #[.bool a1_0, .int .i64 a1_1, .bool a1_2, .int .i64 a1_3, .slice A1_4 l1_4.length c1_4]] (by rfl) rfl rfl (by (try simp only [List.map_toArray, List.map_cons, List.map_nil]); first | done | rfl | (simp only [List.length_drop, List.length_take]; rfl)) ?_
                      with_reducible refine (filter_Takes.calls a0_0 a0_1 a0_2 a1_0 a1_1 a1_2 a1_3 _ _ l1_4 t322 _ ?side1 ?side2 A78.out).mono ?_
                      (case side1 => repeat (first | exact (Kd.C_below HR1_4.out HB.out) | (with_reducible refine Kd.C_alloc ?_ _) | (with_reducible refine Kd.C_drewN ?_ _) | (with_reducible refine Kd.C_drew ?_)))
                      (case side2 => exact HC1_4.out)
                      rintro e w88 ⟨rfl, hb⟩
                      refine ⟨_, rfl, ?_⟩
                      have n0_ := Aside0.mk (blk_below (g := gb313) (o := .cells #[.bool a0_0, .int .i64 a0_1, .int .i64 a0_2] 23 (0, 0)) (by (with_reducible repeat (first | refine blk_drewN ?_ _ | refine blk_drew ?_ | refine blk_alloc ?_ _)); exact BK313.out) hb)
                      have n1_ := Aside0.mk (blk_below (g := gb314) (o := .cells #[.bool a1_0, .int .i64 a1_1, .bool a1_2, .int .i64 a1_3, .slice A1_4 l1_4.length c1_4] 27 (0, 0)) (by (with_reducible repeat (first | refine blk_drewN ?_ _ | refine blk_drew ?_ | refine blk_alloc ?_ _)); exact BK314.out) hb)
                      have n2_ := Aside0.mk (blk_below (g := gb315) (o := .cells #[.bool a2_0, .int .i64 a2_1, .bool a2_2, .int .i64 a2_3, .slice A2_4 l2_4.length c2_4] 27 (0, 0)) (by (with_reducible repeat (first | refine blk_drewN ?_ _ | refine blk_drew ?_ | refine blk_alloc ?_ _)); exact BK315.out) hb)
                      have n3_ := Aside0.mk (blk_below (g := gb320) (o := .cells #[.bool a1_0, .int .i64 a1_1, .bool a2_2, .int .i64 a2_3, .slice A2_4 l2_4.length c2_4] 27 (0, 0)) (by (with_reducible repeat (first | refine blk_drewN ?_ _ | refine blk_drew ?_ | refine blk_alloc ?_ _)); exact BK320.out) hb)
                      have n4_ := Aside0.mk (blk_below (g := gb321) (o := .cells #[.bool a1_0, .int .i64 x322001_52, .int .i64 a1_1] 23 (0, 0)) (by (with_reducible repeat (first | refine blk_drewN ?_ _ | refine blk_drew ?_ | refine blk_alloc ?_ _)); exact BK321.out) hb)
                      have n5_ := Aside0.mk (below_step (by repeat (first | (with_reducible first | exact HB.out | apply below_alloc | apply pw_below_drewN | apply below_drew1 | refine below_set ?_ GE313.out | refine below_set ?_ GE314.out | refine below_set ?_ GE315.out | refine below_set ?_ GE320.out | refine below_set ?_ GE321.out) | exact HB.out)) hb)
                      clear BK313
                      clear BK314
                      clear BK315
                      clear BK320
                      clear BK321
                      clear HB
                      have BK313 := n0_
                      have BK314 := n1_
                      have BK315 := n2_
                      have BK320 := n3_
                      have BK321 := n4_
                      have HB := n5_
                      clear n0_ n1_ n2_ n3_ n4_ n5_
                      (try clear hb)
                      (try clear hb2)
                      (try clear hk)
                      (try clear hi)
                      refine hK.out _ _ ⟨(blk_cell BK313.out 0).trans rfl, (blk_cell BK313.out 1).trans rfl, (blk_cell BK313.out 2).trans rfl, (blk_cell BK314.out 0).trans rfl, (blk_cell BK314.out 1).trans rfl, (blk_cell BK314.out 2).trans rfl, (blk_cell BK314.out 3).trans rfl, (blk_cell BK314.out 4).trans rfl, (blk_cell BK320.out 0).trans rfl, (blk_cell BK320.out 1).trans rfl, (blk_cell BK320.out 2).trans rfl, (blk_cell BK320.out 3).trans rfl, (blk_cell BK320.out 4).trans rfl, (blk_cell BK321.out 0).trans rfl, (blk_cell BK321.out 1).trans rfl, (blk_cell BK321.out 2).trans rfl, (blk_cell BK315.out 0).trans rfl, (blk_cell BK315.out 1).trans rfl, (blk_cell BK315.out 2).trans rfl, (blk_cell BK315.out 3).trans rfl, (blk_cell BK315.out 4).trans rfl⟩ (fun hHeld => ?_)
                      clear hK K
                      refine norm_ (a' := ?_) ?_ ?_
                      rotate_left
                      · show Act.put _ (some 56) _ = _
                        simp only [Act.put, List.setIfInBounds_toArray, List.set_cons_zero, List.set_cons_succ, i64_w, i32_w]
                        rfl
                      refine one_ (i := 7) (N := some 59) #[true, true, true, true, true, true, true, true, false, false, false, false, false, false, false, false, false, false, false, false, false, false, false, false, false, false, false, false, false, false, false, false, false, false, false, false, false, false, false, false, false, false, false, false, false] rfl rfl (one_of HT_.out (by kernel_rfl)) (by decide) (fun K hK => ?_)
                      refine goes_ Try.func15 (by kernel_rfl) rfl #[.agg #[.bool a0_0, .int .i64 a0_1, .int .i64 a0_2], .agg #[.bool a1_0, .int .i64 a1_1, .bool a2_2, .int .i64 a2_3, .slice A2_4 l2_4.length c2_4]] (by rfl) rfl rfl (by (try simp only [List.map_toArray, List.map_cons, List.map_nil]); first | done | rfl | (simp only [List.length_drop, List.length_take]; rfl)) ?_
                      with_reducible refine (filter_Takes.calls a0_0 a0_1 a0_2 a1_0 a1_1 a2_2 a2_3 _ _ l2_4 t323 _ ?side1 ?side2 A79.out).mono ?_
                      (case side1 => repeat (first | exact (Kd.C_below HR2_4.out HB.out) | (with_reducible refine Kd.C_alloc ?_ _) | (with_reducible refine Kd.C_drewN ?_ _) | (with_reducible refine Kd.C_drew ?_)))
                      (case side2 => exact HC2_4.out)
                      rintro e w89 ⟨rfl, hb⟩
                      refine ⟨_, rfl, ?_⟩
                      have n0_ := Aside0.mk (blk_below (g := gb313) (o := .cells #[.bool a0_0, .int .i64 a0_1, .int .i64 a0_2] 23 (0, 0)) (by (with_reducible repeat (first | refine blk_drewN ?_ _ | refine blk_drew ?_ | refine blk_alloc ?_ _)); exact BK313.out) hb)
                      have n1_ := Aside0.mk (blk_below (g := gb314) (o := .cells #[.bool a1_0, .int .i64 a1_1, .bool a1_2, .int .i64 a1_3, .slice A1_4 l1_4.length c1_4] 27 (0, 0)) (by (with_reducible repeat (first | refine blk_drewN ?_ _ | refine blk_drew ?_ | refine blk_alloc ?_ _)); exact BK314.out) hb)
                      have n2_ := Aside0.mk (blk_below (g := gb315) (o := .cells #[.bool a2_0, .int .i64 a2_1, .bool a2_2, .int .i64 a2_3, .slice A2_4 l2_4.length c2_4] 27 (0, 0)) (by (with_reducible repeat (first | refine blk_drewN ?_ _ | refine blk_drew ?_ | refine blk_alloc ?_ _)); exact BK315.out) hb)
                      have n3_ := Aside0.mk (blk_below (g := gb320) (o := .cells #[.bool a1_0, .int .i64 a1_1, .bool a2_2, .int .i64 a2_3, .slice A2_4 l2_4.length c2_4] 27 (0, 0)) (by (with_reducible repeat (first | refine blk_drewN ?_ _ | refine blk_drew ?_ | refine blk_alloc ?_ _)); exact BK320.out) hb)
                      have n4_ := Aside0.mk (blk_below (g := gb321) (o := .cells #[.bool a1_0, .int .i64 x322001_52, .int .i64 a1_1] 23 (0, 0)) (by (with_reducible repeat (first | refine blk_drewN ?_ _ | refine blk_drew ?_ | refine blk_alloc ?_ _)); exact BK321.out) hb)
                      have n5_ := Aside0.mk (below_step (by repeat (first | (with_reducible first | exact HB.out | apply below_alloc | apply pw_below_drewN | apply below_drew1 | refine below_set ?_ GE313.out | refine below_set ?_ GE314.out | refine below_set ?_ GE315.out | refine below_set ?_ GE320.out | refine below_set ?_ GE321.out) | exact HB.out)) hb)
                      clear BK313
                      clear BK314
                      clear BK315
                      clear BK320
                      clear BK321
                      clear HB
                      have BK313 := n0_
                      have BK314 := n1_
                      have BK315 := n2_
                      have BK320 := n3_
                      have BK321 := n4_
                      have HB := n5_
                      clear n0_ n1_ n2_ n3_ n4_ n5_
                      (try clear hb)
                      (try clear hb2)
                      (try clear hk)
                      (try clear hi)
                      refine hK.out _ _ ⟨(blk_cell BK313.out 0).trans rfl, (blk_cell BK313.out 1).trans rfl, (blk_cell BK313.out 2).trans rfl, (blk_cell BK314.out 0).trans rfl, (blk_cell BK314.out 1).trans rfl, (blk_cell BK314.out 2).trans rfl, (blk_cell BK314.out 3).trans rfl, (blk_cell BK314.out 4).trans rfl, (blk_cell BK320.out 0).trans rfl, (blk_cell BK320.out 1).trans rfl, (blk_cell BK320.out 2).trans rfl, (blk_cell BK320.out 3).trans rfl, (blk_cell BK320.out 4).trans rfl, (blk_cell BK321.out 0).trans rfl, (blk_cell BK321.out 1).trans rfl, (blk_cell BK321.out 2).trans rfl, (blk_cell BK315.out 0).trans rfl, (blk_cell BK315.out 1).trans rfl, (blk_cell BK315.out 2).trans rfl, (blk_cell BK315.out 3).trans rfl, (blk_cell BK315.out 4).trans rfl⟩ (fun hHeld => ?_)
                      clear hK K
                      refine norm_ (a' := ?_) ?_ ?_
                      rotate_left
                      · show Act.put _ (some 59) _ = _
                        simp only [Act.put, List.setIfInBounds_toArray, List.set_cons_zero, List.set_cons_succ, i64_w, i32_w]
                        rfl
                      refine pure_ (i := 8) (N := some 60) (v := ?_) (a' := ?_) #[true, true, true, true, true, true, true, true, true, false, false, false, false, false, false, false, false, false, false, false, false, false, false, false, false, false, false, false, false, false, false, false, false, false, false, false, false, false, false, false, false, false, false, false, false] rfl rfl (any_of HT_.out (by kernel_rfl)) (fun _ _ _ h => h) (Or.inl ⟨by rfl, ?_⟩) ?_ ?_
                      rotate_left
                      · intro w'
                        go_simp
                        with_reducible rfl
                      rotate_left
                      · simp only [Act.put, List.setIfInBounds_toArray, List.set_cons_zero, List.set_cons_succ, i64_w, i32_w]
                        rfl
                      refine pure_ (i := 9) (N := some 61) (v := ?_) (a' := ?_) #[true, true, true, true, true, true, true, true, true, true, false, false, false, false, false, false, false, false, false, false, false, false, false, false, false, false, false, false, false, false, false, false, false, false, false, false, false, false, false, false, false, false, false, false, false] rfl rfl (any_of HT_.out (by kernel_rfl)) (fun _ _ _ h => h) (Or.inl ⟨by rfl, ?_⟩) ?_ ?_
                      rotate_left
                      · intro w'
                        go_simp
                        with_reducible rfl
                      rotate_left
                      · simp only [Act.put, List.setIfInBounds_toArray, List.set_cons_zero, List.set_cons_succ, i64_w, i32_w]
                        rfl
                      refine pure_ (i := 10) (N := some 62) (v := ?_) (a' := ?_) #[true, true, true, true, true, true, true, true, true, true, true, false, false, false, false, false, false, false, false, false, false, false, false, false, false, false, false, false, false, false, false, false, false, false, false, false, false, false, false, false, false, false, false, false, false] rfl rfl (any_of HT_.out (by kernel_rfl)) (fun _ _ _ h => h) (Or.inl ⟨by rfl, ?_⟩) ?_ ?_
                      rotate_left
                      · intro w'
                        go_simp
                        with_reducible rfl
                      rotate_left
                      · simp only [Act.put, List.setIfInBounds_toArray, List.set_cons_zero, List.set_cons_succ, i64_w, i32_w]
                        rfl
                      refine pure_ (i := 11) (N := some 63) (v := ?_) (a' := ?_) #[true, true, true, true, true, true, true, true, true, true, true, true, false, false, false, false, false, false, false, false, false, false, false, false, false, false, false, false, false, false, false, false, false, false, false, false, false, false, false, false, false, false, false, false, false] rfl rfl (any_of HT_.out (by kernel_rfl)) (fun _ _ _ h => h) (Or.inl ⟨by rfl, ?_⟩) ?_ ?_
                      rotate_left
                      · intro w'
                        go_simp
                        with_reducible rfl
                      rotate_left
                      · simp only [Act.put, List.setIfInBounds_toArray, List.set_cons_zero, List.set_cons_succ, i64_w, i32_w]
                        rfl
                      refine take_ (i := 12) (N := some 64) (v := ?_) (a' := ?_) #[true, true, true, true, true, true, true, true, true, true, true, true, true, false, false, false, false, false, false, false, false, false, false, false, false, false, false, false, false, false, false, false, false, false, false, false, false, false, false, false, false, false, false, false, false] rfl rfl (take_ofW HT_.out HW_.out (by kernel_rfl)) (fun _ _ _ h => h) (Or.inl ⟨by rfl, ?_⟩) hHeld ?_ ?_
                      rotate_left
                      · rintro w' ⟨s0, s1, s2, s3, s4, s5, s6, s7, s8, s9, s10, s11, s12, s13, s14, s15, s16, s17, s18, s19, s20⟩
                        go_simp
                        with_reducible rfl
                      rotate_left
                      · simp only [Act.put, List.setIfInBounds_toArray, List.set_cons_zero, List.set_cons_succ, i64_w, i32_w]
                        rfl
                      refine pure_ (i := 13) (N := some 65) (v := ?_) (a' := ?_) #[true, true, true, true, true, true, true, true, true, true, true, true, true, true, false, false, false, false, false, false, false, false, false, false, false, false, false, false, false, false, false, false, false, false, false, false, false, false, false, false, false, false, false, false, false] rfl rfl (any_of HT_.out (by kernel_rfl)) (fun _ _ _ h => h) (Or.inl ⟨by rfl, ?_⟩) ?_ ?_
                      rotate_left
                      · intro w'
                        go_simp
                        with_reducible rfl
                      rotate_left
                      · simp only [Act.put, List.setIfInBounds_toArray, List.set_cons_zero, List.set_cons_succ, i64_w, i32_w]
                        rfl
                      refine take_ (i := 14) (N := some 66) (v := ?_) (a' := ?_) #[true, true, true, true, true, true, true, true, true, true, true, true, true, true, true, false, false, false, false, false, false, false, false, false, false, false, false, false, false, false, false, false, false, false, false, false, false, false, false, false, false, false, false, false, false] rfl rfl (take_ofW HT_.out HW_.out (by kernel_rfl)) (fun _ _ _ h => h) (Or.inl ⟨by rfl, ?_⟩) hHeld ?_ ?_
                      rotate_left
                      · rintro w' ⟨s0, s1, s2, s3, s4, s5, s6, s7, s8, s9, s10, s11, s12, s13, s14, s15, s16, s17, s18, s19, s20⟩
                        go_simp
                        with_reducible rfl
                      rotate_left
                      · simp only [Act.put, List.setIfInBounds_toArray, List.set_cons_zero, List.set_cons_succ, i64_w, i32_w]
                        rfl
                      refine one_ (i := 15) (N := some 67) #[true, true, true, true, true, true, true, true, true, true, true, true, true, true, true, true, false, false, false, false, false, false, false, false, false, false, false, false, false, false, false, false, false, false, false, false, false, false, false, false, false, false, false, false, false] rfl rfl (one_of HT_.out (by kernel_rfl)) (by decide) (fun K hK => ?_)
                      refine goes_ Try.func15 (by kernel_rfl) rfl #[.agg #[.bool a1_0, .int .i64 0, .int .i64 0], .agg #[.bool a1_0, .int .i64 a1_1, .bool a1_2, .int .i64 a1_3, .slice A1_4 l1_4.length c1_4]] (by rfl) rfl rfl (by (try simp only [List.map_toArray, List.map_cons, List.map_nil]); first | done | rfl | (simp only [List.length_drop, List.length_take]; rfl)) ?_
                      with_reducible refine (filter_Takes.calls a1_0 0 0 a1_0 a1_1 a1_2 a1_3 _ _ l1_4 true _ ?side1 ?side2 A81.out).mono ?_
                      (case side1 => repeat (first | exact (Kd.C_below HR1_4.out HB.out) | (with_reducible refine Kd.C_alloc ?_ _) | (with_reducible refine Kd.C_drewN ?_ _) | (with_reducible refine Kd.C_drew ?_)))
                      (case side2 => exact HC1_4.out)
                      rintro e w90 ⟨rfl, hb⟩
                      refine ⟨_, rfl, ?_⟩
                      have n0_ := Aside0.mk (blk_below (g := gb313) (o := .cells #[.bool a0_0, .int .i64 a0_1, .int .i64 a0_2] 23 (0, 0)) (by (with_reducible repeat (first | refine blk_drewN ?_ _ | refine blk_drew ?_ | refine blk_alloc ?_ _)); exact BK313.out) hb)
                      have n1_ := Aside0.mk (blk_below (g := gb314) (o := .cells #[.bool a1_0, .int .i64 a1_1, .bool a1_2, .int .i64 a1_3, .slice A1_4 l1_4.length c1_4] 27 (0, 0)) (by (with_reducible repeat (first | refine blk_drewN ?_ _ | refine blk_drew ?_ | refine blk_alloc ?_ _)); exact BK314.out) hb)
                      have n2_ := Aside0.mk (blk_below (g := gb315) (o := .cells #[.bool a2_0, .int .i64 a2_1, .bool a2_2, .int .i64 a2_3, .slice A2_4 l2_4.length c2_4] 27 (0, 0)) (by (with_reducible repeat (first | refine blk_drewN ?_ _ | refine blk_drew ?_ | refine blk_alloc ?_ _)); exact BK315.out) hb)
                      have n3_ := Aside0.mk (blk_below (g := gb320) (o := .cells #[.bool a1_0, .int .i64 a1_1, .bool a2_2, .int .i64 a2_3, .slice A2_4 l2_4.length c2_4] 27 (0, 0)) (by (with_reducible repeat (first | refine blk_drewN ?_ _ | refine blk_drew ?_ | refine blk_alloc ?_ _)); exact BK320.out) hb)
                      have n4_ := Aside0.mk (blk_below (g := gb321) (o := .cells #[.bool a1_0, .int .i64 x322001_52, .int .i64 a1_1] 23 (0, 0)) (by (with_reducible repeat (first | refine blk_drewN ?_ _ | refine blk_drew ?_ | refine blk_alloc ?_ _)); exact BK321.out) hb)
                      have n5_ := Aside0.mk (below_step (by repeat (first | (with_reducible first | exact HB.out | apply below_alloc | apply pw_below_drewN | apply below_drew1 | refine below_set ?_ GE313.out | refine below_set ?_ GE314.out | refine below_set ?_ GE315.out | refine below_set ?_ GE320.out | refine below_set ?_ GE321.out) | exact HB.out)) hb)
                      clear BK313
                      clear BK314
                      clear BK315
                      clear BK320
                      clear BK321
                      clear HB
                      have BK313 := n0_
                      have BK314 := n1_
                      have BK315 := n2_
                      have BK320 := n3_
                      have BK321 := n4_
                      have HB := n5_
                      clear n0_ n1_ n2_ n3_ n4_ n5_
                      (try clear hb)
                      (try clear hb2)
                      (try clear hk)
                      (try clear hi)
                      refine hK.out _ _ ⟨(blk_cell BK313.out 0).trans rfl, (blk_cell BK313.out 1).trans rfl, (blk_cell BK313.out 2).trans rfl, (blk_cell BK314.out 0).trans rfl, (blk_cell BK314.out 1).trans rfl, (blk_cell BK314.out 2).trans rfl, (blk_cell BK314.out 3).trans rfl, (blk_cell BK314.out 4).trans rfl, (blk_cell BK320.out 0).trans rfl, (blk_cell BK320.out 1).trans rfl, (blk_cell BK320.out 2).trans rfl, (blk_cell BK320.out 3).trans rfl, (blk_cell BK320.out 4).trans rfl, (blk_cell BK321.out 0).trans rfl, (blk_cell BK321.out 1).trans rfl, (blk_cell BK321.out 2).trans rfl, (blk_cell BK315.out 0).trans rfl, (blk_cell BK315.out 1).trans rfl, (blk_cell BK315.out 2).trans rfl, (blk_cell BK315.out 3).trans rfl, (blk_cell BK315.out 4).trans rfl⟩ (fun hHeld => ?_)
                      clear hK K
                      refine norm_ (a' := ?_) ?_ ?_
                      rotate_left
                      · show Act.put _ (some 67) _ = _
                        simp only [Act.put, List.setIfInBounds_toArray, List.set_cons_zero, List.set_cons_succ, i64_w, i32_w]
                        rfl
                      refine pure_ (i := 16) (N := some 68) (v := ?_) (a' := ?_) #[true, true, true, true, true, true, true, true, true, true, true, true, true, true, true, true, true, false, false, false, false, false, false, false, false, false, false, false, false, false, false, false, false, false, false, false, false, false, false, false, false, false, false, false, false] rfl rfl (any_of HT_.out (by kernel_rfl)) (fun _ _ _ h => h) (Or.inl ⟨by rfl, ?_⟩) ?_ ?_
                      rotate_left
                      · intro w'
                        go_simp
                        with_reducible rfl
                      rotate_left
                      · simp only [Act.put, List.setIfInBounds_toArray, List.set_cons_zero, List.set_cons_succ, i64_w, i32_w]
                        rfl
                      refine pure_ (i := 17) (N := some 69) (v := ?_) (a' := ?_) #[true, true, true, true, true, true, true, true, true, true, true, true, true, true, true, true, true, true, false, false, false, false, false, false, false, false, false, false, false, false, false, false, false, false, false, false, false, false, false, false, false, false, false, false, false] rfl rfl (any_of HT_.out (by kernel_rfl)) (fun _ _ _ h => h) (Or.inl ⟨by rfl, ?_⟩) ?_ ?_
                      rotate_left
                      · intro w'
                        go_simp
                        with_reducible rfl
                      rotate_left
                      · simp only [Act.put, List.setIfInBounds_toArray, List.set_cons_zero, List.set_cons_succ, i64_w, i32_w]
                        rfl
                      refine pure_ (i := 18) (N := some 70) (v := ?_) (a' := ?_) #[true, true, true, true, true, true, true, true, true, true, true, true, true, true, true, true, true, true, true, false, false, false, false, false, false, false, false, false, false, false, false, false, false, false, false, false, false, false, false, false, false, false, false, false, false] rfl rfl (any_of HT_.out (by kernel_rfl)) (fun _ _ _ h => h) (Or.inl ⟨by rfl, ?_⟩) ?_ ?_
                      rotate_left
                      · intro w'
                        go_simp
                        with_reducible rfl
                      rotate_left
                      · simp only [Act.put, List.setIfInBounds_toArray, List.set_cons_zero, List.set_cons_succ, i64_w, i32_w]
                        rfl
                      refine take_ (i := 19) (N := some 71) (v := ?_) (a' := ?_) #[true, true, true, true, true, true, true, true, true, true, true, true, true, true, true, true, true, true, true, true, false, false, false, false, false, false, false, false, false, false, false, false, false, false, false, false, false, false, false, false, false, false, false, false, false] rfl rfl (take_ofW HT_.out HW_.out (by kernel_rfl)) (fun _ _ _ h => h) (Or.inl ⟨by rfl, ?_⟩) hHeld ?_ ?_
                      rotate_left
                      · rintro w' ⟨s0, s1, s2, s3, s4, s5, s6, s7, s8, s9, s10, s11, s12, s13, s14, s15, s16, s17, s18, s19, s20⟩
                        go_simp
                        with_reducible rfl
                      rotate_left
                      · simp only [Act.put, List.setIfInBounds_toArray, List.set_cons_zero, List.set_cons_succ, i64_w, i32_w]
                        rfl
                      refine pure_ (i := 20) (N := some 72) (v := ?_) (a' := ?_) #[true, true, true, true, true, true, true, true, true, true, true, true, true, true, true, true, true, true, true, true, true, false, false, false, false, false, false, false, false, false, false, false, false, false, false, false, false, false, false, false, false, false, false, false, false] rfl rfl (any_of HT_.out (by kernel_rfl)) (fun _ _ _ h => h) (Or.inl ⟨by rfl, ?_⟩) ?_ ?_
                      rotate_left
                      · intro w'
                        go_simp
                        with_reducible rfl
                      rotate_left
                      · simp only [Act.put, List.setIfInBounds_toArray, List.set_cons_zero, List.set_cons_succ, i64_w, i32_w]
                        rfl
                      refine pure_ (i := 21) (N := some 73) (v := ?_) (a' := ?_) #[true, true, true, true, true, true, true, true, true, true, true, true, true, true, true, true, true, true, true, true, true, true, false, false, false, false, false, false, false, false, false, false, false, false, false, false, false, false, false, false, false, false, false, false, false] rfl rfl (any_of HT_.out (by kernel_rfl)) (fun _ _ _ h => h) (Or.inl ⟨by rfl, ?_⟩) ?_ ?_
                      rotate_left
                      · intro w'
                        go_simp
                        with_reducible rfl
                      rotate_left
                      · simp only [Act.put, List.setIfInBounds_toArray, List.set_cons_zero, List.set_cons_succ, i64_w, i32_w]
                        rfl
                      refine take_ (i := 22) (N := some 74) (v := ?_) (a' := ?_) #[true, true, true, true, true, true, true, true, true, true, true, true, true, true, true, true, true, true, true, true, true, true, true, false, false, false, false, false, false, false, false, false, false, false, false, false, false, false, false, false, false, false, false, false, false] rfl rfl (take_ofW HT_.out HW_.out (by kernel_rfl)) (fun _ _ _ h => h) (Or.inl ⟨by rfl, ?_⟩) hHeld ?_ ?_
                      rotate_left
                      · rintro w' ⟨s0, s1, s2, s3, s4, s5, s6, s7, s8, s9, s10, s11, s12, s13, s14, s15, s16, s17, s18, s19, s20⟩
                        go_simp
                        with_reducible rfl
                      rotate_left
                      · simp only [Act.put, List.setIfInBounds_toArray, List.set_cons_zero, List.set_cons_succ, i64_w, i32_w]
                        rfl
                      refine one_ (i := 23) (N := some 75) #[true, true, true, true, true, true, true, true, true, true, true, true, true, true, true, true, true, true, true, true, true, true, true, true, false, false, false, false, false, false, false, false, false, false, false, false, false, false, false, false, false, false, false, false, false] rfl rfl (one_of HT_.out (by kernel_rfl)) (by decide) (fun K hK => ?_)
                      refine goes_ Try.func15 (by kernel_rfl) rfl #[.agg #[.bool (!a1_0), .int .i64 0, .int .i64 0], .agg #[.bool a1_0, .int .i64 a1_1, .bool a1_2, .int .i64 a1_3, .slice A1_4 l1_4.length c1_4]] (by rfl) rfl rfl (by (try simp only [List.map_toArray, List.map_cons, List.map_nil]); first | done | rfl | (simp only [List.length_drop, List.length_take]; rfl)) ?_
                      with_reducible refine (filter_Takes.calls (!a1_0) 0 0 a1_0 a1_1 a1_2 a1_3 _ _ l1_4 false _ ?side1 ?side2 A83.out).mono ?_
                      (case side1 => repeat (first | exact (Kd.C_below HR1_4.out HB.out) | (with_reducible refine Kd.C_alloc ?_ _) | (with_reducible refine Kd.C_drewN ?_ _) | (with_reducible refine Kd.C_drew ?_)))
                      (case side2 => exact HC1_4.out)
                      rintro e w91 ⟨rfl, hb⟩
                      refine ⟨_, rfl, ?_⟩
                      have n0_ := Aside0.mk (blk_below (g := gb313) (o := .cells #[.bool a0_0, .int .i64 a0_1, .int .i64 a0_2] 23 (0, 0)) (by (with_reducible repeat (first | refine blk_drewN ?_ _ | refine blk_drew ?_ | refine blk_alloc ?_ _)); exact BK313.out) hb)
                      have n1_ := Aside0.mk (blk_below (g := gb314) (o := .cells #[.bool a1_0, .int .i64 a1_1, .bool a1_2, .int .i64 a1_3, .slice A1_4 l1_4.length c1_4] 27 (0, 0)) (by (with_reducible repeat (first | refine blk_drewN ?_ _ | refine blk_drew ?_ | refine blk_alloc ?_ _)); exact BK314.out) hb)
                      have n2_ := Aside0.mk (blk_below (g := gb315) (o := .cells #[.bool a2_0, .int .i64 a2_1, .bool a2_2, .int .i64 a2_3, .slice A2_4 l2_4.length c2_4] 27 (0, 0)) (by (with_reducible repeat (first | refine blk_drewN ?_ _ | refine blk_drew ?_ | refine blk_alloc ?_ _)); exact BK315.out) hb)
                      have n3_ := Aside0.mk (blk_below (g := gb320) (o := .cells #[.bool a1_0, .int .i64 a1_1, .bool a2_2, .int .i64 a2_3, .slice A2_4 l2_4.length c2_4] 27 (0, 0)) (by (with_reducible repeat (first | refine blk_drewN ?_ _ | refine blk_drew ?_ | refine blk_alloc ?_ _)); exact BK320.out) hb)
                      have n4_ := Aside0.mk (blk_below (g := gb321) (o := .cells #[.bool a1_0, .int .i64 x322001_52, .int .i64 a1_1] 23 (0, 0)) (by (with_reducible repeat (first | refine blk_drewN ?_ _ | refine blk_drew ?_ | refine blk_alloc ?_ _)); exact BK321.out) hb)
                      have n5_ := Aside0.mk (below_step (by repeat (first | (with_reducible first | exact HB.out | apply below_alloc | apply pw_below_drewN | apply below_drew1 | refine below_set ?_ GE313.out | refine below_set ?_ GE314.out | refine below_set ?_ GE315.out | refine below_set ?_ GE320.out | refine below_set ?_ GE321.out) | exact HB.out)) hb)
                      clear BK313
                      clear BK314
                      clear BK315
                      clear BK320
                      clear BK321
                      clear HB
                      have BK313 := n0_
                      have BK314 := n1_
                      have BK315 := n2_
                      have BK320 := n3_
                      have BK321 := n4_
                      have HB := n5_
                      clear n0_ n1_ n2_ n3_ n4_ n5_
                      (try clear hb)
                      (try clear hb2)
                      (try clear hk)
                      (try clear hi)
                      refine hK.out _ _ ⟨(blk_cell BK313.out 0).trans rfl, (blk_cell BK313.out 1).trans rfl, (blk_cell BK313.out 2).trans rfl, (blk_cell BK314.out 0).trans rfl, (blk_cell BK314.out 1).trans rfl, (blk_cell BK314.out 2).trans rfl, (blk_cell BK314.out 3).trans rfl, (blk_cell BK314.out 4).trans rfl, (blk_cell BK320.out 0).trans rfl, (blk_cell BK320.out 1).trans rfl, (blk_cell BK320.out 2).trans rfl, (blk_cell BK320.out 3).trans rfl, (blk_cell BK320.out 4).trans rfl, (blk_cell BK321.out 0).trans rfl, (blk_cell BK321.out 1).trans rfl, (blk_cell BK321.out 2).trans rfl, (blk_cell BK315.out 0).trans rfl, (blk_cell BK315.out 1).trans rfl, (blk_cell BK315.out 2).trans rfl, (blk_cell BK315.out 3).trans rfl, (blk_cell BK315.out 4).trans rfl⟩ (fun hHeld => ?_)
                      clear hK K
                      refine norm_ (a' := ?_) ?_ ?_
                      rotate_left
                      · show Act.put _ (some 75) _ = _
                        simp only [Act.put, List.setIfInBounds_toArray, List.set_cons_zero, List.set_cons_succ, i64_w, i32_w]
                        rfl
                      refine pure_ (i := 24) (N := some 76) (v := ?_) (a' := ?_) #[true, true, true, true, true, true, true, true, true, true, true, true, true, true, true, true, true, true, true, true, true, true, true, true, true, false, false, false, false, false, false, false, false, false, false, false, false, false, false, false, false, false, false, false, false] rfl rfl (any_of HT_.out (by kernel_rfl)) (fun _ _ _ h => h) (Or.inl ⟨by rfl, ?_⟩) ?_ ?_
                      rotate_left
                      · intro w'
                        go_simp
                        with_reducible rfl
                      rotate_left
                      · simp only [Act.put, List.setIfInBounds_toArray, List.set_cons_zero, List.set_cons_succ, i64_w, i32_w]
                        rfl
                      refine pure_ (i := 25) (N := some 77) (v := ?_) (a' := ?_) #[true, true, true, true, true, true, true, true, true, true, true, true, true, true, true, true, true, true, true, true, true, true, true, true, true, true, false, false, false, false, false, false, false, false, false, false, false, false, false, false, false, false, false, false, false] rfl rfl (any_of HT_.out (by kernel_rfl)) (fun _ _ _ h => h) (Or.inl ⟨by rfl, ?_⟩) ?_ ?_
                      rotate_left
                      · intro w'
                        go_simp
                        with_reducible rfl
                      rotate_left
                      · simp only [Act.put, List.setIfInBounds_toArray, List.set_cons_zero, List.set_cons_succ, i64_w, i32_w]
                        rfl
                      refine pure_ (i := 26) (N := some 78) (v := ?_) (a' := ?_) #[true, true, true, true, true, true, true, true, true, true, true, true, true, true, true, true, true, true, true, true, true, true, true, true, true, true, true, false, false, false, false, false, false, false, false, false, false, false, false, false, false, false, false, false, false] rfl rfl (any_of HT_.out (by kernel_rfl)) (fun _ _ _ h => h) (Or.inl ⟨by rfl, ?_⟩) ?_ ?_
                      rotate_left
                      · intro w'
                        go_simp
                        with_reducible rfl
                      rotate_left
                      · simp only [Act.put, List.setIfInBounds_toArray, List.set_cons_zero, List.set_cons_succ, i64_w, i32_w]
                        rfl
                      refine pure_ (i := 30) (N := some 82) (v := ?_) (a' := ?_) #[true, true, true, true, true, true, true, true, true, true, true, true, true, true, true, true, true, true, true, true, true, true, true, true, true, true, true, false, false, false, true, false, false, false, false, false, false, false, false, false, false, false, false, false, false] rfl rfl (any_of HT_.out (by kernel_rfl)) (fun _ _ _ h => h) (Or.inl ⟨by rfl, ?_⟩) ?_ ?_
                      rotate_left
                      · intro w'
                        go_simp
                        with_reducible rfl
                      rotate_left
                      · simp only [Act.put, List.setIfInBounds_toArray, List.set_cons_zero, List.set_cons_succ, i64_w, i32_w]
                        rfl
                      refine pure_ (i := 32) (N := some 84) (v := ?_) (a' := ?_) #[true, true, true, true, true, true, true, true, true, true, true, true, true, true, true, true, true, true, true, true, true, true, true, true, true, true, true, false, false, false, true, false, true, false, false, false, false, false, false, false, false, false, false, false, false] rfl rfl (any_of HT_.out (by kernel_rfl)) (fun _ _ _ h => h) (Or.inl ⟨by rfl, ?_⟩) ?_ ?_
                      rotate_left
                      · intro w'
                        go_simp
                        with_reducible rfl
                      rotate_left
                      · simp only [Act.put, List.setIfInBounds_toArray, List.set_cons_zero, List.set_cons_succ, i64_w, i32_w]
                        rfl
                      refine take_ (i := 27) (N := some 79) (v := ?_) (a' := ?_) #[true, true, true, true, true, true, true, true, true, true, true, true, true, true, true, true, true, true, true, true, true, true, true, true, true, true, true, true, false, false, true, false, true, false, false, false, false, false, false, false, false, false, false, false, false] rfl rfl (take_ofW HT_.out HW_.out (by kernel_rfl)) (fun _ _ _ h => h) (Or.inl ⟨by rfl, ?_⟩) hHeld ?_ ?_
                      rotate_left
                      · rintro w' ⟨s0, s1, s2, s3, s4, s5, s6, s7, s8, s9, s10, s11, s12, s13, s14, s15, s16, s17, s18, s19, s20⟩
                        go_simp
                        with_reducible rfl
                      rotate_left
                      · simp only [Act.put, List.setIfInBounds_toArray, List.set_cons_zero, List.set_cons_succ, i64_w, i32_w]
                        rfl
                      refine take_ (i := 28) (N := some 80) (v := ?_) (a' := ?_) #[true, true, true, true, true, true, true, true, true, true, true, true, true, true, true, true, true, true, true, true, true, true, true, true, true, true, true, true, true, false, true, false, true, false, false, false, false, false, false, false, false, false, false, false, false] rfl rfl (take_ofW HT_.out HW_.out (by kernel_rfl)) (fun _ _ _ h => h) (Or.inl ⟨by rfl, ?_⟩) hHeld ?_ ?_
                      rotate_left
                      · rintro w' ⟨s0, s1, s2, s3, s4, s5, s6, s7, s8, s9, s10, s11, s12, s13, s14, s15, s16, s17, s18, s19, s20⟩
                        go_simp
                        with_reducible rfl
                      rotate_left
                      · simp only [Act.put, List.setIfInBounds_toArray, List.set_cons_zero, List.set_cons_succ, i64_w, i32_w]
                        rfl
                      refine take_ (i := 31) (N := some 83) (v := ?_) (a' := ?_) #[true, true, true, true, true, true, true, true, true, true, true, true, true, true, true, true, true, true, true, true, true, true, true, true, true, true, true, true, true, false, true, true, true, false, false, false, false, false, false, false, false, false, false, false, false] rfl rfl (take_ofW HT_.out HW_.out (by kernel_rfl)) (fun _ _ _ h => h) (Or.inl ⟨by rfl, ?_⟩) hHeld ?_ ?_
                      rotate_left
                      · rintro w' ⟨s0, s1, s2, s3, s4, s5, s6, s7, s8, s9, s10, s11, s12, s13, s14, s15, s16, s17, s18, s19, s20⟩
                        go_simp
                        with_reducible rfl
                      rotate_left
                      · simp only [Act.put, List.setIfInBounds_toArray, List.set_cons_zero, List.set_cons_succ, i64_w, i32_w]
                        rfl
                      refine take_ (i := 33) (N := some 85) (v := ?_) (a' := ?_) #[true, true, true, true, true, true, true, true, true, true, true, true, true, true, true, true, true, true, true, true, true, true, true, true, true, true, true, true, true, false, true, true, true, true, false, false, false, false, false, false, false, false, false, false, false] rfl rfl (take_ofW HT_.out HW_.out (by kernel_rfl)) (fun _ _ _ h => h) (Or.inl ⟨by rfl, ?_⟩) hHeld ?_ ?_
                      rotate_left
                      · rintro w' ⟨s0, s1, s2, s3, s4, s5, s6, s7, s8, s9, s10, s11, s12, s13, s14, s15, s16, s17, s18, s19, s20⟩
                        go_simp
                        with_reducible rfl
                      rotate_left
                      · simp only [Act.put, List.setIfInBounds_toArray, List.set_cons_zero, List.set_cons_succ, i64_w, i32_w]
                        rfl
                      refine pure_ (i := 34) (N := some 86) (v := ?_) (a' := ?_) #[true, true, true, true, true, true, true, true, true, true, true, true, true, true, true, true, true, true, true, true, true, true, true, true, true, true, true, true, true, false, true, true, true, true, true, false, false, false, false, false, false, false, false, false, false] rfl rfl (any_of HT_.out (by kernel_rfl)) (fun _ _ _ h => h) (Or.inl ⟨by rfl, ?_⟩) ?_ ?_
                      rotate_left
                      · intro w'
                        go_simp
                        with_reducible rfl
                      rotate_left
                      · simp only [Act.put, List.setIfInBounds_toArray, List.set_cons_zero, List.set_cons_succ, i64_w, i32_w]
                        rfl
                      refine one_ (i := 29) (N := some 81) #[true, true, true, true, true, true, true, true, true, true, true, true, true, true, true, true, true, true, true, true, true, true, true, true, true, true, true, true, true, true, true, true, true, true, true, false, false, false, false, false, false, false, false, false, false] rfl rfl (one_of HT_.out (by kernel_rfl)) (by decide) (fun K hK => ?_)
                      refine goes_ Try.func15 (by kernel_rfl) rfl #[.agg #[.bool a1_0, .int .i64 x322001_52, .int .i64 a1_1], .agg #[.bool a2_0, .int .i64 a2_1, .bool a2_2, .int .i64 a2_3, .slice A2_4 l2_4.length c2_4]] (by rfl) rfl rfl (by (try simp only [List.map_toArray, List.map_cons, List.map_nil]); first | done | rfl | (simp only [List.length_drop, List.length_take]; rfl)) ?_
                      with_reducible refine (filter_Takes.calls a1_0 x322001_52 a1_1 a2_0 a2_1 a2_2 a2_3 _ _ l2_4 t326 _ ?side1 ?side2 A85.out).mono ?_
                      (case side1 => repeat (first | exact (Kd.C_below HR2_4.out HB.out) | (with_reducible refine Kd.C_alloc ?_ _) | (with_reducible refine Kd.C_drewN ?_ _) | (with_reducible refine Kd.C_drew ?_)))
                      (case side2 => exact HC2_4.out)
                      rintro e w92 ⟨rfl, hb⟩
                      refine ⟨_, rfl, ?_⟩
                      have n0_ := Aside0.mk (blk_below (g := gb313) (o := .cells #[.bool a0_0, .int .i64 a0_1, .int .i64 a0_2] 23 (0, 0)) (by (with_reducible repeat (first | refine blk_drewN ?_ _ | refine blk_drew ?_ | refine blk_alloc ?_ _)); exact BK313.out) hb)
                      have n1_ := Aside0.mk (blk_below (g := gb314) (o := .cells #[.bool a1_0, .int .i64 a1_1, .bool a1_2, .int .i64 a1_3, .slice A1_4 l1_4.length c1_4] 27 (0, 0)) (by (with_reducible repeat (first | refine blk_drewN ?_ _ | refine blk_drew ?_ | refine blk_alloc ?_ _)); exact BK314.out) hb)
                      have n2_ := Aside0.mk (blk_below (g := gb315) (o := .cells #[.bool a2_0, .int .i64 a2_1, .bool a2_2, .int .i64 a2_3, .slice A2_4 l2_4.length c2_4] 27 (0, 0)) (by (with_reducible repeat (first | refine blk_drewN ?_ _ | refine blk_drew ?_ | refine blk_alloc ?_ _)); exact BK315.out) hb)
                      have n3_ := Aside0.mk (blk_below (g := gb320) (o := .cells #[.bool a1_0, .int .i64 a1_1, .bool a2_2, .int .i64 a2_3, .slice A2_4 l2_4.length c2_4] 27 (0, 0)) (by (with_reducible repeat (first | refine blk_drewN ?_ _ | refine blk_drew ?_ | refine blk_alloc ?_ _)); exact BK320.out) hb)
                      have n4_ := Aside0.mk (blk_below (g := gb321) (o := .cells #[.bool a1_0, .int .i64 x322001_52, .int .i64 a1_1] 23 (0, 0)) (by (with_reducible repeat (first | refine blk_drewN ?_ _ | refine blk_drew ?_ | refine blk_alloc ?_ _)); exact BK321.out) hb)
                      have n5_ := Aside0.mk (below_step (by repeat (first | (with_reducible first | exact HB.out | apply below_alloc | apply pw_below_drewN | apply below_drew1 | refine below_set ?_ GE313.out | refine below_set ?_ GE314.out | refine below_set ?_ GE315.out | refine below_set ?_ GE320.out | refine below_set ?_ GE321.out) | exact HB.out)) hb)
                      clear BK313
                      clear BK314
                      clear BK315
                      clear BK320
                      clear BK321
                      clear HB
                      have BK313 := n0_
                      have BK314 := n1_
                      have BK315 := n2_
                      have BK320 := n3_
                      have BK321 := n4_
                      have HB := n5_
                      clear n0_ n1_ n2_ n3_ n4_ n5_
                      (try clear hb)
                      (try clear hb2)
                      (try clear hk)
                      (try clear hi)
                      refine hK.out _ _ ⟨(blk_cell BK313.out 0).trans rfl, (blk_cell BK313.out 1).trans rfl, (blk_cell BK313.out 2).trans rfl, (blk_cell BK314.out 0).trans rfl, (blk_cell BK314.out 1).trans rfl, (blk_cell BK314.out 2).trans rfl, (blk_cell BK314.out 3).trans rfl, (blk_cell BK314.out 4).trans rfl, (blk_cell BK320.out 0).trans rfl, (blk_cell BK320.out 1).trans rfl, (blk_cell BK320.out 2).trans rfl, (blk_cell BK320.out 3).trans rfl, (blk_cell BK320.out 4).trans rfl, (blk_cell BK321.out 0).trans rfl, (blk_cell BK321.out 1).trans rfl, (blk_cell BK321.out 2).trans rfl, (blk_cell BK315.out 0).trans rfl, (blk_cell BK315.out 1).trans rfl, (blk_cell BK315.out 2).trans rfl, (blk_cell BK315.out 3).trans rfl, (blk_cell BK315.out 4).trans rfl⟩ (fun hHeld => ?_)
                      clear hK K
                      refine norm_ (a' := ?_) ?_ ?_
                      rotate_left
                      · show Act.put _ (some 81) _ = _
                        simp only [Act.put, List.setIfInBounds_toArray, List.set_cons_zero, List.set_cons_succ, i64_w, i32_w]
                        rfl
                      refine pure_ (i := 35) (N := some 87) (v := ?_) (a' := ?_) #[true, true, true, true, true, true, true, true, true, true, true, true, true, true, true, true, true, true, true, true, true, true, true, true, true, true, true, true, true, true, true, true, true, true, true, true, false, false, false, false, false, false, false, false, false] rfl rfl (any_of HT_.out (by kernel_rfl)) (fun _ _ _ h => h) (Or.inl ⟨by rfl, ?_⟩) ?_ ?_
                      rotate_left
                      · intro w'
                        go_simp
                        with_reducible rfl
                      rotate_left
                      · simp only [Act.put, List.setIfInBounds_toArray, List.set_cons_zero, List.set_cons_succ, i64_w, i32_w]
                        rfl
                      refine pure_ (i := 36) (N := some 88) (v := ?_) (a' := ?_) #[true, true, true, true, true, true, true, true, true, true, true, true, true, true, true, true, true, true, true, true, true, true, true, true, true, true, true, true, true, true, true, true, true, true, true, true, true, false, false, false, false, false, false, false, false] rfl rfl (any_of HT_.out (by kernel_rfl)) (fun _ _ _ h => h) (Or.inl ⟨by rfl, ?_⟩) ?_ ?_
                      rotate_left
                      · intro w'
                        go_simp
                        with_reducible rfl
                      rotate_left
                      · simp only [Act.put, List.setIfInBounds_toArray, List.set_cons_zero, List.set_cons_succ, i64_w, i32_w]
                        rfl
                      refine pure_ (i := 38) (N := some 90) (v := ?_) (a' := ?_) #[true, true, true, true, true, true, true, true, true, true, true, true, true, true, true, true, true, true, true, true, true, true, true, true, true, true, true, true, true, true, true, true, true, true, true, true, true, false, true, false, false, false, false, false, false] rfl rfl (any_of HT_.out (by kernel_rfl)) (fun _ _ _ h => h) (Or.inl ⟨by rfl, ?_⟩) ?_ ?_
                      rotate_left
                      · intro w'
                        go_simp
                        with_reducible rfl
                      rotate_left
                      · simp only [Act.put, List.setIfInBounds_toArray, List.set_cons_zero, List.set_cons_succ, i64_w, i32_w]
                        rfl
                      refine take_ (i := 37) (N := some 89) (v := ?_) (a' := ?_) #[true, true, true, true, true, true, true, true, true, true, true, true, true, true, true, true, true, true, true, true, true, true, true, true, true, true, true, true, true, true, true, true, true, true, true, true, true, true, true, false, false, false, false, false, false] rfl rfl (take_ofW HT_.out HW_.out (by kernel_rfl)) (fun _ _ _ h => h) (Or.inl ⟨by rfl, ?_⟩) hHeld ?_ ?_
                      rotate_left
                      · rintro w' ⟨s0, s1, s2, s3, s4, s5, s6, s7, s8, s9, s10, s11, s12, s13, s14, s15, s16, s17, s18, s19, s20⟩
                        go_simp
                        with_reducible rfl
                      rotate_left
                      · simp only [Act.put, List.setIfInBounds_toArray, List.set_cons_zero, List.set_cons_succ, i64_w, i32_w]
                        rfl
                      refine take_ (i := 39) (N := some 91) (v := ?_) (a' := ?_) #[true, true, true, true, true, true, true, true, true, true, true, true, true, true, true, true, true, true, true, true, true, true, true, true, true, true, true, true, true, true, true, true, true, true, true, true, true, true, true, true, false, false, false, false, false] rfl rfl (take_ofW HT_.out HW_.out (by kernel_rfl)) (fun _ _ _ h => h) (Or.inl ⟨by rfl, ?_⟩) hHeld ?_ ?_
                      rotate_left
                      · rintro w' ⟨s0, s1, s2, s3, s4, s5, s6, s7, s8, s9, s10, s11, s12, s13, s14, s15, s16, s17, s18, s19, s20⟩
                        go_simp
                        with_reducible rfl
                      rotate_left
                      · simp only [Act.put, List.setIfInBounds_toArray, List.set_cons_zero, List.set_cons_succ, i64_w, i32_w]
                        rfl
                      refine pure_ (i := 40) (N := some 92) (v := ?_) (a' := ?_) #[true, true, true, true, true, true, true, true, true, true, true, true, true, true, true, true, true, true, true, true, true, true, true, true, true, true, true, true, true, true, true, true, true, true, true, true, true, true, true, true, true, false, false, false, false] rfl rfl (any_of HT_.out (by kernel_rfl)) (fun _ _ _ h => h) (Or.inl ⟨by rfl, ?_⟩) ?_ ?_
                      rotate_left
                      · intro w'
                        go_simp
                        with_reducible rfl
                      rotate_left
                      · simp only [Act.put, List.setIfInBounds_toArray, List.set_cons_zero, List.set_cons_succ, i64_w, i32_w]
                        rfl
                      refine pure_ (i := 41) (N := some 93) (v := ?_) (a' := ?_) #[true, true, true, true, true, true, true, true, true, true, true, true, true, true, true, true, true, true, true, true, true, true, true, true, true, true, true, true, true, true, true, true, true, true, true, true, true, true, true, true, true, true, false, false, false] rfl rfl (any_of HT_.out (by kernel_rfl)) (fun _ _ _ h => h) (Or.inl ⟨by rfl, ?_⟩) ?_ ?_
                      rotate_left
                      · intro w'
                        go_simp
                        with_reducible rfl
                      rotate_left
                      · simp only [Act.put, List.setIfInBounds_toArray, List.set_cons_zero, List.set_cons_succ, i64_w, i32_w]
                        rfl
                      refine pure_ (i := 42) (N := some 94) (v := ?_) (a' := ?_) #[true, true, true, true, true, true, true, true, true, true, true, true, true, true, true, true, true, true, true, true, true, true, true, true, true, true, true, true, true, true, true, true, true, true, true, true, true, true, true, true, true, true, true, false, false] rfl rfl (any_of HT_.out (by kernel_rfl)) (fun _ _ _ h => h) (Or.inl ⟨by rfl, ?_⟩) ?_ ?_
                      rotate_left
                      · intro w'
                        go_simp
                        with_reducible rfl
                      rotate_left
                      · simp only [Act.put, List.setIfInBounds_toArray, List.set_cons_zero, List.set_cons_succ, i64_w, i32_w]
                        rfl
                      refine pure_ (i := 43) (N := some 95) (v := ?_) (a' := ?_) #[true, true, true, true, true, true, true, true, true, true, true, true, true, true, true, true, true, true, true, true, true, true, true, true, true, true, true, true, true, true, true, true, true, true, true, true, true, true, true, true, true, true, true, true, false] rfl rfl (any_of HT_.out (by kernel_rfl)) (fun _ _ _ h => h) (Or.inl ⟨by rfl, ?_⟩) ?_ ?_
                      rotate_left
                      · intro w'
                        go_simp
                        with_reducible rfl
                      rotate_left
                      · simp only [Act.put, List.setIfInBounds_toArray, List.set_cons_zero, List.set_cons_succ, i64_w, i32_w]
                        rfl
                      refine pure_ (i := 44) (N := some 6) (v := ?_) (a' := ?_) #[true, true, true, true, true, true, true, true, true, true, true, true, true, true, true, true, true, true, true, true, true, true, true, true, true, true, true, true, true, true, true, true, true, true, true, true, true, true, true, true, true, true, true, true, true] rfl rfl (any_of HT_.out (by kernel_rfl)) (fun _ _ _ h => h) (Or.inl ⟨by rfl, ?_⟩) ?_ ?_
                      rotate_left
                      · intro w'
                        go_simp
                        with_reducible rfl
                      rotate_left
                      · simp only [Act.put, List.setIfInBounds_toArray, List.set_cons_zero, List.set_cons_succ, i64_w, i32_w]
                        rfl
                      refine done_ (done_of HT_.out (by kernel_rfl)) ?_
                      try go_wp2
                      go_ret
                      exact ⟨by first | rfl | (simp [errW_none, errW_some] <;> rfl) | (simp [*, errW_none, errW_some] <;> rfl), by repeat (first | (with_reducible first | exact HB.out | apply below_alloc | apply pw_below_drewN | apply below_drew1 | refine below_set ?_ GE313.out | refine below_set ?_ GE314.out | refine below_set ?_ GE315.out | refine below_set ?_ GE320.out | refine below_set ?_ GE321.out) | exact HB.out)⟩
                    · rw [if_neg c86] at H
                      have c86b0 : (a2_0 == a1_0) = false := by simpa using c86
                      (try (have c86b1 : decide (a2_0 = a1_0) = false := by simpa using c86))
                      (try (have c86b2 : (a2_0 == a1_0) = false := by simpa using c86))
                      (try (have c86b3 : ¬ (a2_0 = a1_0) := by simpa using c86))
                      clear c86
                      obtain rfl := Option.some.inj H
                      try go_wp2
                      have n0_ := Aside0.mk (blk_drew BK313.out)
                      have n1_ := Aside0.mk (blk_drew BK314.out)
                      have n2_ := Aside0.mk (blk_drew BK315.out)
                      have n3_ := Aside0.mk (blk_drew BK320.out)
                      have n4_ := Aside0.mk (blk_drew BK321.out)
                      have n5_ := Aside0.mk (below_drew1 HB.out)
                      clear BK313
                      clear BK314
                      clear BK315
                      clear BK320
                      clear BK321
                      clear HB
                      have BK313 := n0_
                      have BK314 := n1_
                      have BK315 := n2_
                      have BK320 := n3_
                      have BK321 := n4_
                      have HB := n5_
                      clear n0_ n1_ n2_ n3_ n4_ n5_
                      refine start_ (n := 45) (S := fun w' => w'.cell? ⟨gb313, 0, none⟩ = some (.bool a0_0) ∧ w'.cell? ⟨gb313, 1, none⟩ = some (.int .i64 a0_1) ∧ w'.cell? ⟨gb313, 2, none⟩ = some (.int .i64 a0_2) ∧ w'.cell? ⟨gb314, 0, none⟩ = some (.bool a1_0) ∧ w'.cell? ⟨gb314, 1, none⟩ = some (.int .i64 a1_1) ∧ w'.cell? ⟨gb314, 2, none⟩ = some (.bool a1_2) ∧ w'.cell? ⟨gb314, 3, none⟩ = some (.int .i64 a1_3) ∧ w'.cell? ⟨gb314, 4, none⟩ = some (.slice A1_4 l1_4.length c1_4) ∧ w'.cell? ⟨gb320, 0, none⟩ = some (.bool a1_0) ∧ w'.cell? ⟨gb320, 1, none⟩ = some (.int .i64 a1_1) ∧ w'.cell? ⟨gb320, 2, none⟩ = some (.bool a2_2) ∧ w'.cell? ⟨gb320, 3, none⟩ = some (.int .i64 a2_3) ∧ w'.cell? ⟨gb320, 4, none⟩ = some (.slice A2_4 l2_4.length c2_4) ∧ w'.cell? ⟨gb321, 0, none⟩ = some (.bool a1_0) ∧ w'.cell? ⟨gb321, 1, none⟩ = some (.int .i64 x322001_52) ∧ w'.cell? ⟨gb321, 2, none⟩ = some (.int .i64 a1_1) ∧ w'.cell? ⟨gb315, 0, none⟩ = some (.bool a2_0) ∧ w'.cell? ⟨gb315, 1, none⟩ = some (.int .i64 a2_1) ∧ w'.cell? ⟨gb315, 2, none⟩ = some (.bool a2_2) ∧ w'.cell? ⟨gb315, 3, none⟩ = some (.int .i64 a2_3) ∧ w'.cell? ⟨gb315, 4, none⟩ = some (.slice A2_4 l2_4.length c2_4)) (ds := []) #[false, false, false, false, false, false, false, false, false, false, false, false, false, false, false, false, false, false, false, false, false, false, false, false, false, false, false, false, false, false, false, false, false, false, false, false, false, false, false, false, false, false, false, false, false] (by kernel_rfl) rfl rfl ⟨(blk_cell BK313.out 0).trans rfl, (blk_cell BK313.out 1).trans rfl, (blk_cell BK313.out 2).trans rfl, (blk_cell BK314.out 0).trans rfl, (blk_cell BK314.out 1).trans rfl, (blk_cell BK314.out 2).trans rfl, (blk_cell BK314.out 3).trans rfl, (blk_cell BK314.out 4).trans rfl, (blk_cell BK320.out 0).trans rfl, (blk_cell BK320.out 1).trans rfl, (blk_cell BK320.out 2).trans rfl, (blk_cell BK320.out 3).trans rfl, (blk_cell BK320.out 4).trans rfl, (blk_cell BK321.out 0).trans rfl, (blk_cell BK321.out 1).trans rfl, (blk_cell BK321.out 2).trans rfl, (blk_cell BK315.out 0).trans rfl, (blk_cell BK315.out 1).trans rfl, (blk_cell BK315.out 2).trans rfl, (blk_cell BK315.out 3).trans rfl, (blk_cell BK315.out 4).trans rfl⟩ (fun hHeld => ?_); refine with_tabW phaetonlaw07_FilterData.tab10 phaetonlaw07_FilterData.bits10 (fun HT_ HW_ => ?_)
                      generalize wc.drew = w93 at BK313 BK314 BK315 BK320 BK321 HB hHeld ⊢
                      refine pure_ (i := 0) (N := some 52) (v := ?_) (a' := ?_) #[true, false, false, false, false, false, false, false, false, false, false, false, false, false, false, false, false, false, false, false, false, false, false, false, false, false, false, false, false, false, false, false, false, false, false, false, false, false, false, false, false, false, false, false, false] rfl rfl (any_of HT_.out (by kernel_rfl)) (fun _ _ _ h => h) (Or.inl ⟨by rfl, ?_⟩) ?_ ?_
                      rotate_left
                      · intro w'
                        go_simp
                        with_reducible rfl
                      rotate_left
                      · simp only [Act.put, List.setIfInBounds_toArray, List.set_cons_zero, List.set_cons_succ, i64_w, i32_w]
                        rfl
                      refine pure_ (i := 1) (N := some 53) (v := ?_) (a' := ?_) #[true, true, false, false, false, false, false, false, false, false, false, false, false, false, false, false, false, false, false, false, false, false, false, false, false, false, false, false, false, false, false, false, false, false, false, false, false, false, false, false, false, false, false, false, false] rfl rfl (any_of HT_.out (by kernel_rfl)) (fun _ _ _ h => h) (Or.inl ⟨by rfl, ?_⟩) ?_ ?_
                      rotate_left
                      · intro w'
                        go_simp
                        with_reducible rfl
                      rotate_left
                      · simp only [Act.put, List.setIfInBounds_toArray, List.set_cons_zero, List.set_cons_succ, i64_w, i32_w]
                        rfl
                      refine take_ (i := 2) (N := some 54) (v := ?_) (a' := ?_) #[true, true, true, false, false, false, false, false, false, false, false, false, false, false, false, false, false, false, false, false, false, false, false, false, false, false, false, false, false, false, false, false, false, false, false, false, false, false, false, false, false, false, false, false, false] rfl rfl (take_ofW HT_.out HW_.out (by kernel_rfl)) (fun _ _ _ h => h) (Or.inl ⟨by rfl, ?_⟩) hHeld ?_ ?_
                      rotate_left
                      · rintro w' ⟨s0, s1, s2, s3, s4, s5, s6, s7, s8, s9, s10, s11, s12, s13, s14, s15, s16, s17, s18, s19, s20⟩
                        go_simp
                        with_reducible rfl
                      rotate_left
                      · simp only [Act.put, List.setIfInBounds_toArray, List.set_cons_zero, List.set_cons_succ, i64_w, i32_w]
                        rfl
                      refine take_ (i := 3) (N := some 55) (v := ?_) (a' := ?_) #[true, true, true, true, false, false, false, false, false, false, false, false, false, false, false, false, false, false, false, false, false, false, false, false, false, false, false, false, false, false, false, false, false, false, false, false, false, false, false, false, false, false, false, false, false] rfl rfl (take_ofW HT_.out HW_.out (by kernel_rfl)) (fun _ _ _ h => h) (Or.inl ⟨by rfl, ?_⟩) hHeld ?_ ?_
                      rotate_left
                      · rintro w' ⟨s0, s1, s2, s3, s4, s5, s6, s7, s8, s9, s10, s11, s12, s13, s14, s15, s16, s17, s18, s19, s20⟩
                        go_simp
                        with_reducible rfl
                      rotate_left
                      · simp only [Act.put, List.setIfInBounds_toArray, List.set_cons_zero, List.set_cons_succ, i64_w, i32_w]
                        rfl
                      refine take_ (i := 5) (N := some 57) (v := ?_) (a' := ?_) #[true, true, true, true, false, true, false, false, false, false, false, false, false, false, false, false, false, false, false, false, false, false, false, false, false, false, false, false, false, false, false, false, false, false, false, false, false, false, false, false, false, false, false, false, false] rfl rfl (take_ofW HT_.out HW_.out (by kernel_rfl)) (fun _ _ _ h => h) (Or.inl ⟨by rfl, ?_⟩) hHeld ?_ ?_
                      rotate_left
                      · rintro w' ⟨s0, s1, s2, s3, s4, s5, s6, s7, s8, s9, s10, s11, s12, s13, s14, s15, s16, s17, s18, s19, s20⟩
                        go_simp
                        with_reducible rfl
                      rotate_left
                      · simp only [Act.put, List.setIfInBounds_toArray, List.set_cons_zero, List.set_cons_succ, i64_w, i32_w]
                        rfl
                      refine take_ (i := 6) (N := some 58) (v := ?_) (a' := ?_) #[true, true, true, true, false, true, true, false, false, false, false, false, false, false, false, false, false, false, false, false, false, false, false, false, false, false, false, false, false, false, false, false, false, false, false, false, false, false, false, false, false, false, false, false, false] rfl rfl (take_ofW HT_.out HW_.out (by kernel_rfl)) (fun _ _ _ h => h) (Or.inl ⟨by rfl, ?_⟩) hHeld ?_ ?_
                      rotate_left
                      · rintro w' ⟨s0, s1, s2, s3, s4, s5, s6, s7, s8, s9, s10, s11, s12, s13, s14, s15, s16, s17, s18, s19, s20⟩
                        go_simp
                        with_reducible rfl
                      rotate_left
                      · simp only [Act.put, List.setIfInBounds_toArray, List.set_cons_zero, List.set_cons_succ, i64_w, i32_w]
                        rfl
                      refine one_ (i := 4) (N := some 56) #[true, true, true, true, true, true, true, false, false, false, false, false, false, false, false, false, false, false, false, false, false, false, false, false, false, false, false, false, false, false, false, false, false, false, false, false, false, false, false, false, false, false, false, false, false] rfl rfl (one_of HT_.out (by kernel_rfl)) (by decide) (fun K hK => ?_)
                      refine goes_ Try.func15 (by kernel_rfl) rfl #[.agg #[.bool a0_0, .int .i64 a0_1, .int .i64 a0_2], .agg #[.bool a1_0, .int .i64 a1_1, .bool a1_2, .int .i64 a1_3, .slice A1_4 l1_4.length c1_4]] (by rfl) rfl rfl (by (try simp only [List.map_toArray, List.map_cons, List.map_nil]); first | done | rfl | (simp only [List.length_drop, List.length_take]; rfl)) ?_
                      with_reducible refine (filter_Takes.calls a0_0 a0_1 a0_2 a1_0 a1_1 a1_2 a1_3 _ _ l1_4 t322 _ ?side1 ?side2 A78.out).mono ?_
                      (case side1 => repeat (first | exact (Kd.C_below HR1_4.out HB.out) | (with_reducible refine Kd.C_alloc ?_ _) | (with_reducible refine Kd.C_drewN ?_ _) | (with_reducible refine Kd.C_drew ?_)))
                      (case side2 => exact HC1_4.out)
                      rintro e w94 ⟨rfl, hb⟩
                      refine ⟨_, rfl, ?_⟩
                      have n0_ := Aside0.mk (blk_below (g := gb313) (o := .cells #[.bool a0_0, .int .i64 a0_1, .int .i64 a0_2] 23 (0, 0)) (by (with_reducible repeat (first | refine blk_drewN ?_ _ | refine blk_drew ?_ | refine blk_alloc ?_ _)); exact BK313.out) hb)
                      have n1_ := Aside0.mk (blk_below (g := gb314) (o := .cells #[.bool a1_0, .int .i64 a1_1, .bool a1_2, .int .i64 a1_3, .slice A1_4 l1_4.length c1_4] 27 (0, 0)) (by (with_reducible repeat (first | refine blk_drewN ?_ _ | refine blk_drew ?_ | refine blk_alloc ?_ _)); exact BK314.out) hb)
                      have n2_ := Aside0.mk (blk_below (g := gb315) (o := .cells #[.bool a2_0, .int .i64 a2_1, .bool a2_2, .int .i64 a2_3, .slice A2_4 l2_4.length c2_4] 27 (0, 0)) (by (with_reducible repeat (first | refine blk_drewN ?_ _ | refine blk_drew ?_ | refine blk_alloc ?_ _)); exact BK315.out) hb)
                      have n3_ := Aside0.mk (blk_below (g := gb320) (o := .cells #[.bool a1_0, .int .i64 a1_1, .bool a2_2, .int .i64 a2_3, .slice A2_4 l2_4.length c2_4] 27 (0, 0)) (by (with_reducible repeat (first | refine blk_drewN ?_ _ | refine blk_drew ?_ | refine blk_alloc ?_ _)); exact BK320.out) hb)
                      have n4_ := Aside0.mk (blk_below (g := gb321) (o := .cells #[.bool a1_0, .int .i64 x322001_52, .int .i64 a1_1] 23 (0, 0)) (by (with_reducible repeat (first | refine blk_drewN ?_ _ | refine blk_drew ?_ | refine blk_alloc ?_ _)); exact BK321.out) hb)
                      have n5_ := Aside0.mk (below_step (by repeat (first | (with_reducible first | exact HB.out | apply below_alloc | apply pw_below_drewN | apply below_drew1 | refine below_set ?_ GE313.out | refine below_set ?_ GE314.out | refine below_set ?_ GE315.out | refine below_set ?_ GE320.out | refine below_set ?_ GE321.out) | exact HB.out)) hb)
                      clear BK313
                      clear BK314
                      clear BK315
                      clear BK320
                      clear BK321
                      clear HB
                      have BK313 := n0_
                      have BK314 := n1_
                      have BK315 := n2_
                      have BK320 := n3_
                      have BK321 := n4_
                      have HB := n5_
                      clear n0_ n1_ n2_ n3_ n4_ n5_
                      (try clear hb)
                      (try clear hb2)
                      (try clear hk)
                      (try clear hi)
                      refine hK.out _ _ ⟨(blk_cell BK313.out 0).trans rfl, (blk_cell BK313.out 1).trans rfl, (blk_cell BK313.out 2).trans rfl, (blk_cell BK314.out 0).trans rfl, (blk_cell BK314.out 1).trans rfl, (blk_cell BK314.out 2).trans rfl, (blk_cell BK314.out 3).trans rfl, (blk_cell BK314.out 4).trans rfl, (blk_cell BK320.out 0).trans rfl, (blk_cell BK320.out 1).trans rfl, (blk_cell BK320.out 2).trans rfl, (blk_cell BK320.out 3).trans rfl, (blk_cell BK320.out 4).trans rfl, (blk_cell BK321.out 0).trans rfl, (blk_cell BK321.out 1).trans rfl, (blk_cell BK321.out 2).trans rfl, (blk_cell BK315.out 0).trans rfl, (blk_cell BK315.out 1).trans rfl, (blk_cell BK315.out 2).trans rfl, (blk_cell BK315.out 3).trans rfl, (blk_cell BK315.out 4).trans rfl⟩ (fun hHeld => ?_)
                      clear hK K
                      refine norm_ (a' := ?_) ?_ ?_
                      rotate_left
                      · show Act.put _ (some 56) _ = _
                        simp only [Act.put, List.setIfInBounds_toArray, List.set_cons_zero, List.set_cons_succ, i64_w, i32_w]
                        rfl
                      refine one_ (i := 7) (N := some 59) #[true, true, true, true, true, true, true, true, false, false, false, false, false, false, false, false, false, false, false, false, false, false, false, false, false, false, false, false, false, false, false, false, false, false, false, false, false, false, false, false, false, false, false, false, false] rfl rfl (one_of HT_.out (by kernel_rfl)) (by decide) (fun K hK => ?_)
                      refine goes_ Try.func15 (by kernel_rfl) rfl #[.agg #[.bool a0_0, .int .i64 a0_1, .int .i64 a0_2], .agg #[.bool a1_0, .int .i64 a1_1, .bool a2_2, .int .i64 a2_3, .slice A2_4 l2_4.length c2_4]] (by rfl) rfl rfl (by (try simp only [List.map_toArray, List.map_cons, List.map_nil]); first | done | rfl | (simp only [List.length_drop, List.length_take]; rfl)) ?_
                      with_reducible refine (filter_Takes.calls a0_0 a0_1 a0_2 a1_0 a1_1 a2_2 a2_3 _ _ l2_4 t323 _ ?side1 ?side2 A79.out).mono ?_
                      (case side1 => repeat (first | exact (Kd.C_below HR2_4.out HB.out) | (with_reducible refine Kd.C_alloc ?_ _) | (with_reducible refine Kd.C_drewN ?_ _) | (with_reducible refine Kd.C_drew ?_)))
                      (case side2 => exact HC2_4.out)
                      rintro e w95 ⟨rfl, hb⟩
                      refine ⟨_, rfl, ?_⟩
                      have n0_ := Aside0.mk (blk_below (g := gb313) (o := .cells #[.bool a0_0, .int .i64 a0_1, .int .i64 a0_2] 23 (0, 0)) (by (with_reducible repeat (first | refine blk_drewN ?_ _ | refine blk_drew ?_ | refine blk_alloc ?_ _)); exact BK313.out) hb)
                      have n1_ := Aside0.mk (blk_below (g := gb314) (o := .cells #[.bool a1_0, .int .i64 a1_1, .bool a1_2, .int .i64 a1_3, .slice A1_4 l1_4.length c1_4] 27 (0, 0)) (by (with_reducible repeat (first | refine blk_drewN ?_ _ | refine blk_drew ?_ | refine blk_alloc ?_ _)); exact BK314.out) hb)
                      have n2_ := Aside0.mk (blk_below (g := gb315) (o := .cells #[.bool a2_0, .int .i64 a2_1, .bool a2_2, .int .i64 a2_3, .slice A2_4 l2_4.length c2_4] 27 (0, 0)) (by (with_reducible repeat (first | refine blk_drewN ?_ _ | refine blk_drew ?_ | refine blk_alloc ?_ _)); exact BK315.out) hb)
                      have n3_ := Aside0.mk (blk_below (g := gb320) (o := .cells #[.bool a1_0, .int .i64 a1_1, .bool a2_2, .int .i64 a2_3, .slice A2_4 l2_4.length c2_4] 27 (0, 0)) (by (with_reducible repeat (first | refine blk_drewN ?_ _ | refine blk_drew ?_ | refine blk_alloc ?_ _)); exact BK320.out) hb)
                      have n4_ := Aside0.mk (blk_below (g := gb321) (o := .cells #[.bool a1_0, .int .i64 x322001_52, .int .i64 a1_1] 23 (0, 0)) (by (with_reducible repeat (first | refine blk_drewN ?_ _ | refine blk_drew ?_ | refine blk_alloc ?_ _)); exact BK321.out) hb)
                      have n5_ := Aside0.mk (below_step (by repeat (first | (with_reducible first | exact HB.out | apply below_alloc | apply pw_below_drewN | apply below_drew1 | refine below_set ?_ GE313.out | refine below_set ?_ GE314.out | refine below_set ?_ GE315.out | refine below_set ?_ GE320.out | refine below_set ?_ GE321.out) | exact HB.out)) hb)
                      clear BK313
                      clear BK314
                      clear BK315
                      clear BK320
                      clear BK321
                      clear HB
                      have BK313 := n0_
                      have BK314 := n1_
                      have BK315 := n2_
                      have BK320 := n3_
                      have BK321 := n4_
                      have HB := n5_
                      clear n0_ n1_ n2_ n3_ n4_ n5_
                      (try clear hb)
                      (try clear hb2)
                      (try clear hk)
                      (try clear hi)
                      refine hK.out _ _ ⟨(blk_cell BK313.out 0).trans rfl, (blk_cell BK313.out 1).trans rfl, (blk_cell BK313.out 2).trans rfl, (blk_cell BK314.out 0).trans rfl, (blk_cell BK314.out 1).trans rfl, (blk_cell BK314.out 2).trans rfl, (blk_cell BK314.out 3).trans rfl, (blk_cell BK314.out 4).trans rfl, (blk_cell BK320.out 0).trans rfl, (blk_cell BK320.out 1).trans rfl, (blk_cell BK320.out 2).trans rfl, (blk_cell BK320.out 3).trans rfl, (blk_cell BK320.out 4).trans rfl, (blk_cell BK321.out 0).trans rfl, (blk_cell BK321.out 1).trans rfl, (blk_cell BK321.out 2).trans rfl, (blk_cell BK315.out 0).trans rfl, (blk_cell BK315.out 1).trans rfl, (blk_cell BK315.out 2).trans rfl, (blk_cell BK315.out 3).trans rfl, (blk_cell BK315.out 4).trans rfl⟩ (fun hHeld => ?_)
                      clear hK K
                      refine norm_ (a' := ?_) ?_ ?_
                      rotate_left
                      · show Act.put _ (some 59) _ = _
                        simp only [Act.put, List.setIfInBounds_toArray, List.set_cons_zero, List.set_cons_succ, i64_w, i32_w]
                        rfl
                      refine pure_ (i := 8) (N := some 60) (v := ?_) (a' := ?_) #[true, true, true, true, true, true, true, true, true, false, false, false, false, false, false, false, false, false, false, false, false, false, false, false, false, false, false, false, false, false, false, false, false, false, false, false, false, false, false, false, false, false, false, false, false] rfl rfl (any_of HT_.out (by kernel_rfl)) (fun _ _ _ h => h) (Or.inl ⟨by rfl, ?_⟩) ?_ ?_
                      rotate_left
                      · intro w'
                        go_simp
                        with_reducible rfl
                      rotate_left
                      · simp only [Act.put, List.setIfInBounds_toArray, List.set_cons_zero, List.set_cons_succ, i64_w, i32_w]
                        rfl
                      refine pure_ (i := 9) (N := some 61) (v := ?_) (a' := ?_) #[true, true, true, true, true, true, true, true, true, true, false, false, false, false, false, false, false, false, false, false, false, false, false, false, false, false, false, false, false, false, false, false, false, false, false, false, false, false, false, false, false, false, false, false, false] rfl rfl (any_of HT_.out (by kernel_rfl)) (fun _ _ _ h => h) (Or.inl ⟨by rfl, ?_⟩) ?_ ?_
                      rotate_left
                      · intro w'
                        go_simp
                        with_reducible rfl
                      rotate_left
                      · simp only [Act.put, List.setIfInBounds_toArray, List.set_cons_zero, List.set_cons_succ, i64_w, i32_w]
                        rfl
                      refine pure_ (i := 10) (N := some 62) (v := ?_) (a' := ?_) #[true, true, true, true, true, true, true, true, true, true, true, false, false, false, false, false, false, false, false, false, false, false, false, false, false, false, false, false, false, false, false, false, false, false, false, false, false, false, false, false, false, false, false, false, false] rfl rfl (any_of HT_.out (by kernel_rfl)) (fun _ _ _ h => h) (Or.inl ⟨by rfl, ?_⟩) ?_ ?_
                      rotate_left
                      · intro w'
                        go_simp
                        with_reducible rfl
                      rotate_left
                      · simp only [Act.put, List.setIfInBounds_toArray, List.set_cons_zero, List.set_cons_succ, i64_w, i32_w]
                        rfl
                      refine pure_ (i := 11) (N := some 63) (v := ?_) (a' := ?_) #[true, true, true, true, true, true, true, true, true, true, true, true, false, false, false, false, false, false, false, false, false, false, false, false, false, false, false, false, false, false, false, false, false, false, false, false, false, false, false, false, false, false, false, false, false] rfl rfl (any_of HT_.out (by kernel_rfl)) (fun _ _ _ h => h) (Or.inl ⟨by rfl, ?_⟩) ?_ ?_
                      rotate_left
                      · intro w'
                        go_simp
                        with_reducible rfl
                      rotate_left
                      · simp only [Act.put, List.setIfInBounds_toArray, List.set_cons_zero, List.set_cons_succ, i64_w, i32_w]
                        rfl
                      refine take_ (i := 12) (N := some 64) (v := ?_) (a' := ?_) #[true, true, true, true, true, true, true, true, true, true, true, true, true, false, false, false, false, false, false, false, false, false, false, false, false, false, false, false, false, false, false, false, false, false, false, false, false, false, false, false, false, false, false, false, false] rfl rfl (take_ofW HT_.out HW_.out (by kernel_rfl)) (fun _ _ _ h => h) (Or.inl ⟨by rfl, ?_⟩) hHeld ?_ ?_
                      rotate_left
                      · rintro w' ⟨s0, s1, s2, s3, s4, s5, s6, s7, s8, s9, s10, s11, s12, s13, s14, s15, s16, s17, s18, s19, s20⟩
                        go_simp
                        with_reducible rfl
                      rotate_left
                      · simp only [Act.put, List.setIfInBounds_toArray, List.set_cons_zero, List.set_cons_succ, i64_w, i32_w]
                        rfl
                      refine pure_ (i := 13) (N := some 65) (v := ?_) (a' := ?_) #[true, true, true, true, true, true, true, true, true, true, true, true, true, true, false, false, false, false, false, false, false, false, false, false, false, false, false, false, false, false, false, false, false, false, false, false, false, false, false, false, false, false, false, false, false] rfl rfl (any_of HT_.out (by kernel_rfl)) (fun _ _ _ h => h) (Or.inl ⟨by rfl, ?_⟩) ?_ ?_
                      rotate_left
                      · intro w'
                        go_simp
                        with_reducible rfl
                      rotate_left
                      · simp only [Act.put, List.setIfInBounds_toArray, List.set_cons_zero, List.set_cons_succ, i64_w, i32_w]
                        rfl
                      refine take_ (i := 14) (N := some 66) (v := ?_) (a' := ?_) #[true, true, true, true, true, true, true, true, true, true, true, true, true, true, true, false, false, false, false, false, false, false, false, false, false, false, false, false, false, false, false, false, false, false, false, false, false, false, false, false, false, false, false, false, false] rfl rfl (take_ofW HT_.out HW_.out (by kernel_rfl)) (fun _ _ _ h => h) (Or.inl ⟨by rfl, ?_⟩) hHeld ?_ ?_
                      rotate_left
                      · rintro w' ⟨s0, s1, s2, s3, s4, s5, s6, s7, s8, s9, s10, s11, s12, s13, s14, s15, s16, s17, s18, s19, s20⟩
                        go_simp
                        with_reducible rfl
                      rotate_left
                      · simp only [Act.put, List.setIfInBounds_toArray, List.set_cons_zero, List.set_cons_succ, i64_w, i32_w]
                        rfl
                      refine one_ (i := 15) (N := some 67) #[true, true, true, true, true, true, true, true, true, true, true, true, true, true, true, true, false, false, false, false, false, false, false, false, false, false, false, false, false, false, false, false, false, false, false, false, false, false, false, false, false, false, false, false, false] rfl rfl (one_of HT_.out (by kernel_rfl)) (by decide) (fun K hK => ?_)
                      refine goes_ Try.func15 (by kernel_rfl) rfl #[.agg #[.bool a1_0, .int .i64 0, .int .i64 0], .agg #[.bool a1_0, .int .i64 a1_1, .bool a1_2, .int .i64 a1_3, .slice A1_4 l1_4.length c1_4]] (by rfl) rfl rfl (by (try simp only [List.map_toArray, List.map_cons, List.map_nil]); first | done | rfl | (simp only [List.length_drop, List.length_take]; rfl)) ?_
                      with_reducible refine (filter_Takes.calls a1_0 0 0 a1_0 a1_1 a1_2 a1_3 _ _ l1_4 true _ ?side1 ?side2 A81.out).mono ?_
                      (case side1 => repeat (first | exact (Kd.C_below HR1_4.out HB.out) | (with_reducible refine Kd.C_alloc ?_ _) | (with_reducible refine Kd.C_drewN ?_ _) | (with_reducible refine Kd.C_drew ?_)))
                      (case side2 => exact HC1_4.out)
                      rintro e w96 ⟨rfl, hb⟩
                      refine ⟨_, rfl, ?_⟩
                      have n0_ := Aside0.mk (blk_below (g := gb313) (o := .cells #[.bool a0_0, .int .i64 a0_1, .int .i64 a0_2] 23 (0, 0)) (by (with_reducible repeat (first | refine blk_drewN ?_ _ | refine blk_drew ?_ | refine blk_alloc ?_ _)); exact BK313.out) hb)
                      have n1_ := Aside0.mk (blk_below (g := gb314) (o := .cells #[.bool a1_0, .int .i64 a1_1, .bool a1_2, .int .i64 a1_3, .slice A1_4 l1_4.length c1_4] 27 (0, 0)) (by (with_reducible repeat (first | refine blk_drewN ?_ _ | refine blk_drew ?_ | refine blk_alloc ?_ _)); exact BK314.out) hb)
                      have n2_ := Aside0.mk (blk_below (g := gb315) (o := .cells #[.bool a2_0, .int .i64 a2_1, .bool a2_2, .int .i64 a2_3, .slice A2_4 l2_4.length c2_4] 27 (0, 0)) (by (with_reducible repeat (first | refine blk_drewN ?_ _ | refine blk_drew ?_ | refine blk_alloc ?_ _)); exact BK315.out) hb)
                      have n3_ := Aside0.mk (blk_below (g := gb320) (o := .cells #[.bool a1_0, .int .i64 a1_1, .bool a2_2, .int .i64 a2_3, .slice A2_4 l2_4.length c2_4] 27 (0, 0)) (by (with_reducible repeat (first | refine blk_drewN ?_ _ | refine blk_drew ?_ | refine blk_alloc ?_ _)); exact BK320.out) hb)
                      have n4_ := Aside0.mk (blk_below (g := gb321) (o := .cells #[.bool a1_0, .int .i64 x322001_52, .int .i64 a1_1] 23 (0, 0)) (by (with_reducible repeat (first | refine blk_drewN ?_ _ | refine blk_drew ?_ | refine blk_alloc ?_ _)); exact BK321.out) hb)
                      have n5_ := Aside0.mk (below_step (by repeat (first | (with_reducible first | exact HB.out | apply below_alloc | apply pw_below_drewN | apply below_drew1 | refine below_set ?_ GE313.out | refine below_set ?_ GE314.out | refine below_set ?_ GE315.out | refine below_set ?_ GE320.out | refine below_set ?_ GE321.out) | exact HB.out)) hb)
                      clear BK313
                      clear BK314
                      clear BK315
                      clear BK320
                      clear BK321
                      clear HB
                      have BK313 := n0_
                      have BK314 := n1_
                      have BK315 := n2_
                      have BK320 := n3_
                      have BK321 := n4_
                      have HB := n5_
                      clear n0_ n1_ n2_ n3_ n4_ n5_
                      (try clear hb)
                      (try clear hb2)
                      (try clear hk)
                      (try clear hi)
                      refine hK.out _ _ ⟨(blk_cell BK313.out 0).trans rfl, (blk_cell BK313.out 1).trans rfl, (blk_cell BK313.out 2).trans rfl, (blk_cell BK314.out 0).trans rfl, (blk_cell BK314.out 1).trans rfl, (blk_cell BK314.out 2).trans rfl, (blk_cell BK314.out 3).trans rfl, (blk_cell BK314.out 4).trans rfl, (blk_cell BK320.out 0).trans rfl, (blk_cell BK320.out 1).trans rfl, (blk_cell BK320.out 2).trans rfl, (blk_cell BK320.out 3).trans rfl, (blk_cell BK320.out 4).trans rfl, (blk_cell BK321.out 0).trans rfl, (blk_cell BK321.out 1).trans rfl, (blk_cell BK321.out 2).trans rfl, (blk_cell BK315.out 0).trans rfl, (blk_cell BK315.out 1).trans rfl, (blk_cell BK315.out 2).trans rfl, (blk_cell BK315.out 3).trans rfl, (blk_cell BK315.out 4).trans rfl⟩ (fun hHeld => ?_)
                      clear hK K
                      refine norm_ (a' := ?_) ?_ ?_
                      rotate_left
                      · show Act.put _ (some 67) _ = _
                        simp only [Act.put, List.setIfInBounds_toArray, List.set_cons_zero, List.set_cons_succ, i64_w, i32_w]
                        rfl
                      refine pure_ (i := 16) (N := some 68) (v := ?_) (a' := ?_) #[true, true, true, true, true, true, true, true, true, true, true, true, true, true, true, true, true, false, false, false, false, false, false, false, false, false, false, false, false, false, false, false, false, false, false, false, false, false, false, false, false, false, false, false, false] rfl rfl (any_of HT_.out (by kernel_rfl)) (fun _ _ _ h => h) (Or.inl ⟨by rfl, ?_⟩) ?_ ?_
                      rotate_left
                      · intro w'
                        go_simp
                        with_reducible rfl
                      rotate_left
                      · simp only [Act.put, List.setIfInBounds_toArray, List.set_cons_zero, List.set_cons_succ, i64_w, i32_w]
                        rfl
                      refine pure_ (i := 17) (N := some 69) (v := ?_) (a' := ?_) #[true, true, true, true, true, true, true, true, true, true, true, true, true, true, true, true, true, true, false, false, false, false, false, false, false, false, false, false, false, false, false, false, false, false, false, false, false, false, false, false, false, false, false, false, false] rfl rfl (any_of HT_.out (by kernel_rfl)) (fun _ _ _ h => h) (Or.inl ⟨by rfl, ?_⟩) ?_ ?_
                      rotate_left
                      · intro w'
                        go_simp
                        with_reducible rfl
                      rotate_left
                      · simp only [Act.put, List.setIfInBounds_toArray, List.set_cons_zero, List.set_cons_succ, i64_w, i32_w]
                        rfl
                      refine pure_ (i := 18) (N := some 70) (v := ?_) (a' := ?_) #[true, true, true, true, true, true, true, true, true, true, true, true, true, true, true, true, true, true, true, false, false, false, false, false, false, false, false, false, false, false, false, false, false, false, false, false, false, false, false, false, false, false, false, false, false] rfl rfl (any_of HT_.out (by kernel_rfl)) (fun _ _ _ h => h) (Or.inl ⟨by rfl, ?_⟩) ?_ ?_
                      rotate_left
                      · intro w'
                        go_simp
                        with_reducible rfl
                      rotate_left
                      · simp only [Act.put, List.setIfInBounds_toArray, List.set_cons_zero, List.set_cons_succ, i64_w, i32_w]
                        rfl
                      refine take_ (i := 19) (N := some 71) (v := ?_) (a' := ?_) #[true, true, true, true, true, true, true, true, true, true, true, true, true, true, true, true, true, true, true, true, false, false, false, false, false, false, false, false, false, false, false, false, false, false, false, false, false, false, false, false, false, false, false, false, false] rfl rfl (take_ofW HT_.out HW_.out (by kernel_rfl)) (fun _ _ _ h => h) (Or.inl ⟨by rfl, ?_⟩) hHeld ?_ ?_
                      rotate_left
                      · rintro w' ⟨s0, s1, s2, s3, s4, s5, s6, s7, s8, s9, s10, s11, s12, s13, s14, s15, s16, s17, s18, s19, s20⟩
                        go_simp
                        with_reducible rfl
                      rotate_left
                      · simp only [Act.put, List.setIfInBounds_toArray, List.set_cons_zero, List.set_cons_succ, i64_w, i32_w]
                        rfl
                      refine pure_ (i := 20) (N := some 72) (v := ?_) (a' := ?_) #[true, true, true, true, true, true, true, true, true, true, true, true, true, true, true, true, true, true, true, true, true, false, false, false, false, false, false, false, false, false, false, false, false, false, false, false, false, false, false, false, false, false, false, false, false] rfl rfl (any_of HT_.out (by kernel_rfl)) (fun _ _ _ h => h) (Or.inl ⟨by rfl, ?_⟩) ?_ ?_
                      rotate_left
                      · intro w'
                        go_simp
                        with_reducible rfl
                      rotate_left
                      · simp only [Act.put, List.setIfInBounds_toArray, List.set_cons_zero, List.set_cons_succ, i64_w, i32_w]
                        rfl
                      refine pure_ (i := 21) (N := some 73) (v := ?_) (a' := ?_) #[true, true, true, true, true, true, true, true, true, true, true, true, true, true, true, true, true, true, true, true, true, true, false, false, false, false, false, false, false, false, false, false, false, false, false, false, false, false, false, false, false, false, false, false, false] rfl rfl (any_of HT_.out (by kernel_rfl)) (fun _ _ _ h => h) (Or.inl ⟨by rfl, ?_⟩) ?_ ?_
                      rotate_left
                      · intro w'
                        go_simp
                        with_reducible rfl
                      rotate_left
                      · simp only [Act.put, List.setIfInBounds_toArray, List.set_cons_zero, List.set_cons_succ, i64_w, i32_w]
                        rfl
                      refine take_ (i := 22) (N := some 74) (v := ?_) (a' := ?_) #[true, true, true, true, true, true, true, true, true, true, true, true, true, true, true, true, true, true, true, true, true, true, true, false, false, false, false, false, false, false, false, false, false, false, false, false, false, false, false, false, false, false, false, false, false] rfl rfl (take_ofW HT_.out HW_.out (by kernel_rfl)) (fun _ _ _ h => h) (Or.inl ⟨by rfl, ?_⟩) hHeld ?_ ?_
                      rotate_left
                      · rintro w' ⟨s0, s1, s2, s3, s4, s5, s6, s7, s8, s9, s10, s11, s12, s13, s14, s15, s16, s17, s18, s19, s20⟩
                        go_simp
                        with_reducible rfl
                      rotate_left
                      · simp only [Act.put, List.setIfInBounds_toArray, List.set_cons_zero, List.set_cons_succ, i64_w, i32_w]
                        rfl
                      refine one_ (i := 23) (N := some 75) #[true, true, true, true, true, true, true, true, true, true, true, true, true, true, true, true, true, true, true, true, true, true, true, true, false, false, false, false, false, false, false, false, false, false, false, false, false, false, false, false, false, false, false, false, false] rfl rfl (one_of HT_.out (by kernel_rfl)) (by decide) (fun K hK => ?_)
                      refine goes_ Try.func15 (by kernel_rfl) rfl #[.agg #[.bool (!a1_0), .int .i64 0, .int .i64 0], .agg #[.bool a1_0, .int .i64 a1_1, .bool a1_2, .int .i64 a1_3, .slice A1_4 l1_4.length c1_4]] (by rfl) rfl rfl (by (try simp only [List.map_toArray, List.map_cons, List.map_nil]); first | done | rfl | (simp only [List.length_drop, List.length_take]; rfl)) ?_
                      with_reducible refine (filter_Takes.calls (!a1_0) 0 0 a1_0 a1_1 a1_2 a1_3 _ _ l1_4 false _ ?side1 ?side2 A83.out).mono ?_
                      (case side1 => repeat (first | exact (Kd.C_below HR1_4.out HB.out) | (with_reducible refine Kd.C_alloc ?_ _) | (with_reducible refine Kd.C_drewN ?_ _) | (with_reducible refine Kd.C_drew ?_)))
                      (case side2 => exact HC1_4.out)
                      rintro e w97 ⟨rfl, hb⟩
                      refine ⟨_, rfl, ?_⟩
                      have n0_ := Aside0.mk (blk_below (g := gb313) (o := .cells #[.bool a0_0, .int .i64 a0_1, .int .i64 a0_2] 23 (0, 0)) (by (with_reducible repeat (first | refine blk_drewN ?_ _ | refine blk_drew ?_ | refine blk_alloc ?_ _)); exact BK313.out) hb)
                      have n1_ := Aside0.mk (blk_below (g := gb314) (o := .cells #[.bool a1_0, .int .i64 a1_1, .bool a1_2, .int .i64 a1_3, .slice A1_4 l1_4.length c1_4] 27 (0, 0)) (by (with_reducible repeat (first | refine blk_drewN ?_ _ | refine blk_drew ?_ | refine blk_alloc ?_ _)); exact BK314.out) hb)
                      have n2_ := Aside0.mk (blk_below (g := gb315) (o := .cells #[.bool a2_0, .int .i64 a2_1, .bool a2_2, .int .i64 a2_3, .slice A2_4 l2_4.length c2_4] 27 (0, 0)) (by (with_reducible repeat (first | refine blk_drewN ?_ _ | refine blk_drew ?_ | refine blk_alloc ?_ _)); exact BK315.out) hb)
                      have n3_ := Aside0.mk (blk_below (g := gb320) (o := .cells #[.bool a1_0, .int .i64 a1_1, .bool a2_2, .int .i64 a2_3, .slice A2_4 l2_4.length c2_4] 27 (0, 0)) (by (with_reducible repeat (first | refine blk_drewN ?_ _ | refine blk_drew ?_ | refine blk_alloc ?_ _)); exact BK320.out) hb)
                      have n4_ := Aside0.mk (blk_below (g := gb321) (o := .cells #[.bool a1_0, .int .i64 x322001_52, .int .i64 a1_1] 23 (0, 0)) (by (with_reducible repeat (first | refine blk_drewN ?_ _ | refine blk_drew ?_ | refine blk_alloc ?_ _)); exact BK321.out) hb)
                      have n5_ := Aside0.mk (below_step (by repeat (first | (with_reducible first | exact HB.out | apply below_alloc | apply pw_below_drewN | apply below_drew1 | refine below_set ?_ GE313.out | refine below_set ?_ GE314.out | refine below_set ?_ GE315.out | refine below_set ?_ GE320.out | refine below_set ?_ GE321.out) | exact HB.out)) hb)
                      clear BK313
                      clear BK314
                      clear BK315
                      clear BK320
                      clear BK321
                      clear HB
                      have BK313 := n0_
                      have BK314 := n1_
                      have BK315 := n2_
                      have BK320 := n3_
                      have BK321 := n4_
                      have HB := n5_
                      clear n0_ n1_ n2_ n3_ n4_ n5_
                      (try clear hb)
                      (try clear hb2)
                      (try clear hk)
                      (try clear hi)
                      refine hK.out _ _ ⟨(blk_cell BK313.out 0).trans rfl, (blk_cell BK313.out 1).trans rfl, (blk_cell BK313.out 2).trans rfl, (blk_cell BK314.out 0).trans rfl, (blk_cell BK314.out 1).trans rfl, (blk_cell BK314.out 2).trans rfl, (blk_cell BK314.out 3).trans rfl, (blk_cell BK314.out 4).trans rfl, (blk_cell BK320.out 0).trans rfl, (blk_cell BK320.out 1).trans rfl, (blk_cell BK320.out 2).trans rfl, (blk_cell BK320.out 3).trans rfl, (blk_cell BK320.out 4).trans rfl, (blk_cell BK321.out 0).trans rfl, (blk_cell BK321.out 1).trans rfl, (blk_cell BK321.out 2).trans rfl, (blk_cell BK315.out 0).trans rfl, (blk_cell BK315.out 1).trans rfl, (blk_cell BK315.out 2).trans rfl, (blk_cell BK315.out 3).trans rfl, (blk_cell BK315.out 4).trans rfl⟩ (fun hHeld => ?_)
                      clear hK K
                      refine norm_ (a' := ?_) ?_ ?_
                      rotate_left
                      · show Act.put _ (some 75) _ = _
                        simp only [Act.put, List.setIfInBounds_toArray, List.set_cons_zero, List.set_cons_succ, i64_w, i32_w]
                        rfl
                      refine pure_ (i := 24) (N := some 76) (v := ?_) (a' := ?_) #[true, true, true, true, true, true, true, true, true, true, true, true, true, true, true, true, true, true, true, true, true, true, true, true, true, false, false, false, false, false, false, false, false, false, false, false, false, false, false, false, false, false, false, false, false] rfl rfl (any_of HT_.out (by kernel_rfl)) (fun _ _ _ h => h) (Or.inl ⟨by rfl, ?_⟩) ?_ ?_
                      rotate_left
                      · intro w'
                        go_simp
                        with_reducible rfl
                      rotate_left
                      · simp only [Act.put, List.setIfInBounds_toArray, List.set_cons_zero, List.set_cons_succ, i64_w, i32_w]
                        rfl
                      refine pure_ (i := 25) (N := some 77) (v := ?_) (a' := ?_) #[true, true, true, true, true, true, true, true, true, true, true, true, true, true, true, true, true, true, true, true, true, true, true, true, true, true, false, false, false, false, false, false, false, false, false, false, false, false, false, false, false, false, false, false, false] rfl rfl (any_of HT_.out (by kernel_rfl)) (fun _ _ _ h => h) (Or.inl ⟨by rfl, ?_⟩) ?_ ?_
                      rotate_left
                      · intro w'
                        go_simp
                        with_reducible rfl
                      rotate_left
                      · simp only [Act.put, List.setIfInBounds_toArray, List.set_cons_zero, List.set_cons_succ, i64_w, i32_w]
                        rfl
                      refine pure_ (i := 26) (N := some 78) (v := ?_) (a' := ?_) #[true, true, true, true, true, true, true, true, true, true, true, true, true, true, true, true, true, true, true, true, true, true, true, true, true, true, true, false, false, false, false, false, false, false, false, false, false, false, false, false, false, false, false, false, false] rfl rfl (any_of HT_.out (by kernel_rfl)) (fun _ _ _ h => h) (Or.inl ⟨by rfl, ?_⟩) ?_ ?_
                      rotate_left
                      · intro w'
                        go_simp
                        with_reducible rfl
                      rotate_left
                      · simp only [Act.put, List.setIfInBounds_toArray, List.set_cons_zero, List.set_cons_succ, i64_w, i32_w]
                        rfl
                      refine pure_ (i := 30) (N := some 82) (v := ?_) (a' := ?_) #[true, true, true, true, true, true, true, true, true, true, true, true, true, true, true, true, true, true, true, true, true, true, true, true, true, true, true, false, false, false, true, false, false, false, false, false, false, false, false, false, false, false, false, false, false] rfl rfl (any_of HT_.out (by kernel_rfl)) (fun _ _ _ h => h) (Or.inl ⟨by rfl, ?_⟩) ?_ ?_
                      rotate_left
                      · intro w'
                        go_simp
                        with_reducible rfl
                      rotate_left
                      · simp only [Act.put, List.setIfInBounds_toArray, List.set_cons_zero, List.set_cons_succ, i64_w, i32_w]
                        rfl
                      refine pure_ (i := 32) (N := some 84) (v := ?_) (a' := ?_) #[true, true, true, true, true, true, true, true, true, true, true, true, true, true, true, true, true, true, true, true, true, true, true, true, true, true, true, false, false, false, true, false, true, false, false, false, false, false, false, false, false, false, false, false, false] rfl rfl (any_of HT_.out (by kernel_rfl)) (fun _ _ _ h => h) (Or.inl ⟨by rfl, ?_⟩) ?_ ?_
                      rotate_left
                      · intro w'
                        go_simp
                        with_reducible rfl
                      rotate_left
                      · simp only [Act.put, List.setIfInBounds_toArray, List.set_cons_zero, List.set_cons_succ, i64_w, i32_w]
                        rfl
                      refine take_ (i := 27) (N := some 79) (v := ?_) (a' := ?_) #[true, true, true, true, true, true, true, true, true, true, true, true, true, true, true, true, true, true, true, true, true, true, true, true, true, true, true, true, false, false, true, false, true, false, false, false, false, false, false, false, false, false, false, false, false] rfl rfl (take_ofW HT_.out HW_.out (by kernel_rfl)) (fun _ _ _ h => h) (Or.inl ⟨by rfl, ?_⟩) hHeld ?_ ?_
                      rotate_left
                      · rintro w' ⟨s0, s1, s2, s3, s4, s5, s6, s7, s8, s9, s10, s11, s12, s13, s14, s15, s16, s17, s18, s19, s20⟩
                        go_simp
                        with_reducible rfl
                      rotate_left
                      · simp only [Act.put, List.setIfInBounds_toArray, List.set_cons_zero, List.set_cons_succ, i64_w, i32_w]
                        rfl
                      refine take_ (i := 28) (N := some 80) (v := ?_) (a' := ?_) #[true, true, true, true, true, true, true, true, true, true, true, true, true, true, true, true, true, true, true, true, true, true, true, true, true, true, true, true, true, false, true, false, true, false, false, false, false, false, false, false, false, false, false, false, false] rfl rfl (take_ofW HT_.out HW_.out (by kernel_rfl)) (fun _ _ _ h => h) (Or.inl ⟨by rfl, ?_⟩) hHeld ?_ ?_
                      rotate_left
                      · rintro w' ⟨s0, s1, s2, s3, s4, s5, s6, s7, s8, s9, s10, s11, s12, s13, s14, s15, s16, s17, s18, s19, s20⟩
                        go_simp
                        with_reducible rfl
                      rotate_left
                      · simp only [Act.put, List.setIfInBounds_toArray, List.set_cons_zero, List.set_cons_succ, i64_w, i32_w]
                        rfl
                      refine take_ (i := 31) (N := some 83) (v := ?_) (a' := ?_) #[true, true, true, true, true, true, true, true, true, true, true, true, true, true, true, true, true, true, true, true, true, true, true, true, true, true, true, true, true, false, true, true, true, false, false, false, false, false, false, false, false, false, false, false, false] rfl rfl (take_ofW HT_.out HW_.out (by kernel_rfl)) (fun _ _ _ h => h) (Or.inl ⟨by rfl, ?_⟩) hHeld ?_ ?_
                      rotate_left
                      · rintro w' ⟨s0, s1, s2, s3, s4, s5, s6, s7, s8, s9, s10, s11, s12, s13, s14, s15, s16, s17, s18, s19, s20⟩
                        go_simp
                        with_reducible rfl
                      rotate_left
                      · simp only [Act.put, List.setIfInBounds_toArray, List.set_cons_zero, List.set_cons_succ, i64_w, i32_w]
                        rfl
                      refine take_ (i := 33) (N := some 85) (v := ?_) (a' := ?_) #[true, true, true, true, true, true, true, true, true, true, true, true, true, true, true, true, true, true, true, true, true, true, true, true, true, true, true, true, true, false, true, true, true, true, false, false, false, false, false, false, false, false, false, false, false] rfl rfl (take_ofW HT_.out HW_.out (by kernel_rfl)) (fun _ _ _ h => h) (Or.inl ⟨by rfl, ?_⟩) hHeld ?_ ?_
                      rotate_left
                      · rintro w' ⟨s0, s1, s2, s3, s4, s5, s6, s7, s8, s9, s10, s11, s12, s13, s14, s15, s16, s17, s18, s19, s20⟩
                        go_simp
                        with_reducible rfl
                      rotate_left
                      · simp only [Act.put, List.setIfInBounds_toArray, List.set_cons_zero, List.set_cons_succ, i64_w, i32_w]
                        rfl
                      refine pure_ (i := 34) (N := some 86) (v := ?_) (a' := ?_) #[true, true, true, true, true, true, true, true, true, true, true, true, true, true, true, true, true, true, true, true, true, true, true, true, true, true, true, true, true, false, true, true, true, true, true, false, false, false, false, false, false, false, false, false, false] rfl rfl (any_of HT_.out (by kernel_rfl)) (fun _ _ _ h => h) (Or.inl ⟨by rfl, ?_⟩) ?_ ?_
                      rotate_left
                      · intro w'
                        go_simp
                        with_reducible rfl
                      rotate_left
                      · simp only [Act.put, List.setIfInBounds_toArray, List.set_cons_zero, List.set_cons_succ, i64_w, i32_w]
                        rfl
                      refine one_ (i := 29) (N := some 81) #[true, true, true, true, true, true, true, true, true, true, true, true, true, true, true, true, true, true, true, true, true, true, true, true, true, true, true, true, true, true, true, true, true, true, true, false, false, false, false, false, false, false, false, false, false] rfl rfl (one_of HT_.out (by kernel_rfl)) (by decide) (fun K hK => ?_)
                      refine goes_ Try.func15 (by kernel_rfl) rfl #[.agg #[.bool a1_0, .int .i64 x322001_52, .int .i64 a1_1], .agg #[.bool a2_0, .int .i64 a2_1, .bool a2_2, .int .i64 a2_3, .slice A2_4 l2_4.length c2_4]] (by rfl) rfl rfl (by (try simp only [List.map_toArray, List.map_cons, List.map_nil]); first | done | rfl | (simp only [List.length_drop, List.length_take]; rfl)) ?_
                      with_reducible refine (filter_Takes.calls a1_0 x322001_52 a1_1 a2_0 a2_1 a2_2 a2_3 _ _ l2_4 t326 _ ?side1 ?side2 A85.out).mono ?_
                      (case side1 => repeat (first | exact (Kd.C_below HR2_4.out HB.out) | (with_reducible refine Kd.C_alloc ?_ _) | (with_reducible refine Kd.C_drewN ?_ _) | (with_reducible refine Kd.C_drew ?_)))
                      (case side2 => exact HC2_4.out)
                      rintro e w98 ⟨rfl, hb⟩
                      refine ⟨_, rfl, ?_⟩
                      have n0_ := Aside0.mk (blk_below (g := gb313) (o := .cells #[.bool a0_0, .int .i64 a0_1, .int .i64 a0_2] 23 (0, 0)) (by (with_reducible repeat (first | refine blk_drewN ?_ _ | refine blk_drew ?_ | refine blk_alloc ?_ _)); exact BK313.out) hb)
                      have n1_ := Aside0.mk (blk_below (g := gb314) (o := .cells #[.bool a1_0, .int .i64 a1_1, .bool a1_2, .int .i64 a1_3, .slice A1_4 l1_4.length c1_4] 27 (0, 0)) (by (with_reducible repeat (first | refine blk_drewN ?_ _ | refine blk_drew ?_ | refine blk_alloc ?_ _)); exact BK314.out) hb)
                      have n2_ := Aside0.mk (blk_below (g := gb315) (o := .cells #[.bool a2_0, .int .i64 a2_1, .bool a2_2, .int .i64 a2_3, .slice A2_4 l2_4.length c2_4] 27 (0, 0)) (by (with_reducible repeat (first | refine blk_drewN ?_ _ | refine blk_drew ?_ | refine blk_alloc ?_ _)); exact BK315.out) hb)
                      have n3_ := Aside0.mk (blk_below (g := gb320) (o := .cells #[.bool a1_0, .int .i64 a1_1, .bool a2_2, .int .i64 a2_3, .slice A2_4 l2_4.length c2_4] 27 (0, 0)) (by (with_reducible repeat (first | refine blk_drewN ?_ _ | refine blk_drew ?_ | refine blk_alloc ?_ _)); exact BK320.out) hb)
                      have n4_ := Aside0.mk (blk_below (g := gb321) (o := .cells #[.bool a1_0, .int .i64 x322001_52, .int .i64 a1_1] 23 (0, 0)) (by (with_reducible repeat (first | refine blk_drewN ?_ _ | refine blk_drew ?_ | refine blk_alloc ?_ _)); exact BK321.out) hb)
                      have n5_ := Aside0.mk (below_step (by repeat (first | (with_reducible first | exact HB.out | apply below_alloc | apply pw_below_drewN | apply below_drew1 | refine below_set ?_ GE313.out | refine below_set ?_ GE314.out | refine below_set ?_ GE315.out | refine below_set ?_ GE320.out | refine below_set ?_ GE321.out) | exact HB.out)) hb)
                      clear BK313
                      clear BK314
                      clear BK315
                      clear BK320
                      clear BK321
                      clear HB
                      have BK313 := n0_
                      have BK314 := n1_
                      have BK315 := n2_
                      have BK320 := n3_
                      have BK321 := n4_
                      have HB := n5_
                      clear n0_ n1_ n2_ n3_ n4_ n5_
                      (try clear hb)
                      (try clear hb2)
                      (try clear hk)
                      (try clear hi)
                      refine hK.out _ _ ⟨(blk_cell BK313.out 0).trans rfl, (blk_cell BK313.out 1).trans rfl, (blk_cell BK313.out 2).trans rfl, (blk_cell BK314.out 0).trans rfl, (blk_cell BK314.out 1).trans rfl, (blk_cell BK314.out 2).trans rfl, (blk_cell BK314.out 3).trans rfl, (blk_cell BK314.out 4).trans rfl, (blk_cell BK320.out 0).trans rfl, (blk_cell BK320.out 1).trans rfl, (blk_cell BK320.out 2).trans rfl, (blk_cell BK320.out 3).trans rfl, (blk_cell BK320.out 4).trans rfl, (blk_cell BK321.out 0).trans rfl, (blk_cell BK321.out 1).trans rfl, (blk_cell BK321.out 2).trans rfl, (blk_cell BK315.out 0).trans rfl, (blk_cell BK315.out 1).trans rfl, (blk_cell BK315.out 2).trans rfl, (blk_cell BK315.out 3).trans rfl, (blk_cell BK315.out 4).trans rfl⟩ (fun hHeld => ?_)
                      clear hK K
                      refine norm_ (a' := ?_) ?_ ?_
                      rotate_left
                      · show Act.put _ (some 81) _ = _
                        simp only [Act.put, List.setIfInBounds_toArray, List.set_cons_zero, List.set_cons_succ, i64_w, i32_w]
                        rfl
                      refine pure_ (i := 35) (N := some 87) (v := ?_) (a' := ?_) #[true, true, true, true, true, true, true, true, true, true, true, true, true, true, true, true, true, true, true, true, true, true, true, true, true, true, true, true, true, true, true, true, true, true, true, true, false, false, false, false, false, false, false, false, false] rfl rfl (any_of HT_.out (by kernel_rfl)) (fun _ _ _ h => h) (Or.inl ⟨by rfl, ?_⟩) ?_ ?_
                      rotate_left
                      · intro w'
                        go_simp
                        with_reducible rfl
                      rotate_left
                      · simp only [Act.put, List.setIfInBounds_toArray, List.set_cons_zero, List.set_cons_succ, i64_w, i32_w]
                        rfl
                      refine pure_ (i := 36) (N := some 88) (v := undef) (a' := ?_) #[true, true, true, true, true, true, true, true, true, true, true, true, true, true, true, true, true, true, true, true, true, true, true, true, true, true, true, true, true, true, true, true, true, true, true, true, true, false, false, false, false, false, false, false, false] rfl rfl (any_of HT_.out (by kernel_rfl)) (fun _ _ _ h => h) (Or.inr ⟨by rfl, rfl⟩) ?_ ?_
                      rotate_left
                      · simp only [Act.put, List.setIfInBounds_toArray, List.set_cons_zero, List.set_cons_succ, i64_w, i32_w]
                        rfl
                      refine pure_ (i := 37) (N := some 89) (v := undef) (a' := ?_) #[true, true, true, true, true, true, true, true, true, true, true, true, true, true, true, true, true, true, true, true, true, true, true, true, true, true, true, true, true, true, true, true, true, true, true, true, true, true, false, false, false, false, false, false, false] rfl rfl (any_of HT_.out (by kernel_rfl)) (fun _ _ _ h => h) (Or.inr ⟨by rfl, rfl⟩) ?_ ?_
                      rotate_left
                      · simp only [Act.put, List.setIfInBounds_toArray, List.set_cons_zero, List.set_cons_succ, i64_w, i32_w]
                        rfl
                      refine pure_ (i := 38) (N := some 90) (v := undef) (a' := ?_) #[true, true, true, true, true, true, true, true, true, true, true, true, true, true, true, true, true, true, true, true, true, true, true, true, true, true, true, true, true, true, true, true, true, true, true, true, true, true, true, false, false, false, false, false, false] rfl rfl (any_of HT_.out (by kernel_rfl)) (fun _ _ _ h => h) (Or.inr ⟨by rfl, rfl⟩) ?_ ?_
                      rotate_left
                      · simp only [Act.put, List.setIfInBounds_toArray, List.set_cons_zero, List.set_cons_succ, i64_w, i32_w]
                        rfl
                      refine pure_ (i := 39) (N := some 91) (v := undef) (a' := ?_) #[true, true, true, true, true, true, true, true, true, true, true, true, true, true, true, true, true, true, true, true, true, true, true, true, true, true, true, true, true, true, true, true, true, true, true, true, true, true, true, true, false, false, false, false, false] rfl rfl (any_of HT_.out (by kernel_rfl)) (fun _ _ _ h => h) (Or.inr ⟨by rfl, rfl⟩) ?_ ?_
                      rotate_left
                      · simp only [Act.put, List.setIfInBounds_toArray, List.set_cons_zero, List.set_cons_succ, i64_w, i32_w]
                        rfl
                      refine pure_ (i := 40) (N := some 92) (v := undef) (a' := ?_) #[true, true, true, true, true, true, true, true, true, true, true, true, true, true, true, true, true, true, true, true, true, true, true, true, true, true, true, true, true, true, true, true, true, true, true, true, true, true, true, true, true, false, false, false, false] rfl rfl (any_of HT_.out (by kernel_rfl)) (fun _ _ _ h => h) (Or.inr ⟨by rfl, rfl⟩) ?_ ?_
                      rotate_left
                      · simp only [Act.put, List.setIfInBounds_toArray, List.set_cons_zero, List.set_cons_succ, i64_w, i32_w]
                        rfl
                      refine pure_ (i := 41) (N := some 93) (v := ?_) (a' := ?_) #[true, true, true, true, true, true, true, true, true, true, true, true, true, true, true, true, true, true, true, true, true, true, true, true, true, true, true, true, true, true, true, true, true, true, true, true, true, true, true, true, true, true, false, false, false] rfl rfl (any_of HT_.out (by kernel_rfl)) (fun _ _ _ h => h) (Or.inl ⟨by rfl, ?_⟩) ?_ ?_
                      rotate_left
                      · intro w'
                        go_simp
                        with_reducible rfl
                      rotate_left
                      · simp only [Act.put, List.setIfInBounds_toArray, List.set_cons_zero, List.set_cons_succ, i64_w, i32_w]
                        rfl
                      refine pure_ (i := 42) (N := some 94) (v := ?_) (a' := ?_) #[true, true, true, true, true, true, true, true, true, true, true, true, true, true, true, true, true, true, true, true, true, true, true, true, true, true, true, true, true, true, true, true, true, true, true, true, true, true, true, true, true, true, true, false, false] rfl rfl (any_of HT_.out (by kernel_rfl)) (fun _ _ _ h => h) (Or.inl ⟨by rfl, ?_⟩) ?_ ?_
                      rotate_left
                      · intro w'
                        go_simp
                        with_reducible rfl
                      rotate_left
                      · simp only [Act.put, List.setIfInBounds_toArray, List.set_cons_zero, List.set_cons_succ, i64_w, i32_w]
                        rfl
                      refine pure_ (i := 43) (N := some 95) (v := ?_) (a' := ?_) #[true, true, true, true, true, true, true, true, true, true, true, true, true, true, true, true, true, true, true, true, true, true, true, true, true, true, true, true, true, true, true, true, true, true, true, true, true, true, true, true, true, true, true, true, false] rfl rfl (any_of HT_.out (by kernel_rfl)) (fun _ _ _ h => h) (Or.inl ⟨by rfl, ?_⟩) ?_ ?_
                      rotate_left
                      · intro w'
                        go_simp
                        with_reducible rfl
                      rotate_left
                      · simp only [Act.put, List.setIfInBounds_toArray, List.set_cons_zero, List.set_cons_succ, i64_w, i32_w]
                        rfl
                      refine pure_ (i := 44) (N := some 6) (v := ?_) (a' := ?_) #[true, true, true, true, true, true, true, true, true, true, true, true, true, true, true, true, true, true, true, true, true, true, true, true, true, true, true, true, true, true, true, true, true, true, true, true, true, true, true, true, true, true, true, true, true] rfl rfl (any_of HT_.out (by kernel_rfl)) (fun _ _ _ h => h) (Or.inl ⟨by rfl, ?_⟩) ?_ ?_
                      rotate_left
                      · intro w'
                        go_simp
                        with_reducible rfl
                      rotate_left
                      · simp only [Act.put, List.setIfInBounds_toArray, List.set_cons_zero, List.set_cons_succ, i64_w, i32_w]
                        rfl
                      refine done_ (done_of HT_.out (by kernel_rfl)) ?_
                      try go_wp2
                      go_ret
                      exact ⟨by first | rfl | (simp [errW_none, errW_some] <;> rfl) | (simp [*, errW_none, errW_some] <;> rfl), by repeat (first | (with_reducible first | exact HB.out | apply below_alloc | apply pw_below_drewN | apply below_drew1 | refine below_set ?_ GE313.out | refine below_set ?_ GE314.out | refine below_set ?_ GE315.out | refine below_set ?_ GE320.out | refine below_set ?_ GE321.out) | exact HB.out)⟩
                · replace c82 := Bool.eq_false_iff.mpr c82
                  subst c82
                  have H1 : (none) = some r := by rw [if_neg (show ¬ (false = true) by decide)] at H; exact H
                  clear H
                  have H := H1
                  clear H1
                  exact absurd H (by simp)
              · rw [if_neg c80] at H
                have c80b0 : (t322 == t323) = false := by simpa using c80
                (try (have c80b1 : decide (t322 = t323) = false := by simpa using c80))
                (try (have c80b2 : (t322 == t323) = false := by simpa using c80))
                (try (have c80b3 : ¬ (t322 = t323) := by simpa using c80))
                clear c80
                exact absurd H (by simp)
            · replace c77 := Bool.eq_false_iff.mpr c77
              subst c77
              have H1 : (none) = some r := by rw [if_neg (show ¬ (false = true) by decide)] at H; exact H
              clear H
              have H := H1
              clear H1
              exact absurd H (by simp)

end Go.Proofs.Ytcbcgfeliainaaa.P

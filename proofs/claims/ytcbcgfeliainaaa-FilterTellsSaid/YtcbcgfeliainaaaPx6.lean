/- Go functions that the laws of this seat reach, each as a Lean function, and a proof that a call of the Go code comes to its answers; written by a program (the kit's print, turned in a few places). Conditions: each theorem's own premises. -/
import Derived.Test.YtcbcgfeliainaaaPx0
import Derived.Test.YtcbcgfeliainaaaPx3
import Derived.Test.YtcbcgfeliainaaaPx4
import Derived.Test.YtcbcgfeliainaaaPx5
import Derived.Test.YtcbcgfeliainaaaGAny
namespace Go.Proofs.Ytcbcgfeliainaaa.P
open Go.RowKit Go.Proofs.YtcbcgfeliainaaaW.PrintWords Go.Proofs.YtcbcgfeliainaaaW.PrintLast Go.Proofs.YtcbcgfeliainaaaW.PrintMore
attribute [local go_sem] max2_int min2_int max_two min_two max_three min_three max_four min_four   -- for this text's walks alone
set_option linter.unusedVariables false
set_option linter.unusedSimpArgs false

/-! ### phaetonlaw07_FilterTells: function 3 -/
mutual
def phaetonlaw07_FilterTells.j0 : Nat → List (S23) → Bool → Bool → Bool → Int → Int → Bool → Int → Int → Bool → Int → Bool → Int → List Int → Option (Bool)
  | 0, _, _, _, _, _, _, _, _, _, _, _, _, _, _ => none
  | k + 1, x2, x9, x19, x153000, x153001, x153002, x154000, x154001, x154002, x155000, x155001, x155002, x155003, x155004 => if x19 = true then (some x9) else ((filter_Right.f x153000 x153001 x153002).bind fun t156 => ((phaetonref07_Right.f x153000 x153001 x153002).bind fun t157 => (if (t156 != t157) = true then (none) else ((phaetonref07_Right.f x153000 x153001 x153002).bind fun t158 => (if t158 = true then ((phaetonref07_Right.f x154000 x154001 x154002).bind fun t159 => (if t159 = true then ((phaetonlaw07_good.f k x2).bind fun t160 => (if t160 = true then ((phaetonref04_Right.f k x155000 x155001 x155002 x155003 x155004).bind fun t161 => (phaetonlaw07_FilterTells.j1 k x2 x9 (!t161) x153000 x153001 x153002 x154000 x154001 x154002 x155000 x155001 x155002 x155003 x155004)) else (phaetonlaw07_FilterTells.j1 k x2 x9 true x153000 x153001 x153002 x154000 x154001 x154002 x155000 x155001 x155002 x155003 x155004))) else (phaetonlaw07_FilterTells.j1 k x2 x9 true x153000 x153001 x153002 x154000 x154001 x154002 x155000 x155001 x155002 x155003 x155004))) else (phaetonlaw07_FilterTells.j1 k x2 x9 true x153000 x153001 x153002 x154000 x154001 x154002 x155000 x155001 x155002 x155003 x155004))))))
def phaetonlaw07_FilterTells.j1 : Nat → List (S23) → Bool → Bool → Bool → Int → Int → Bool → Int → Int → Bool → Int → Bool → Int → List Int → Option (Bool)
  | 0, _, _, _, _, _, _, _, _, _, _, _, _, _, _ => none
  | k + 1, x2, x9, x43, x153000, x153001, x153002, x154000, x154001, x154002, x155000, x155001, x155002, x155003, x155004 => if x43 = true then (some x9) else (if x9 = true then ((filter_Takes.f x153000 x153001 x153002 x155000 x155001 x155002 x155003 x155004).bind fun t162 => ((phaetonref07_Takes.f x153000 x153001 x153002 x155000 x155001 x155002 x155003 x155004).bind fun t163 => (if (t162 == t163) = true then ((filter_Any.f x2 x155000 x155001 x155002 x155003 x155004).bind fun t164 => ((phaetonref07_Any.f k x2 x155000 x155001 x155002 x155003 x155004).bind fun t165 => (if (t164 == t165) = true then ((filter_Covers.f x153000 x153001 x153002 x154000 x154001 x154002).bind fun t166 => ((phaetonref07_Covers.f x153000 x153001 x153002 x154000 x154001 x154002).bind fun t167 => (if (t166 == t167) = true then ((filter_Meets.f x153000 x153001 x153002 x154000 x154001 x154002).bind fun t168 => ((phaetonref07_Meets.f x153000 x153001 x153002 x154000 x154001 x154002).bind fun t169 => (some (t168 == t169)))) else (none)))) else (none)))) else (none)))) else (none))
end
def phaetonlaw07_FilterTells.f (k : Nat) (a0_0 : Bool) (a0_1 : Int) (a0_2 : Int) (a1_0 : Bool) (a1_1 : Int) (a1_2 : Int) (l2 : List (S23)) (a3_0 : Bool) (a3_1 : Int) (a3_2 : Bool) (a3_3 : Int) (l3_4 : List Int) : Option (Bool) := (phaetonlaw07_head.f).bind fun t155 => (if (l2.length : Int) > 100 then (phaetonlaw07_FilterTells.j0 k l2 t155 true a0_0 a0_1 a0_2 a1_0 a1_1 a1_2 a3_0 a3_1 a3_2 a3_3 l3_4) else (phaetonlaw07_FilterTells.j0 k l2 t155 (decide ((l3_4.length : Int) > 100)) a0_0 a0_1 a0_2 a1_0 a1_1 a1_2 a3_0 a3_1 a3_2 a3_3 l3_4))
theorem phaetonlaw07_FilterTells.mono_l : ∀ k, (∀ y0 y1 y2 y3 y4 y5 y6 y7 y8 y9 y10 y11 y12 y13, LeO (phaetonlaw07_FilterTells.j0 k y0 y1 y2 y3 y4 y5 y6 y7 y8 y9 y10 y11 y12 y13) (phaetonlaw07_FilterTells.j0 (k + 1) y0 y1 y2 y3 y4 y5 y6 y7 y8 y9 y10 y11 y12 y13)) ∧ (∀ y0 y1 y2 y3 y4 y5 y6 y7 y8 y9 y10 y11 y12 y13, LeO (phaetonlaw07_FilterTells.j1 k y0 y1 y2 y3 y4 y5 y6 y7 y8 y9 y10 y11 y12 y13) (phaetonlaw07_FilterTells.j1 (k + 1) y0 y1 y2 y3 y4 y5 y6 y7 y8 y9 y10 y11 y12 y13))
  | 0 => ⟨fun _ _ _ _ _ _ _ _ _ _ _ _ _ _ r h => by simp [phaetonlaw07_FilterTells.j0] at h, fun _ _ _ _ _ _ _ _ _ _ _ _ _ _ r h => by simp [phaetonlaw07_FilterTells.j1] at h⟩
  | k + 1 => by
    obtain ⟨ih0, ih1⟩ := phaetonlaw07_FilterTells.mono_l k
    refine ⟨?_, ?_⟩
    · intro y0 y1 y2 y3 y4 y5 y6 y7 y8 y9 y10 y11 y12 y13
      unfold phaetonlaw07_FilterTells.j0
      repeat' first
      | (with_reducible exact ih0 _ _ _ _ _ _ _ _ _ _ _ _ _ _)
      | (with_reducible exact ih1 _ _ _ _ _ _ _ _ _ _ _ _ _ _)
      | (with_reducible exact phaetonlaw07_good.mono _ _)
      | (with_reducible exact phaetonref04_Right.mono _ _ _ _ _ _)
      | (with_reducible exact phaetonref07_Any.mono _ _ _ _ _ _ _)
      | (with_reducible exact LeO.refl _)
      | (with_reducible exact LeO.none _)
      | (with_reducible refine LeO.ite ?_ ?_)
      | (with_reducible refine LeO.bind ?_ (fun _ => ?_))
      | exact ih0 _ _ _ _ _ _ _ _ _ _ _ _ _ _
      | exact ih1 _ _ _ _ _ _ _ _ _ _ _ _ _ _
      | exact phaetonlaw07_good.mono _ _
      | exact phaetonref04_Right.mono _ _ _ _ _ _
      | exact phaetonref07_Any.mono _ _ _ _ _ _ _
      | exact LeO.none _
      | refine LeO.ite ?_ ?_
      | refine LeO.bind ?_ (fun _ => ?_)
    · intro y0 y1 y2 y3 y4 y5 y6 y7 y8 y9 y10 y11 y12 y13
      unfold phaetonlaw07_FilterTells.j1
      repeat' first
      | (with_reducible exact ih0 _ _ _ _ _ _ _ _ _ _ _ _ _ _)
      | (with_reducible exact ih1 _ _ _ _ _ _ _ _ _ _ _ _ _ _)
      | (with_reducible exact phaetonlaw07_good.mono _ _)
      | (with_reducible exact phaetonref04_Right.mono _ _ _ _ _ _)
      | (with_reducible exact phaetonref07_Any.mono _ _ _ _ _ _ _)
      | (with_reducible exact LeO.refl _)
      | (with_reducible exact LeO.none _)
      | (with_reducible refine LeO.ite ?_ ?_)
      | (with_reducible refine LeO.bind ?_ (fun _ => ?_))
      | exact ih0 _ _ _ _ _ _ _ _ _ _ _ _ _ _
      | exact ih1 _ _ _ _ _ _ _ _ _ _ _ _ _ _
      | exact phaetonlaw07_good.mono _ _
      | exact phaetonref04_Right.mono _ _ _ _ _ _
      | exact phaetonref07_Any.mono _ _ _ _ _ _ _
      | exact LeO.none _
      | refine LeO.ite ?_ ?_
      | refine LeO.bind ?_ (fun _ => ?_)
theorem phaetonlaw07_FilterTells.mono : ∀ a0 a1 a2 a3 a4 a5 a6 a7 a8 a9 a10 a11 k, LeO (phaetonlaw07_FilterTells.f k a0 a1 a2 a3 a4 a5 a6 a7 a8 a9 a10 a11) (phaetonlaw07_FilterTells.f (k + 1) a0 a1 a2 a3 a4 a5 a6 a7 a8 a9 a10 a11) := by
  intro a0 a1 a2 a3 a4 a5 a6 a7 a8 a9 a10 a11 k
  obtain ⟨ih0, ih1⟩ := phaetonlaw07_FilterTells.mono_l k
  unfold phaetonlaw07_FilterTells.f
  repeat' first
      | (with_reducible exact ih0 _ _ _ _ _ _ _ _ _ _ _ _ _ _)
      | (with_reducible exact ih1 _ _ _ _ _ _ _ _ _ _ _ _ _ _)
      | (with_reducible exact phaetonlaw07_good.mono _ _)
      | (with_reducible exact phaetonref04_Right.mono _ _ _ _ _ _)
      | (with_reducible exact phaetonref07_Any.mono _ _ _ _ _ _ _)
      | (with_reducible exact LeO.refl _)
      | (with_reducible exact LeO.none _)
      | (with_reducible refine LeO.ite ?_ ?_)
      | (with_reducible refine LeO.bind ?_ (fun _ => ?_))
      | exact ih0 _ _ _ _ _ _ _ _ _ _ _ _ _ _
      | exact ih1 _ _ _ _ _ _ _ _ _ _ _ _ _ _
      | exact phaetonlaw07_good.mono _ _
      | exact phaetonref04_Right.mono _ _ _ _ _ _
      | exact phaetonref07_Any.mono _ _ _ _ _ _ _
      | exact LeO.none _
      | refine LeO.ite ?_ ?_
      | refine LeO.bind ?_ (fun _ => ?_)
def phaetonlaw07_FilterTells.T8 : Bool × List (List Nat × List Nat) := (true, [([], []), ([0], [0]), ([1], [1]), ([1], [1]), ([2, 3, 1, 1], [1, 2, 3]), ([1], [1]), ([1], [1]), ([5, 6, 4, 1], [1, 5, 6]), ([4, 7, 1], [1, 4, 7]), ([1, 8], [1, 8]), ([9, 7], [9]), ([10], [10]), ([10], [10]), ([11, 12, 10, 10], [10, 11, 12]), ([10], [10]), ([10], [10]), ([14, 15, 13, 10], [10, 14, 15]), ([13, 16, 10], [10, 13, 16]), ([10, 17], [10, 17]), ([18, 16], [18]), ([19], [19]), ([19], [19]), ([20, 21, 19, 19], [19, 20, 21]), ([19], [19]), ([19], [19]), ([23, 24, 22, 19], [19, 23, 24]), ([22, 25, 19], [19, 22, 25]), ([19, 26], [19, 26]), ([27, 25], [27]), ([28], [28]), ([28], [28]), ([29, 30, 28, 28], [28, 29, 30]), ([28], [28]), ([28], [28]), ([32, 33, 31, 28], [28, 32, 33]), ([31, 34, 28], [28, 31, 34]), ([28, 35], [28, 35]), ([36, 34, 0, 1, 2, 3, 4, 5, 6, 7, 8, 9, 10, 11, 12, 13, 14, 15, 16, 17, 18, 19, 20, 21, 22, 23, 24, 25, 26, 27, 28, 29, 30, 31, 32, 33, 34, 35, 36], [36])])
def phaetonlaw07_FilterTells.B8 : List Nat := [0, 1, 3, 3, 15, 3, 3, 127, 255, 511, 1023, 2047, 2047, 8191, 2047, 2047, 65535, 131071, 262143, 524287, 1048575, 1048575, 4194303, 1048575, 1048575, 33554431, 67108863, 134217727, 268435455, 536870911, 536870911, 2147483647, 536870911, 536870911, 17179869183, 34359738367, 68719476735, 137438953471]
theorem phaetonlaw07_FilterTells.tab8 : rtab .any (opsOf Try.f3 8) = phaetonlaw07_FilterTells.T8 := by kernel_rfl
theorem phaetonlaw07_FilterTells.bits8 : waitsOk phaetonlaw07_FilterTells.T8.2 phaetonlaw07_FilterTells.B8 = true := by kernel_rfl
set_option maxHeartbeats 8000000 in
set_option maxRecDepth 100000 in
theorem phaetonlaw07_FilterTells.calls (k : Nat) (a0_0 : Bool) (a0_1 : Int) (a0_2 : Int) (a1_0 : Bool) (a1_1 : Int) (a1_2 : Int) (A2 : Option Addr) (c2 : Nat) (l2 : List (S23)) (a3_0 : Bool) (a3_1 : Int) (a3_2 : Bool) (a3_3 : Int) (A3_4 : Option Addr) (c3_4 : Nat) (l3_4 : List Int) (r : Bool) (w : World) (hr2 : Kd.C k23 w A2 l2.length l2) (hc2 : l2.length ≤ c2) (hr3_4 : Kd.C (Kd.int .u8) w A3_4 l3_4.length l3_4) (hc3_4 : l3_4.length ≤ c3_4) (h : phaetonlaw07_FilterTells.f k a0_0 a0_1 a0_2 a1_0 a1_1 a1_2 l2 a3_0 a3_1 a3_2 a3_3 l3_4 = some r) :
    Calls Try.prog 3 #[.agg #[.bool a0_0, .int .i64 a0_1, .int .i64 a0_2], .agg #[.bool a1_0, .int .i64 a1_1, .int .i64 a1_2], .slice A2 l2.length c2, .agg #[.bool a3_0, .int .i64 a3_1, .bool a3_2, .int .i64 a3_3, .slice A3_4 l3_4.length c3_4]] w fun e w' => e = .returned (.bool r) ∧ Below w.heap.size w w' := by
  have hu23 := Try.underlying23
  have hu27 := Try.underlying27
  have HR2 := Aside0.mk hr2
  have HC2 := Aside0.mk hc2
  clear hr2 hc2
  have HR3_4 := Aside0.mk hr3_4
  have HC3_4 := Aside0.mk hc3_4
  clear hr3_4 hc3_4
  have HB := Aside0.mk (Below.refl w.heap.size w)
  have H : ((phaetonlaw07_head.f).bind fun t155 => (if (l2.length : Int) > 100 then (phaetonlaw07_FilterTells.j0 k l2 t155 true a0_0 a0_1 a0_2 a1_0 a1_1 a1_2 a3_0 a3_1 a3_2 a3_3 l3_4) else (phaetonlaw07_FilterTells.j0 k l2 t155 (decide ((l3_4.length : Int) > 100)) a0_0 a0_1 a0_2 a1_0 a1_1 a1_2 a3_0 a3_1 a3_2 a3_3 l3_4))) = some r := h
  clear h
  replace H := Option.bind_eq_some_iff.mp H
  obtain ⟨t155, A50, H⟩ := H
  replace H : (if (l2.length : Int) > 100 then (phaetonlaw07_FilterTells.j0 k l2 t155 true a0_0 a0_1 a0_2 a1_0 a1_1 a1_2 a3_0 a3_1 a3_2 a3_3 l3_4) else (phaetonlaw07_FilterTells.j0 k l2 t155 (decide ((l3_4.length : Int) > 100)) a0_0 a0_1 a0_2 a1_0 a1_1 a1_2 a3_0 a3_1 a3_2 a3_3 l3_4)) = some r := H
  have A5 := Aside0.mk A50
  clear A50
  have HC6 := Aside0.mk H
  clear H
  go_enter Try.func3, Try.ntmps3
  go_upto_region 2 with (first | ((with_reducible refine gate_dst (N := 4) rfl ?_); (try (refine gate_guard (by rfl) ?_; dsimp only)); refine box_event ?hg (N := 4) ?hd (cs := #[.bool a0_0, .int .i64 a0_1, .int .i64 a0_2]) (t := 23) ?hr ?_; (case hd => rfl); (case hg => rfl); (case hr => first | (go_simp; done) | (go_simp; rfl)); intro gb152 hg w7 hbox hb; have n0_ := Aside0.mk (below_step (by repeat (first | (with_reducible first | exact HB.out | apply below_alloc | apply pw_below_drewN | apply below_drew1) | exact HB.out)) hb); have n1_ := Aside0.mk (hbox); have n2_ := Aside0.mk ((by rw [hg]; exact (below_size (by repeat (first | (with_reducible first | exact HB.out | apply below_alloc | apply pw_below_drewN | apply below_drew1) | exact HB.out))) : w.heap.size ≤ gb152)); have n3_ := Aside0.mk ((by rw [hg]; exact (below_size (by repeat (first | (with_reducible first | exact HB.out | apply below_alloc | apply pw_below_drewN | apply below_drew1) | exact HB.out))) : w.heap.size ≤ gb152)); clear HB; have HB := n0_; have BK152 := n1_; have GW152 := n2_; have GE152 := n3_; clear n0_ n1_ n2_ n3_; clear hb hbox hg) | ((with_reducible refine gate_dst (N := 5) rfl ?_); (try (refine gate_guard (by rfl) ?_; dsimp only)); refine box_event ?hg (N := 5) ?hd (cs := #[.bool a1_0, .int .i64 a1_1, .int .i64 a1_2]) (t := 23) ?hr ?_; (case hd => rfl); (case hg => rfl); (case hr => first | (go_simp; done) | (go_simp; rfl)); intro gb153 hg w8 hbox hb; have n0_ := Aside0.mk (blk_below (g := gb152) (o := .cells #[.bool a0_0, .int .i64 a0_1, .int .i64 a0_2] 23 (0, 0)) (by (with_reducible repeat (first | refine blk_drewN ?_ _ | refine blk_drew ?_ | refine blk_alloc ?_ _)); exact BK152.out) hb); have n1_ := Aside0.mk (below_step (by repeat (first | (with_reducible first | exact HB.out | apply below_alloc | apply pw_below_drewN | apply below_drew1 | refine below_set ?_ GE152.out) | exact HB.out)) hb); have n2_ := Aside0.mk (hbox); have n3_ := Aside0.mk ((by rw [hg]; exact (below_size (by repeat (first | (with_reducible first | exact HB.out | apply below_alloc | apply pw_below_drewN | apply below_drew1 | refine below_set ?_ GE152.out) | exact HB.out))) : w.heap.size ≤ gb153)); have n4_ := Aside0.mk ((by rw [hg]; exact (below_size (by repeat (first | (with_reducible first | exact HB.out | apply below_alloc | apply pw_below_drewN | apply below_drew1 | refine below_set ?_ GE152.out) | exact HB.out))) : w.heap.size ≤ gb153)); have n5_ := Aside0.mk ((by rw [hg]; exact Nat.ne_of_lt (blk_lt (g := gb152) (o := .cells #[.bool a0_0, .int .i64 a0_1, .int .i64 a0_2] 23 (0, 0)) (by (with_reducible repeat (first | refine blk_drewN ?_ _ | refine blk_drew ?_ | refine blk_alloc ?_ _)); exact BK152.out)) : gb152 ≠ gb153)); have n6_ := Aside0.mk ((by rw [hg]; exact Nat.ne_of_gt (blk_lt (g := gb152) (o := .cells #[.bool a0_0, .int .i64 a0_1, .int .i64 a0_2] 23 (0, 0)) (by (with_reducible repeat (first | refine blk_drewN ?_ _ | refine blk_drew ?_ | refine blk_alloc ?_ _)); exact BK152.out)) : gb153 ≠ gb152)); clear BK152; clear HB; have BK152 := n0_; have HB := n1_; have BK153 := n2_; have GW153 := n3_; have GE153 := n4_; have NB152_153 := n5_; have NB153_152 := n6_; clear n0_ n1_ n2_ n3_ n4_ n5_ n6_; clear hb hbox hg) | ((with_reducible refine gate_dst (N := 7) rfl ?_); (try (refine gate_guard (by rfl) ?_; dsimp only)); refine box_event ?hg (N := 7) ?hd (cs := #[.bool a3_0, .int .i64 a3_1, .bool a3_2, .int .i64 a3_3, .slice A3_4 l3_4.length c3_4]) (t := 27) ?hr ?_; (case hd => rfl); (case hg => rfl); (case hr => first | (go_simp; done) | (go_simp; rfl)); intro gb154 hg w9 hbox hb; have n0_ := Aside0.mk (blk_below (g := gb152) (o := .cells #[.bool a0_0, .int .i64 a0_1, .int .i64 a0_2] 23 (0, 0)) (by (with_reducible repeat (first | refine blk_drewN ?_ _ | refine blk_drew ?_ | refine blk_alloc ?_ _)); exact BK152.out) hb); have n1_ := Aside0.mk (blk_below (g := gb153) (o := .cells #[.bool a1_0, .int .i64 a1_1, .int .i64 a1_2] 23 (0, 0)) (by (with_reducible repeat (first | refine blk_drewN ?_ _ | refine blk_drew ?_ | refine blk_alloc ?_ _)); exact BK153.out) hb); have n2_ := Aside0.mk (below_step (by repeat (first | (with_reducible first | exact HB.out | apply below_alloc | apply pw_below_drewN | apply below_drew1 | refine below_set ?_ GE152.out | refine below_set ?_ GE153.out) | exact HB.out)) hb); have n3_ := Aside0.mk (hbox); have n4_ := Aside0.mk ((by rw [hg]; exact (below_size (by repeat (first | (with_reducible first | exact HB.out | apply below_alloc | apply pw_below_drewN | apply below_drew1 | refine below_set ?_ GE152.out | refine below_set ?_ GE153.out) | exact HB.out))) : w.heap.size ≤ gb154)); have n5_ := Aside0.mk ((by rw [hg]; exact (below_size (by repeat (first | (with_reducible first | exact HB.out | apply below_alloc | apply pw_below_drewN | apply below_drew1 | refine below_set ?_ GE152.out | refine below_set ?_ GE153.out) | exact HB.out))) : w.heap.size ≤ gb154)); have n6_ := Aside0.mk ((by rw [hg]; exact Nat.ne_of_lt (blk_lt (g := gb152) (o := .cells #[.bool a0_0, .int .i64 a0_1, .int .i64 a0_2] 23 (0, 0)) (by (with_reducible repeat (first | refine blk_drewN ?_ _ | refine blk_drew ?_ | refine blk_alloc ?_ _)); exact BK152.out)) : gb152 ≠ gb154)); have n7_ := Aside0.mk ((by rw [hg]; exact Nat.ne_of_gt (blk_lt (g := gb152) (o := .cells #[.bool a0_0, .int .i64 a0_1, .int .i64 a0_2] 23 (0, 0)) (by (with_reducible repeat (first | refine blk_drewN ?_ _ | refine blk_drew ?_ | refine blk_alloc ?_ _)); exact BK152.out)) : gb154 ≠ gb152)); have n8_ := Aside0.mk ((by rw [hg]; exact Nat.ne_of_lt (blk_lt (g := gb153) (o := .cells #[.bool a1_0, .int .i64 a1_1, .int .i64 a1_2] 23 (0, 0)) (by (with_reducible repeat (first | refine blk_drewN ?_ _ | refine blk_drew ?_ | refine blk_alloc ?_ _)); exact BK153.out)) : gb153 ≠ gb154)); have n9_ := Aside0.mk ((by rw [hg]; exact Nat.ne_of_gt (blk_lt (g := gb153) (o := .cells #[.bool a1_0, .int .i64 a1_1, .int .i64 a1_2] 23 (0, 0)) (by (with_reducible repeat (first | refine blk_drewN ?_ _ | refine blk_drew ?_ | refine blk_alloc ?_ _)); exact BK153.out)) : gb154 ≠ gb153)); clear BK152; clear BK153; clear HB; have BK152 := n0_; have BK153 := n1_; have HB := n2_; have BK154 := n3_; have GW154 := n4_; have GE154 := n5_; have NB152_154 := n6_; have NB154_152 := n7_; have NB153_154 := n8_; have NB154_153 := n9_; clear n0_ n1_ n2_ n3_ n4_ n5_ n6_ n7_ n8_ n9_; clear hb hbox hg) | ((with_reducible refine gate_callee (f := 10) rfl ?_); refine goesL_ (some 10) rfl rfl Try.func10 (by kernel_rfl) rfl #[] rfl (by (try simp only [List.map_toArray, List.map_cons, List.map_nil]); first | done | rfl | (simp only [List.length_drop, List.length_take]; rfl)) ?_; (with_reducible refine (phaetonlaw07_head.calls  t155 _ A5.out).mono ?_); rintro e w10 ⟨rfl, hb⟩; refine ⟨_, rfl, ?_⟩; have n0_ := Aside0.mk (blk_below (g := gb152) (o := .cells #[.bool a0_0, .int .i64 a0_1, .int .i64 a0_2] 23 (0, 0)) (by (with_reducible repeat (first | refine blk_drewN ?_ _ | refine blk_drew ?_ | refine blk_alloc ?_ _)); exact BK152.out) hb); have n1_ := Aside0.mk (blk_below (g := gb153) (o := .cells #[.bool a1_0, .int .i64 a1_1, .int .i64 a1_2] 23 (0, 0)) (by (with_reducible repeat (first | refine blk_drewN ?_ _ | refine blk_drew ?_ | refine blk_alloc ?_ _)); exact BK153.out) hb); have n2_ := Aside0.mk (blk_below (g := gb154) (o := .cells #[.bool a3_0, .int .i64 a3_1, .bool a3_2, .int .i64 a3_3, .slice A3_4 l3_4.length c3_4] 27 (0, 0)) (by (with_reducible repeat (first | refine blk_drewN ?_ _ | refine blk_drew ?_ | refine blk_alloc ?_ _)); exact BK154.out) hb); have n3_ := Aside0.mk (below_step (by repeat (first | (with_reducible first | exact HB.out | apply below_alloc | apply pw_below_drewN | apply below_drew1 | refine below_set ?_ GE152.out | refine below_set ?_ GE153.out | refine below_set ?_ GE154.out) | exact HB.out)) hb); clear BK152; clear BK153; clear BK154; clear HB; have BK152 := n0_; have BK153 := n1_; have BK154 := n2_; have HB := n3_; clear n0_ n1_ n2_ n3_; (try clear hb); (try clear hb2); (try clear hk); (try clear hi)))
  (try simp only [Act.put, List.setIfInBounds_toArray, List.set_cons_zero, List.set_cons_succ])
  go_cut [19] (fun v19 wc => ∃ (kq : Nat) (x19_5 : Bool), v19 = .bool x19_5 ∧ Aside0 (phaetonlaw07_FilterTells.j0 kq l2 t155 x19_5 a0_0 a0_1 a0_2 a1_0 a1_1 a1_2 a3_0 a3_1 a3_2 a3_3 l3_4 = some r) ∧ Aside0 (kq ≤ k) ∧ Aside0 (wc.heap[gb152]? = some (.cells #[.bool a0_0, .int .i64 a0_1, .int .i64 a0_2] 23 (0, 0))) ∧ Aside0 (wc.heap[gb153]? = some (.cells #[.bool a1_0, .int .i64 a1_1, .int .i64 a1_2] 23 (0, 0))) ∧ Aside0 (wc.heap[gb154]? = some (.cells #[.bool a3_0, .int .i64 a3_1, .bool a3_2, .int .i64 a3_3, (.slice A3_4 l3_4.length c3_4)] 27 (0, 0))) ∧ Aside0 (Below w.heap.size w wc))
  case first =>
    have H := HC6.out
    clear HC6
    by_cases c11 : (l2.length : Int) > 100
    · rw [if_pos c11] at H
      have c11b0 : decide (100 < (l2.length : Int)) = true := decide_eq_true c11
      have c11b1 : decide (100 < l2.length) = true := decide_eq_true (by omega)
      clear c11
      (first | rw [c11b0] | (simp only [i64_w, i32_w]; rw [c11b0]) | skip)
      have H' := Aside0.mk H
      clear H
      go_wp2
      go_meet
      case rel => exact ⟨_, (true), (by first | rfl | (simp; done) | (simp [*]; done)), H', ⟨by first | omega | exact Nat.le_refl _⟩, ⟨by (with_reducible repeat (first | refine blk_drewN ?_ _ | refine blk_drew ?_ | refine blk_alloc ?_ _)); exact BK152.out⟩, ⟨by (with_reducible repeat (first | refine blk_drewN ?_ _ | refine blk_drew ?_ | refine blk_alloc ?_ _)); exact BK153.out⟩, ⟨by (with_reducible repeat (first | refine blk_drewN ?_ _ | refine blk_drew ?_ | refine blk_alloc ?_ _)); exact BK154.out⟩, ⟨by repeat (first | (with_reducible first | exact HB.out | apply below_alloc | apply pw_below_drewN | apply below_drew1 | refine below_set ?_ GE152.out | refine below_set ?_ GE153.out | refine below_set ?_ GE154.out) | exact HB.out)⟩⟩
    · rw [if_neg c11] at H
      have c11b0 : decide (100 < (l2.length : Int)) = false := decide_eq_false c11
      have c11b1 : decide (100 < l2.length) = false := decide_eq_false (by omega)
      clear c11
      (first | rw [c11b0] | (simp only [i64_w, i32_w]; rw [c11b0]) | skip)
      have H' := Aside0.mk H
      clear H
      have hnb12 := NB154_152.out
      have hnc12 := NB152_154.out
      have hnb13 := NB154_153.out
      have hnc13 := NB153_154.out
      have hcz14_0 : w10.cell? ⟨gb154, 0, none⟩ = some (.bool a3_0) := (blk_cell BK154.out 0).trans rfl
      have hcz14_1 : w10.cell? ⟨gb154, 1, none⟩ = some (.int .i64 a3_1) := (blk_cell BK154.out 1).trans rfl
      have hcz14_2 : w10.cell? ⟨gb154, 2, none⟩ = some (.bool a3_2) := (blk_cell BK154.out 2).trans rfl
      have hcz14_3 : w10.cell? ⟨gb154, 3, none⟩ = some (.int .i64 a3_3) := (blk_cell BK154.out 3).trans rfl
      have hcz14_4 : w10.cell? ⟨gb154, 4, none⟩ = some (.slice A3_4 l3_4.length c3_4) := (blk_cell BK154.out 4).trans rfl
      have hfz14_0 := blk_frozen BK154.out 0
      have hfz14_1 := blk_frozen BK154.out 1
      have hfz14_2 := blk_frozen BK154.out 2
      have hfz14_3 := blk_frozen BK154.out 3
      have hfz14_4 := blk_frozen BK154.out 4
      go_wp2
      go_meet
      case rel => exact ⟨_, (decide ((l3_4.length : Int) > 100)), (by first | rfl | (simp; done) | (simp [*]; done)), H', ⟨by first | omega | exact Nat.le_refl _⟩, ⟨by (with_reducible repeat (first | refine blk_drewN ?_ _ | refine blk_drew ?_ | refine blk_alloc ?_ _)); exact BK152.out⟩, ⟨by (with_reducible repeat (first | refine blk_drewN ?_ _ | refine blk_drew ?_ | refine blk_alloc ?_ _)); exact BK153.out⟩, ⟨by (with_reducible repeat (first | refine blk_drewN ?_ _ | refine blk_drew ?_ | refine blk_alloc ?_ _)); exact BK154.out⟩, ⟨by repeat (first | (with_reducible first | exact HB.out | apply below_alloc | apply pw_below_drewN | apply below_drew1 | refine below_set ?_ GE152.out | refine below_set ?_ GE153.out | refine below_set ?_ GE154.out) | exact HB.out)⟩⟩
  case rest =>
    clear HC6
    try clear c1
    try clear c2
    try clear p2
    try clear c3
    try clear c10
    try clear c11
    try clear c11b0
    try clear c11b1
    try clear c12
    try clear c13
    try clear hcz14_0
    try clear hcz14_1
    try clear hcz14_2
    try clear hcz14_3
    try clear hcz14_4
    try clear hfz14_0
    try clear hfz14_1
    try clear hfz14_2
    try clear hfz14_3
    try clear hfz14_4
    obtain ⟨kq, x19_5, rfl, HA, HJ5, BK152, BK153, BK154, HB⟩ := hcut
    cases kq with
    | zero => exact absurd HA.out (by simp [phaetonlaw07_FilterTells.j0])
    | succ kj5 =>
      have H := HA.out
      clear HA
      simp only [phaetonlaw07_FilterTells.j0] at H
      by_cases c15 : x19_5 = true
      · subst c15
        have H1 : (some t155) = some r := by rw [if_pos rfl] at H; exact H
        clear H
        have H := H1
        clear H1
        obtain rfl := Option.some.inj H
        go_wp2
        go_ret
        exact ⟨by first | rfl | (simp [errW_none, errW_some] <;> rfl) | (simp [*, errW_none, errW_some] <;> rfl), by repeat (first | (with_reducible first | exact HB.out | apply below_alloc | apply pw_below_drewN | apply below_drew1 | refine below_set ?_ GE152.out | refine below_set ?_ GE153.out | refine below_set ?_ GE154.out) | exact HB.out)⟩
      · replace c15 := Bool.eq_false_iff.mpr c15
        subst c15
        have H1 : ((filter_Right.f a0_0 a0_1 a0_2).bind fun t156 => ((phaetonref07_Right.f a0_0 a0_1 a0_2).bind fun t157 => (if (t156 != t157) = true then (none) else ((phaetonref07_Right.f a0_0 a0_1 a0_2).bind fun t158 => (if t158 = true then ((phaetonref07_Right.f a1_0 a1_1 a1_2).bind fun t159 => (if t159 = true then ((phaetonlaw07_good.f kj5 l2).bind fun t160 => (if t160 = true then ((phaetonref04_Right.f kj5 a3_0 a3_1 a3_2 a3_3 l3_4).bind fun t161 => (phaetonlaw07_FilterTells.j1 kj5 l2 t155 (!t161) a0_0 a0_1 a0_2 a1_0 a1_1 a1_2 a3_0 a3_1 a3_2 a3_3 l3_4)) else (phaetonlaw07_FilterTells.j1 kj5 l2 t155 true a0_0 a0_1 a0_2 a1_0 a1_1 a1_2 a3_0 a3_1 a3_2 a3_3 l3_4))) else (phaetonlaw07_FilterTells.j1 kj5 l2 t155 true a0_0 a0_1 a0_2 a1_0 a1_1 a1_2 a3_0 a3_1 a3_2 a3_3 l3_4))) else (phaetonlaw07_FilterTells.j1 kj5 l2 t155 true a0_0 a0_1 a0_2 a1_0 a1_1 a1_2 a3_0 a3_1 a3_2 a3_3 l3_4)))))) = some r := by rw [if_neg (show ¬ (false = true) by decide)] at H; exact H
        clear H
        have H := H1
        clear H1
        replace H := Option.bind_eq_some_iff.mp H
        obtain ⟨t156, A160, H⟩ := H
        replace H : ((phaetonref07_Right.f a0_0 a0_1 a0_2).bind fun t157 => (if (t156 != t157) = true then (none) else ((phaetonref07_Right.f a0_0 a0_1 a0_2).bind fun t158 => (if t158 = true then ((phaetonref07_Right.f a1_0 a1_1 a1_2).bind fun t159 => (if t159 = true then ((phaetonlaw07_good.f kj5 l2).bind fun t160 => (if t160 = true then ((phaetonref04_Right.f kj5 a3_0 a3_1 a3_2 a3_3 l3_4).bind fun t161 => (phaetonlaw07_FilterTells.j1 kj5 l2 t155 (!t161) a0_0 a0_1 a0_2 a1_0 a1_1 a1_2 a3_0 a3_1 a3_2 a3_3 l3_4)) else (phaetonlaw07_FilterTells.j1 kj5 l2 t155 true a0_0 a0_1 a0_2 a1_0 a1_1 a1_2 a3_0 a3_1 a3_2 a3_3 l3_4))) else (phaetonlaw07_FilterTells.j1 kj5 l2 t155 true a0_0 a0_1 a0_2 a1_0 a1_1 a1_2 a3_0 a3_1 a3_2 a3_3 l3_4))) else (phaetonlaw07_FilterTells.j1 kj5 l2 t155 true a0_0 a0_1 a0_2 a1_0 a1_1 a1_2 a3_0 a3_1 a3_2 a3_3 l3_4))))) = some r := H
        have A16 := Aside0.mk A160
        clear A160
        replace H := Option.bind_eq_some_iff.mp H
        obtain ⟨t157, A170, H⟩ := H
        replace H : (if (t156 != t157) = true then (none) else ((phaetonref07_Right.f a0_0 a0_1 a0_2).bind fun t158 => (if t158 = true then ((phaetonref07_Right.f a1_0 a1_1 a1_2).bind fun t159 => (if t159 = true then ((phaetonlaw07_good.f kj5 l2).bind fun t160 => (if t160 = true then ((phaetonref04_Right.f kj5 a3_0 a3_1 a3_2 a3_3 l3_4).bind fun t161 => (phaetonlaw07_FilterTells.j1 kj5 l2 t155 (!t161) a0_0 a0_1 a0_2 a1_0 a1_1 a1_2 a3_0 a3_1 a3_2 a3_3 l3_4)) else (phaetonlaw07_FilterTells.j1 kj5 l2 t155 true a0_0 a0_1 a0_2 a1_0 a1_1 a1_2 a3_0 a3_1 a3_2 a3_3 l3_4))) else (phaetonlaw07_FilterTells.j1 kj5 l2 t155 true a0_0 a0_1 a0_2 a1_0 a1_1 a1_2 a3_0 a3_1 a3_2 a3_3 l3_4))) else (phaetonlaw07_FilterTells.j1 kj5 l2 t155 true a0_0 a0_1 a0_2 a1_0 a1_1 a1_2 a3_0 a3_1 a3_2 a3_3 l3_4)))) = some r := H
        have A17 := Aside0.mk A170
        clear A170
        by_cases c18 : (t156 != t157) = true
        · rw [if_pos c18] at H
          exact absurd H (by simp)
        · rw [if_neg c18] at H
          have c18b0 : (t156 != t157) = false := by simpa using c18
          (try (have c18b1 : decide (t156 = t157) = true := by simpa using c18))
          (try (have c18b2 : (t156 == t157) = true := by simpa using c18))
          clear c18
          have HC19 := Aside0.mk H
          clear H
          try go_wp2
          have n0_ := Aside0.mk (blk_drew BK152.out)
          have n1_ := Aside0.mk (blk_drew BK153.out)
          have n2_ := Aside0.mk (blk_drew BK154.out)
          have n3_ := Aside0.mk (below_drew1 HB.out)
          clear BK152
          clear BK153
          clear BK154
          clear HB
          have BK152 := n0_
          have BK153 := n1_
          have BK154 := n2_
          have HB := n3_
          clear n0_ n1_ n2_ n3_
          refine start_ (n := 5) (S := fun w' => w'.cell? ⟨gb152, 0, none⟩ = some (.bool a0_0) ∧ w'.cell? ⟨gb152, 1, none⟩ = some (.int .i64 a0_1) ∧ w'.cell? ⟨gb152, 2, none⟩ = some (.int .i64 a0_2)) (ds := []) #[false, false, false, false, false] (by kernel_rfl) rfl rfl ⟨(blk_cell BK152.out 0).trans rfl, (blk_cell BK152.out 1).trans rfl, (blk_cell BK152.out 2).trans rfl⟩ (fun hHeld => ?_)
          generalize wc.drew = w20 at BK152 BK153 BK154 HB hHeld ⊢
          refine take_ (i := 0) (N := some 21) (v := ?_) (a' := ?_) #[true, false, false, false, false] rfl rfl (by kernel_rfl) (fun _ _ _ h => h) (Or.inl ⟨by rfl, ?_⟩) hHeld ?_ ?_
          rotate_left
          · rintro w' ⟨s0, s1, s2⟩
            go_simp
            with_reducible rfl
          rotate_left
          · simp only [Act.put, List.setIfInBounds_toArray, List.set_cons_zero, List.set_cons_succ, i64_w, i32_w]
            rfl
          refine take_ (i := 2) (N := some 23) (v := ?_) (a' := ?_) #[true, false, true, false, false] rfl rfl (by kernel_rfl) (fun _ _ _ h => h) (Or.inl ⟨by rfl, ?_⟩) hHeld ?_ ?_
          rotate_left
          · rintro w' ⟨s0, s1, s2⟩
            go_simp
            with_reducible rfl
          rotate_left
          · simp only [Act.put, List.setIfInBounds_toArray, List.set_cons_zero, List.set_cons_succ, i64_w, i32_w]
            rfl
          refine one_ (i := 1) (N := some 22) #[true, true, true, false, false] rfl rfl (by kernel_rfl) (by decide) (fun K hK => ?_)
          refine goes_ Try.func11 (by kernel_rfl) rfl #[.agg #[.bool a0_0, .int .i64 a0_1, .int .i64 a0_2]] (by rfl) rfl rfl (by (try simp only [List.map_toArray, List.map_cons, List.map_nil]); first | done | rfl | (simp only [List.length_drop, List.length_take]; rfl)) ?_
          with_reducible refine (filter_Right.calls a0_0 a0_1 a0_2 t156 _ A16.out).mono ?_
          rintro e w21 ⟨rfl, hb⟩
          refine ⟨_, rfl, ?_⟩
          have n0_ := Aside0.mk (blk_below (g := gb152) (o := .cells #[.bool a0_0, .int .i64 a0_1, .int .i64 a0_2] 23 (0, 0)) (by (with_reducible repeat (first | refine blk_drewN ?_ _ | refine blk_drew ?_ | refine blk_alloc ?_ _)); exact BK152.out) hb)
          have n1_ := Aside0.mk (blk_below (g := gb153) (o := .cells #[.bool a1_0, .int .i64 a1_1, .int .i64 a1_2] 23 (0, 0)) (by (with_reducible repeat (first | refine blk_drewN ?_ _ | refine blk_drew ?_ | refine blk_alloc ?_ _)); exact BK153.out) hb)
          have n2_ := Aside0.mk (blk_below (g := gb154) (o := .cells #[.bool a3_0, .int .i64 a3_1, .bool a3_2, .int .i64 a3_3, .slice A3_4 l3_4.length c3_4] 27 (0, 0)) (by (with_reducible repeat (first | refine blk_drewN ?_ _ | refine blk_drew ?_ | refine blk_alloc ?_ _)); exact BK154.out) hb)
          have n3_ := Aside0.mk (below_step (by repeat (first | (with_reducible first | exact HB.out | apply below_alloc | apply pw_below_drewN | apply below_drew1 | refine below_set ?_ GE152.out | refine below_set ?_ GE153.out | refine below_set ?_ GE154.out) | exact HB.out)) hb)
          clear BK152
          clear BK153
          clear BK154
          clear HB
          have BK152 := n0_
          have BK153 := n1_
          have BK154 := n2_
          have HB := n3_
          clear n0_ n1_ n2_ n3_
          (try clear hb)
          (try clear hb2)
          (try clear hk)
          (try clear hi)
          refine hK.out _ _ ⟨(blk_cell BK152.out 0).trans rfl, (blk_cell BK152.out 1).trans rfl, (blk_cell BK152.out 2).trans rfl⟩ (fun hHeld => ?_)
          clear hK K
          refine norm_ (a' := ?_) ?_ ?_
          rotate_left
          · show Act.put _ (some 22) _ = _
            simp only [Act.put, List.setIfInBounds_toArray, List.set_cons_zero, List.set_cons_succ, i64_w, i32_w]
            rfl
          refine one_ (i := 3) (N := some 24) #[true, true, true, true, false] rfl rfl (by kernel_rfl) (by decide) (fun K hK => ?_)
          refine goes_ Try.func12 (by kernel_rfl) rfl #[.agg #[.bool a0_0, .int .i64 a0_1, .int .i64 a0_2]] (by rfl) rfl rfl (by (try simp only [List.map_toArray, List.map_cons, List.map_nil]); first | done | rfl | (simp only [List.length_drop, List.length_take]; rfl)) ?_
          with_reducible refine (phaetonref07_Right.calls a0_0 a0_1 a0_2 t157 _ A17.out).mono ?_
          rintro e w22 ⟨rfl, hb⟩
          refine ⟨_, rfl, ?_⟩
          have n0_ := Aside0.mk (blk_below (g := gb152) (o := .cells #[.bool a0_0, .int .i64 a0_1, .int .i64 a0_2] 23 (0, 0)) (by (with_reducible repeat (first | refine blk_drewN ?_ _ | refine blk_drew ?_ | refine blk_alloc ?_ _)); exact BK152.out) hb)
          have n1_ := Aside0.mk (blk_below (g := gb153) (o := .cells #[.bool a1_0, .int .i64 a1_1, .int .i64 a1_2] 23 (0, 0)) (by (with_reducible repeat (first | refine blk_drewN ?_ _ | refine blk_drew ?_ | refine blk_alloc ?_ _)); exact BK153.out) hb)
          have n2_ := Aside0.mk (blk_below (g := gb154) (o := .cells #[.bool a3_0, .int .i64 a3_1, .bool a3_2, .int .i64 a3_3, .slice A3_4 l3_4.length c3_4] 27 (0, 0)) (by (with_reducible repeat (first | refine blk_drewN ?_ _ | refine blk_drew ?_ | refine blk_alloc ?_ _)); exact BK154.out) hb)
          have n3_ := Aside0.mk (below_step (by repeat (first | (with_reducible first | exact HB.out | apply below_alloc | apply pw_below_drewN | apply below_drew1 | refine below_set ?_ GE152.out | refine below_set ?_ GE153.out | refine below_set ?_ GE154.out) | exact HB.out)) hb)
          clear BK152
          clear BK153
          clear BK154
          clear HB
          have BK152 := n0_
          have BK153 := n1_
          have BK154 := n2_
          have HB := n3_
          clear n0_ n1_ n2_ n3_
          (try clear hb)
          (try clear hb2)
          (try clear hk)
          (try clear hi)
          refine hK.out _ _ ⟨(blk_cell BK152.out 0).trans rfl, (blk_cell BK152.out 1).trans rfl, (blk_cell BK152.out 2).trans rfl⟩ (fun hHeld => ?_)
          clear hK K
          refine norm_ (a' := ?_) ?_ ?_
          rotate_left
          · show Act.put _ (some 24) _ = _
            simp only [Act.put, List.setIfInBounds_toArray, List.set_cons_zero, List.set_cons_succ, i64_w, i32_w]
            rfl
          refine pure_ (i := 4) (N := some 25) (v := ?_) (a' := ?_) #[true, true, true, true, true] rfl rfl (by kernel_rfl) (fun _ _ _ h => h) (Or.inl ⟨by rfl, ?_⟩) ?_ ?_
          rotate_left
          · intro w'
            go_simp
            with_reducible rfl
          rotate_left
          · simp only [Act.put, List.setIfInBounds_toArray, List.set_cons_zero, List.set_cons_succ, i64_w, i32_w]
            rfl
          refine done_ (by kernel_rfl) ?_
          go_upto_region 6 with (fail)
          go_cut [43] (fun v43 wc => ∃ (kq : Nat) (x43_18 : Bool), v43 = .bool x43_18 ∧ Aside0 (phaetonlaw07_FilterTells.j1 kq l2 t155 x43_18 a0_0 a0_1 a0_2 a1_0 a1_1 a1_2 a3_0 a3_1 a3_2 a3_3 l3_4 = some r) ∧ Aside0 (kq ≤ kj5) ∧ Aside0 (wc.heap[gb152]? = some (.cells #[.bool a0_0, .int .i64 a0_1, .int .i64 a0_2] 23 (0, 0))) ∧ Aside0 (wc.heap[gb153]? = some (.cells #[.bool a1_0, .int .i64 a1_1, .int .i64 a1_2] 23 (0, 0))) ∧ Aside0 (wc.heap[gb154]? = some (.cells #[.bool a3_0, .int .i64 a3_1, .bool a3_2, .int .i64 a3_3, (.slice A3_4 l3_4.length c3_4)] 27 (0, 0))) ∧ Aside0 (Below w.heap.size w wc))
          case first =>
            have H := HC19.out
            clear HC19
            replace H := Option.bind_eq_some_iff.mp H
            obtain ⟨t158, A230, H⟩ := H
            replace H : (if t158 = true then ((phaetonref07_Right.f a1_0 a1_1 a1_2).bind fun t159 => (if t159 = true then ((phaetonlaw07_good.f kj5 l2).bind fun t160 => (if t160 = true then ((phaetonref04_Right.f kj5 a3_0 a3_1 a3_2 a3_3 l3_4).bind fun t161 => (phaetonlaw07_FilterTells.j1 kj5 l2 t155 (!t161) a0_0 a0_1 a0_2 a1_0 a1_1 a1_2 a3_0 a3_1 a3_2 a3_3 l3_4)) else (phaetonlaw07_FilterTells.j1 kj5 l2 t155 true a0_0 a0_1 a0_2 a1_0 a1_1 a1_2 a3_0 a3_1 a3_2 a3_3 l3_4))) else (phaetonlaw07_FilterTells.j1 kj5 l2 t155 true a0_0 a0_1 a0_2 a1_0 a1_1 a1_2 a3_0 a3_1 a3_2 a3_3 l3_4))) else (phaetonlaw07_FilterTells.j1 kj5 l2 t155 true a0_0 a0_1 a0_2 a1_0 a1_1 a1_2 a3_0 a3_1 a3_2 a3_3 l3_4)) = some r := H
            have A23 := Aside0.mk A230
            clear A230
            by_cases c24 : t158 = true
            · subst c24
              have H1 : ((phaetonref07_Right.f a1_0 a1_1 a1_2).bind fun t159 => (if t159 = true then ((phaetonlaw07_good.f kj5 l2).bind fun t160 => (if t160 = true then ((phaetonref04_Right.f kj5 a3_0 a3_1 a3_2 a3_3 l3_4).bind fun t161 => (phaetonlaw07_FilterTells.j1 kj5 l2 t155 (!t161) a0_0 a0_1 a0_2 a1_0 a1_1 a1_2 a3_0 a3_1 a3_2 a3_3 l3_4)) else (phaetonlaw07_FilterTells.j1 kj5 l2 t155 true a0_0 a0_1 a0_2 a1_0 a1_1 a1_2 a3_0 a3_1 a3_2 a3_3 l3_4))) else (phaetonlaw07_FilterTells.j1 kj5 l2 t155 true a0_0 a0_1 a0_2 a1_0 a1_1 a1_2 a3_0 a3_1 a3_2 a3_3 l3_4))) = some r := by rw [if_pos rfl] at H; exact H
              clear H
              have H := H1
              clear H1
              replace H := Option.bind_eq_some_iff.mp H
              obtain ⟨t159, A250, H⟩ := H
              replace H : (if t159 = true then ((phaetonlaw07_good.f kj5 l2).bind fun t160 => (if t160 = true then ((phaetonref04_Right.f kj5 a3_0 a3_1 a3_2 a3_3 l3_4).bind fun t161 => (phaetonlaw07_FilterTells.j1 kj5 l2 t155 (!t161) a0_0 a0_1 a0_2 a1_0 a1_1 a1_2 a3_0 a3_1 a3_2 a3_3 l3_4)) else (phaetonlaw07_FilterTells.j1 kj5 l2 t155 true a0_0 a0_1 a0_2 a1_0 a1_1 a1_2 a3_0 a3_1 a3_2 a3_3 l3_4))) else (phaetonlaw07_FilterTells.j1 kj5 l2 t155 true a0_0 a0_1 a0_2 a1_0 a1_1 a1_2 a3_0 a3_1 a3_2 a3_3 l3_4)) = some r := H
              have A25 := Aside0.mk A250
              clear A250
              by_cases c26 : t159 = true
              · subst c26
                have H1 : ((phaetonlaw07_good.f kj5 l2).bind fun t160 => (if t160 = true then ((phaetonref04_Right.f kj5 a3_0 a3_1 a3_2 a3_3 l3_4).bind fun t161 => (phaetonlaw07_FilterTells.j1 kj5 l2 t155 (!t161) a0_0 a0_1 a0_2 a1_0 a1_1 a1_2 a3_0 a3_1 a3_2 a3_3 l3_4)) else (phaetonlaw07_FilterTells.j1 kj5 l2 t155 true a0_0 a0_1 a0_2 a1_0 a1_1 a1_2 a3_0 a3_1 a3_2 a3_3 l3_4))) = some r := by rw [if_pos rfl] at H; exact H
                clear H
                have H := H1
                clear H1
                replace H := Option.bind_eq_some_iff.mp H
                obtain ⟨t160, A270, H⟩ := H
                replace H : (if t160 = true then ((phaetonref04_Right.f kj5 a3_0 a3_1 a3_2 a3_3 l3_4).bind fun t161 => (phaetonlaw07_FilterTells.j1 kj5 l2 t155 (!t161) a0_0 a0_1 a0_2 a1_0 a1_1 a1_2 a3_0 a3_1 a3_2 a3_3 l3_4)) else (phaetonlaw07_FilterTells.j1 kj5 l2 t155 true a0_0 a0_1 a0_2 a1_0 a1_1 a1_2 a3_0 a3_1 a3_2 a3_3 l3_4)) = some r := H
                have A27 := Aside0.mk A270
                clear A270
                by_cases c28 : t160 = true
                · subst c28
                  have H1 : ((phaetonref04_Right.f kj5 a3_0 a3_1 a3_2 a3_3 l3_4).bind fun t161 => (phaetonlaw07_FilterTells.j1 kj5 l2 t155 (!t161) a0_0 a0_1 a0_2 a1_0 a1_1 a1_2 a3_0 a3_1 a3_2 a3_3 l3_4)) = some r := by rw [if_pos rfl] at H; exact H
                  clear H
                  have H := H1
                  clear H1
                  replace H := Option.bind_eq_some_iff.mp H
                  obtain ⟨t161, A290, H⟩ := H
                  replace H : (phaetonlaw07_FilterTells.j1 kj5 l2 t155 (!t161) a0_0 a0_1 a0_2 a1_0 a1_1 a1_2 a3_0 a3_1 a3_2 a3_3 l3_4) = some r := H
                  have A29 := Aside0.mk A290
                  clear A290
                  have H' := Aside0.mk H
                  clear H
                  have hnb30 := NB152_153.out
                  have hnc30 := NB153_152.out
                  have hnb31 := NB152_154.out
                  have hnc31 := NB154_152.out
                  have hcz32_0 : w22.cell? ⟨gb152, 0, none⟩ = some (.bool a0_0) := (blk_cell BK152.out 0).trans rfl
                  have hcz32_1 : w22.cell? ⟨gb152, 1, none⟩ = some (.int .i64 a0_1) := (blk_cell BK152.out 1).trans rfl
                  have hcz32_2 : w22.cell? ⟨gb152, 2, none⟩ = some (.int .i64 a0_2) := (blk_cell BK152.out 2).trans rfl
                  have hfz32_0 := blk_frozen BK152.out 0
                  have hfz32_1 := blk_frozen BK152.out 1
                  have hfz32_2 := blk_frozen BK152.out 2
                  go_wp2_with (first | ((with_reducible refine gate_callee (f := 12) rfl ?_); refine goesL_ (some 27) rfl rfl Try.func12 (by kernel_rfl) rfl #[.agg #[.bool a0_0, .int .i64 a0_1, .int .i64 a0_2]] rfl (by (try simp only [List.map_toArray, List.map_cons, List.map_nil]); first | done | rfl | (simp only [List.length_drop, List.length_take]; rfl)) ?_; (with_reducible refine (phaetonref07_Right.calls a0_0 a0_1 a0_2 true _ A23.out).mono ?_); rintro e w33 ⟨rfl, hb⟩; refine ⟨_, rfl, ?_⟩; have n0_ := Aside0.mk (blk_below (g := gb152) (o := .cells #[.bool a0_0, .int .i64 a0_1, .int .i64 a0_2] 23 (0, 0)) (by (with_reducible repeat (first | refine blk_drewN ?_ _ | refine blk_drew ?_ | refine blk_alloc ?_ _)); exact BK152.out) hb); have n1_ := Aside0.mk (blk_below (g := gb153) (o := .cells #[.bool a1_0, .int .i64 a1_1, .int .i64 a1_2] 23 (0, 0)) (by (with_reducible repeat (first | refine blk_drewN ?_ _ | refine blk_drew ?_ | refine blk_alloc ?_ _)); exact BK153.out) hb); have n2_ := Aside0.mk (blk_below (g := gb154) (o := .cells #[.bool a3_0, .int .i64 a3_1, .bool a3_2, .int .i64 a3_3, .slice A3_4 l3_4.length c3_4] 27 (0, 0)) (by (with_reducible repeat (first | refine blk_drewN ?_ _ | refine blk_drew ?_ | refine blk_alloc ?_ _)); exact BK154.out) hb); have n3_ := Aside0.mk (below_step (by repeat (first | (with_reducible first | exact HB.out | apply below_alloc | apply pw_below_drewN | apply below_drew1 | refine below_set ?_ GE152.out | refine below_set ?_ GE153.out | refine below_set ?_ GE154.out) | exact HB.out)) hb); clear BK152; clear BK153; clear BK154; clear HB; have BK152 := n0_; have BK153 := n1_; have BK154 := n2_; have HB := n3_; clear n0_ n1_ n2_ n3_; (try clear hb); (try clear hb2); (try clear hk); (try clear hi); have hnb34 := NB153_154.out; have hnc34 := NB154_153.out; have hcz35_0 : w33.cell? ⟨gb153, 0, none⟩ = some (.bool a1_0) := (blk_cell BK153.out 0).trans rfl; have hcz35_1 : w33.cell? ⟨gb153, 1, none⟩ = some (.int .i64 a1_1) := (blk_cell BK153.out 1).trans rfl; have hcz35_2 : w33.cell? ⟨gb153, 2, none⟩ = some (.int .i64 a1_2) := (blk_cell BK153.out 2).trans rfl; have hfz35_0 := blk_frozen BK153.out 0; have hfz35_1 := blk_frozen BK153.out 1; have hfz35_2 := blk_frozen BK153.out 2) | (go_at_call 12; (with_reducible refine (phaetonref07_Right.calls a1_0 a1_1 a1_2 true _ A25.out).mono ?_); rintro e w36 ⟨rfl, hb⟩; have n0_ := Aside0.mk (blk_below (g := gb152) (o := .cells #[.bool a0_0, .int .i64 a0_1, .int .i64 a0_2] 23 (0, 0)) (by (with_reducible repeat (first | refine blk_drewN ?_ _ | refine blk_drew ?_ | refine blk_alloc ?_ _)); exact BK152.out) hb); have n1_ := Aside0.mk (blk_below (g := gb153) (o := .cells #[.bool a1_0, .int .i64 a1_1, .int .i64 a1_2] 23 (0, 0)) (by (with_reducible repeat (first | refine blk_drewN ?_ _ | refine blk_drew ?_ | refine blk_alloc ?_ _)); exact BK153.out) hb); have n2_ := Aside0.mk (blk_below (g := gb154) (o := .cells #[.bool a3_0, .int .i64 a3_1, .bool a3_2, .int .i64 a3_3, .slice A3_4 l3_4.length c3_4] 27 (0, 0)) (by (with_reducible repeat (first | refine blk_drewN ?_ _ | refine blk_drew ?_ | refine blk_alloc ?_ _)); exact BK154.out) hb); have n3_ := Aside0.mk (below_step (by repeat (first | (with_reducible first | exact HB.out | apply below_alloc | apply pw_below_drewN | apply below_drew1 | refine below_set ?_ GE152.out | refine below_set ?_ GE153.out | refine below_set ?_ GE154.out) | exact HB.out)) hb); clear BK152; clear BK153; clear BK154; clear HB; have BK152 := n0_; have BK153 := n1_; have BK154 := n2_; have HB := n3_; clear n0_ n1_ n2_ n3_; (try clear hb); (try clear hb2); (try clear hk); (try clear hi)) | (go_at_call 13; (with_reducible refine (phaetonlaw07_good.calls kj5 _ _ l2 true _ ?side1 ?side2 A27.out).mono ?_); (case side1 => repeat (first | exact (Kd.C_below HR2.out HB.out) | (with_reducible refine Kd.C_alloc ?_ _) | (with_reducible refine Kd.C_drewN ?_ _) | (with_reducible refine Kd.C_drew ?_))); (case side2 => exact HC2.out); rintro e w37 ⟨rfl, hb⟩; have n0_ := Aside0.mk (blk_below (g := gb152) (o := .cells #[.bool a0_0, .int .i64 a0_1, .int .i64 a0_2] 23 (0, 0)) (by (with_reducible repeat (first | refine blk_drewN ?_ _ | refine blk_drew ?_ | refine blk_alloc ?_ _)); exact BK152.out) hb); have n1_ := Aside0.mk (blk_below (g := gb153) (o := .cells #[.bool a1_0, .int .i64 a1_1, .int .i64 a1_2] 23 (0, 0)) (by (with_reducible repeat (first | refine blk_drewN ?_ _ | refine blk_drew ?_ | refine blk_alloc ?_ _)); exact BK153.out) hb); have n2_ := Aside0.mk (blk_below (g := gb154) (o := .cells #[.bool a3_0, .int .i64 a3_1, .bool a3_2, .int .i64 a3_3, .slice A3_4 l3_4.length c3_4] 27 (0, 0)) (by (with_reducible repeat (first | refine blk_drewN ?_ _ | refine blk_drew ?_ | refine blk_alloc ?_ _)); exact BK154.out) hb); have n3_ := Aside0.mk (below_step (by repeat (first | (with_reducible first | exact HB.out | apply below_alloc | apply pw_below_drewN | apply below_drew1 | refine below_set ?_ GE152.out | refine below_set ?_ GE153.out | refine below_set ?_ GE154.out) | exact HB.out)) hb); clear BK152; clear BK153; clear BK154; clear HB; have BK152 := n0_; have BK153 := n1_; have BK154 := n2_; have HB := n3_; clear n0_ n1_ n2_ n3_; (try clear hb); (try clear hb2); (try clear hk); (try clear hi); have hcz38_0 : w37.cell? ⟨gb154, 0, none⟩ = some (.bool a3_0) := (blk_cell BK154.out 0).trans rfl; have hcz38_1 : w37.cell? ⟨gb154, 1, none⟩ = some (.int .i64 a3_1) := (blk_cell BK154.out 1).trans rfl; have hcz38_2 : w37.cell? ⟨gb154, 2, none⟩ = some (.bool a3_2) := (blk_cell BK154.out 2).trans rfl; have hcz38_3 : w37.cell? ⟨gb154, 3, none⟩ = some (.int .i64 a3_3) := (blk_cell BK154.out 3).trans rfl; have hcz38_4 : w37.cell? ⟨gb154, 4, none⟩ = some (.slice A3_4 l3_4.length c3_4) := (blk_cell BK154.out 4).trans rfl; have hfz38_0 := blk_frozen BK154.out 0; have hfz38_1 := blk_frozen BK154.out 1; have hfz38_2 := blk_frozen BK154.out 2; have hfz38_3 := blk_frozen BK154.out 3; have hfz38_4 := blk_frozen BK154.out 4) | (go_at_call 14; (with_reducible refine (phaetonref04_Right.calls kj5 a3_0 a3_1 a3_2 a3_3 _ _ l3_4 t161 _ ?side1 ?side2 A29.out).mono ?_); (case side1 => repeat (first | exact (Kd.C_below HR3_4.out HB.out) | (with_reducible refine Kd.C_alloc ?_ _) | (with_reducible refine Kd.C_drewN ?_ _) | (with_reducible refine Kd.C_drew ?_))); (case side2 => exact HC3_4.out); rintro e w39 ⟨rfl, hb⟩; have n0_ := Aside0.mk (blk_below (g := gb152) (o := .cells #[.bool a0_0, .int .i64 a0_1, .int .i64 a0_2] 23 (0, 0)) (by (with_reducible repeat (first | refine blk_drewN ?_ _ | refine blk_drew ?_ | refine blk_alloc ?_ _)); exact BK152.out) hb); have n1_ := Aside0.mk (blk_below (g := gb153) (o := .cells #[.bool a1_0, .int .i64 a1_1, .int .i64 a1_2] 23 (0, 0)) (by (with_reducible repeat (first | refine blk_drewN ?_ _ | refine blk_drew ?_ | refine blk_alloc ?_ _)); exact BK153.out) hb); have n2_ := Aside0.mk (blk_below (g := gb154) (o := .cells #[.bool a3_0, .int .i64 a3_1, .bool a3_2, .int .i64 a3_3, .slice A3_4 l3_4.length c3_4] 27 (0, 0)) (by (with_reducible repeat (first | refine blk_drewN ?_ _ | refine blk_drew ?_ | refine blk_alloc ?_ _)); exact BK154.out) hb); have n3_ := Aside0.mk (below_step (by repeat (first | (with_reducible first | exact HB.out | apply below_alloc | apply pw_below_drewN | apply below_drew1 | refine below_set ?_ GE152.out | refine below_set ?_ GE153.out | refine below_set ?_ GE154.out) | exact HB.out)) hb); clear BK152; clear BK153; clear BK154; clear HB; have BK152 := n0_; have BK153 := n1_; have BK154 := n2_; have HB := n3_; clear n0_ n1_ n2_ n3_; (try clear hb); (try clear hb2); (try clear hk); (try clear hi)))
                  go_meet
                  case rel => exact ⟨_, (!t161), (by first | rfl | (simp; done) | (simp [*]; done)), H', ⟨by have := HJ5.out; first | omega | exact Nat.le_refl _⟩, ⟨by (with_reducible repeat (first | refine blk_drewN ?_ _ | refine blk_drew ?_ | refine blk_alloc ?_ _)); exact BK152.out⟩, ⟨by (with_reducible repeat (first | refine blk_drewN ?_ _ | refine blk_drew ?_ | refine blk_alloc ?_ _)); exact BK153.out⟩, ⟨by (with_reducible repeat (first | refine blk_drewN ?_ _ | refine blk_drew ?_ | refine blk_alloc ?_ _)); exact BK154.out⟩, ⟨by repeat (first | (with_reducible first | exact HB.out | apply below_alloc | apply pw_below_drewN | apply below_drew1 | refine below_set ?_ GE152.out | refine below_set ?_ GE153.out | refine below_set ?_ GE154.out) | exact HB.out)⟩⟩
                · replace c28 := Bool.eq_false_iff.mpr c28
                  subst c28
                  have H1 : (phaetonlaw07_FilterTells.j1 kj5 l2 t155 true a0_0 a0_1 a0_2 a1_0 a1_1 a1_2 a3_0 a3_1 a3_2 a3_3 l3_4) = some r := by rw [if_neg (show ¬ (false = true) by decide)] at H; exact H
                  clear H
                  have H := H1
                  clear H1
                  have H' := Aside0.mk H
                  clear H
                  have hnb40 := NB152_153.out
                  have hnc40 := NB153_152.out
                  have hnb41 := NB152_154.out
                  have hnc41 := NB154_152.out
                  have hcz42_0 : w22.cell? ⟨gb152, 0, none⟩ = some (.bool a0_0) := (blk_cell BK152.out 0).trans rfl
                  have hcz42_1 : w22.cell? ⟨gb152, 1, none⟩ = some (.int .i64 a0_1) := (blk_cell BK152.out 1).trans rfl
                  have hcz42_2 : w22.cell? ⟨gb152, 2, none⟩ = some (.int .i64 a0_2) := (blk_cell BK152.out 2).trans rfl
                  have hfz42_0 := blk_frozen BK152.out 0
                  have hfz42_1 := blk_frozen BK152.out 1
                  have hfz42_2 := blk_frozen BK152.out 2
                  go_wp2_with (first | ((with_reducible refine gate_callee (f := 12) rfl ?_); refine goesL_ (some 27) rfl rfl Try.func12 (by kernel_rfl) rfl #[.agg #[.bool a0_0, .int .i64 a0_1, .int .i64 a0_2]] rfl (by (try simp only [List.map_toArray, List.map_cons, List.map_nil]); first | done | rfl | (simp only [List.length_drop, List.length_take]; rfl)) ?_; (with_reducible refine (phaetonref07_Right.calls a0_0 a0_1 a0_2 true _ A23.out).mono ?_); rintro e w43 ⟨rfl, hb⟩; refine ⟨_, rfl, ?_⟩; have n0_ := Aside0.mk (blk_below (g := gb152) (o := .cells #[.bool a0_0, .int .i64 a0_1, .int .i64 a0_2] 23 (0, 0)) (by (with_reducible repeat (first | refine blk_drewN ?_ _ | refine blk_drew ?_ | refine blk_alloc ?_ _)); exact BK152.out) hb); have n1_ := Aside0.mk (blk_below (g := gb153) (o := .cells #[.bool a1_0, .int .i64 a1_1, .int .i64 a1_2] 23 (0, 0)) (by (with_reducible repeat (first | refine blk_drewN ?_ _ | refine blk_drew ?_ | refine blk_alloc ?_ _)); exact BK153.out) hb); have n2_ := Aside0.mk (blk_below (g := gb154) (o := .cells #[.bool a3_0, .int .i64 a3_1, .bool a3_2, .int .i64 a3_3, .slice A3_4 l3_4.length c3_4] 27 (0, 0)) (by (with_reducible repeat (first | refine blk_drewN ?_ _ | refine blk_drew ?_ | refine blk_alloc ?_ _)); exact BK154.out) hb); have n3_ := Aside0.mk (below_step (by repeat (first | (with_reducible first | exact HB.out | apply below_alloc | apply pw_below_drewN | apply below_drew1 | refine below_set ?_ GE152.out | refine below_set ?_ GE153.out | refine below_set ?_ GE154.out) | exact HB.out)) hb); clear BK152; clear BK153; clear BK154; clear HB; have BK152 := n0_; have BK153 := n1_; have BK154 := n2_; have HB := n3_; clear n0_ n1_ n2_ n3_; (try clear hb); (try clear hb2); (try clear hk); (try clear hi); have hnb44 := NB153_154.out; have hnc44 := NB154_153.out; have hcz45_0 : w43.cell? ⟨gb153, 0, none⟩ = some (.bool a1_0) := (blk_cell BK153.out 0).trans rfl; have hcz45_1 : w43.cell? ⟨gb153, 1, none⟩ = some (.int .i64 a1_1) := (blk_cell BK153.out 1).trans rfl; have hcz45_2 : w43.cell? ⟨gb153, 2, none⟩ = some (.int .i64 a1_2) := (blk_cell BK153.out 2).trans rfl; have hfz45_0 := blk_frozen BK153.out 0; have hfz45_1 := blk_frozen BK153.out 1; have hfz45_2 := blk_frozen BK153.out 2) | (go_at_call 12; (with_reducible refine (phaetonref07_Right.calls a1_0 a1_1 a1_2 true _ A25.out).mono ?_); rintro e w46 ⟨rfl, hb⟩; have n0_ := Aside0.mk (blk_below (g := gb152) (o := .cells #[.bool a0_0, .int .i64 a0_1, .int .i64 a0_2] 23 (0, 0)) (by (with_reducible repeat (first | refine blk_drewN ?_ _ | refine blk_drew ?_ | refine blk_alloc ?_ _)); exact BK152.out) hb); have n1_ := Aside0.mk (blk_below (g := gb153) (o := .cells #[.bool a1_0, .int .i64 a1_1, .int .i64 a1_2] 23 (0, 0)) (by (with_reducible repeat (first | refine blk_drewN ?_ _ | refine blk_drew ?_ | refine blk_alloc ?_ _)); exact BK153.out) hb); have n2_ := Aside0.mk (blk_below (g := gb154) (o := .cells #[.bool a3_0, .int .i64 a3_1, .bool a3_2, .int .i64 a3_3, .slice A3_4 l3_4.length c3_4] 27 (0, 0)) (by (with_reducible repeat (first | refine blk_drewN ?_ _ | refine blk_drew ?_ | refine blk_alloc ?_ _)); exact BK154.out) hb); have n3_ := Aside0.mk (below_step (by repeat (first | (with_reducible first | exact HB.out | apply below_alloc | apply pw_below_drewN | apply below_drew1 | refine below_set ?_ GE152.out | refine below_set ?_ GE153.out | refine below_set ?_ GE154.out) | exact HB.out)) hb); clear BK152; clear BK153; clear BK154; clear HB; have BK152 := n0_; have BK153 := n1_; have BK154 := n2_; have HB := n3_; clear n0_ n1_ n2_ n3_; (try clear hb); (try clear hb2); (try clear hk); (try clear hi)) | (go_at_call 13; (with_reducible refine (phaetonlaw07_good.calls kj5 _ _ l2 false _ ?side1 ?side2 A27.out).mono ?_); (case side1 => repeat (first | exact (Kd.C_below HR2.out HB.out) | (with_reducible refine Kd.C_alloc ?_ _) | (with_reducible refine Kd.C_drewN ?_ _) | (with_reducible refine Kd.C_drew ?_))); (case side2 => exact HC2.out); rintro e w47 ⟨rfl, hb⟩; have n0_ := Aside0.mk (blk_below (g := gb152) (o := .cells #[.bool a0_0, .int .i64 a0_1, .int .i64 a0_2] 23 (0, 0)) (by (with_reducible repeat (first | refine blk_drewN ?_ _ | refine blk_drew ?_ | refine blk_alloc ?_ _)); exact BK152.out) hb); have n1_ := Aside0.mk (blk_below (g := gb153) (o := .cells #[.bool a1_0, .int .i64 a1_1, .int .i64 a1_2] 23 (0, 0)) (by (with_reducible repeat (first | refine blk_drewN ?_ _ | refine blk_drew ?_ | refine blk_alloc ?_ _)); exact BK153.out) hb); have n2_ := Aside0.mk (blk_below (g := gb154) (o := .cells #[.bool a3_0, .int .i64 a3_1, .bool a3_2, .int .i64 a3_3, .slice A3_4 l3_4.length c3_4] 27 (0, 0)) (by (with_reducible repeat (first | refine blk_drewN ?_ _ | refine blk_drew ?_ | refine blk_alloc ?_ _)); exact BK154.out) hb); have n3_ := Aside0.mk (below_step (by repeat (first | (with_reducible first | exact HB.out | apply below_alloc | apply pw_below_drewN | apply below_drew1 | refine below_set ?_ GE152.out | refine below_set ?_ GE153.out | refine below_set ?_ GE154.out) | exact HB.out)) hb); clear BK152; clear BK153; clear BK154; clear HB; have BK152 := n0_; have BK153 := n1_; have BK154 := n2_; have HB := n3_; clear n0_ n1_ n2_ n3_; (try clear hb); (try clear hb2); (try clear hk); (try clear hi)))
                  go_meet
                  case rel => exact ⟨_, (true), (by first | rfl | (simp; done) | (simp [*]; done)), H', ⟨by have := HJ5.out; first | omega | exact Nat.le_refl _⟩, ⟨by (with_reducible repeat (first | refine blk_drewN ?_ _ | refine blk_drew ?_ | refine blk_alloc ?_ _)); exact BK152.out⟩, ⟨by (with_reducible repeat (first | refine blk_drewN ?_ _ | refine blk_drew ?_ | refine blk_alloc ?_ _)); exact BK153.out⟩, ⟨by (with_reducible repeat (first | refine blk_drewN ?_ _ | refine blk_drew ?_ | refine blk_alloc ?_ _)); exact BK154.out⟩, ⟨by repeat (first | (with_reducible first | exact HB.out | apply below_alloc | apply pw_below_drewN | apply below_drew1 | refine below_set ?_ GE152.out | refine below_set ?_ GE153.out | refine below_set ?_ GE154.out) | exact HB.out)⟩⟩
              · replace c26 := Bool.eq_false_iff.mpr c26
                subst c26
                have H1 : (phaetonlaw07_FilterTells.j1 kj5 l2 t155 true a0_0 a0_1 a0_2 a1_0 a1_1 a1_2 a3_0 a3_1 a3_2 a3_3 l3_4) = some r := by rw [if_neg (show ¬ (false = true) by decide)] at H; exact H
                clear H
                have H := H1
                clear H1
                have H' := Aside0.mk H
                clear H
                have hnb48 := NB152_153.out
                have hnc48 := NB153_152.out
                have hnb49 := NB152_154.out
                have hnc49 := NB154_152.out
                have hcz50_0 : w22.cell? ⟨gb152, 0, none⟩ = some (.bool a0_0) := (blk_cell BK152.out 0).trans rfl
                have hcz50_1 : w22.cell? ⟨gb152, 1, none⟩ = some (.int .i64 a0_1) := (blk_cell BK152.out 1).trans rfl
                have hcz50_2 : w22.cell? ⟨gb152, 2, none⟩ = some (.int .i64 a0_2) := (blk_cell BK152.out 2).trans rfl
                have hfz50_0 := blk_frozen BK152.out 0
                have hfz50_1 := blk_frozen BK152.out 1
                have hfz50_2 := blk_frozen BK152.out 2
                go_wp2_with (first | ((with_reducible refine gate_callee (f := 12) rfl ?_); refine goesL_ (some 27) rfl rfl Try.func12 (by kernel_rfl) rfl #[.agg #[.bool a0_0, .int .i64 a0_1, .int .i64 a0_2]] rfl (by (try simp only [List.map_toArray, List.map_cons, List.map_nil]); first | done | rfl | (simp only [List.length_drop, List.length_take]; rfl)) ?_; (with_reducible refine (phaetonref07_Right.calls a0_0 a0_1 a0_2 true _ A23.out).mono ?_); rintro e w51 ⟨rfl, hb⟩; refine ⟨_, rfl, ?_⟩; have n0_ := Aside0.mk (blk_below (g := gb152) (o := .cells #[.bool a0_0, .int .i64 a0_1, .int .i64 a0_2] 23 (0, 0)) (by (with_reducible repeat (first | refine blk_drewN ?_ _ | refine blk_drew ?_ | refine blk_alloc ?_ _)); exact BK152.out) hb); have n1_ := Aside0.mk (blk_below (g := gb153) (o := .cells #[.bool a1_0, .int .i64 a1_1, .int .i64 a1_2] 23 (0, 0)) (by (with_reducible repeat (first | refine blk_drewN ?_ _ | refine blk_drew ?_ | refine blk_alloc ?_ _)); exact BK153.out) hb); have n2_ := Aside0.mk (blk_below (g := gb154) (o := .cells #[.bool a3_0, .int .i64 a3_1, .bool a3_2, .int .i64 a3_3, .slice A3_4 l3_4.length c3_4] 27 (0, 0)) (by (with_reducible repeat (first | refine blk_drewN ?_ _ | refine blk_drew ?_ | refine blk_alloc ?_ _)); exact BK154.out) hb); have n3_ := Aside0.mk (below_step (by repeat (first | (with_reducible first | exact HB.out | apply below_alloc | apply pw_below_drewN | apply below_drew1 | refine below_set ?_ GE152.out | refine below_set ?_ GE153.out | refine below_set ?_ GE154.out) | exact HB.out)) hb); clear BK152; clear BK153; clear BK154; clear HB; have BK152 := n0_; have BK153 := n1_; have BK154 := n2_; have HB := n3_; clear n0_ n1_ n2_ n3_; (try clear hb); (try clear hb2); (try clear hk); (try clear hi); have hnb52 := NB153_154.out; have hnc52 := NB154_153.out; have hcz53_0 : w51.cell? ⟨gb153, 0, none⟩ = some (.bool a1_0) := (blk_cell BK153.out 0).trans rfl; have hcz53_1 : w51.cell? ⟨gb153, 1, none⟩ = some (.int .i64 a1_1) := (blk_cell BK153.out 1).trans rfl; have hcz53_2 : w51.cell? ⟨gb153, 2, none⟩ = some (.int .i64 a1_2) := (blk_cell BK153.out 2).trans rfl; have hfz53_0 := blk_frozen BK153.out 0; have hfz53_1 := blk_frozen BK153.out 1; have hfz53_2 := blk_frozen BK153.out 2) | (go_at_call 12; (with_reducible refine (phaetonref07_Right.calls a1_0 a1_1 a1_2 false _ A25.out).mono ?_); rintro e w54 ⟨rfl, hb⟩; have n0_ := Aside0.mk (blk_below (g := gb152) (o := .cells #[.bool a0_0, .int .i64 a0_1, .int .i64 a0_2] 23 (0, 0)) (by (with_reducible repeat (first | refine blk_drewN ?_ _ | refine blk_drew ?_ | refine blk_alloc ?_ _)); exact BK152.out) hb); have n1_ := Aside0.mk (blk_below (g := gb153) (o := .cells #[.bool a1_0, .int .i64 a1_1, .int .i64 a1_2] 23 (0, 0)) (by (with_reducible repeat (first | refine blk_drewN ?_ _ | refine blk_drew ?_ | refine blk_alloc ?_ _)); exact BK153.out) hb); have n2_ := Aside0.mk (blk_below (g := gb154) (o := .cells #[.bool a3_0, .int .i64 a3_1, .bool a3_2, .int .i64 a3_3, .slice A3_4 l3_4.length c3_4] 27 (0, 0)) (by (with_reducible repeat (first | refine blk_drewN ?_ _ | refine blk_drew ?_ | refine blk_alloc ?_ _)); exact BK154.out) hb); have n3_ := Aside0.mk (below_step (by repeat (first | (with_reducible first | exact HB.out | apply below_alloc | apply pw_below_drewN | apply below_drew1 | refine below_set ?_ GE152.out | refine below_set ?_ GE153.out | refine below_set ?_ GE154.out) | exact HB.out)) hb); clear BK152; clear BK153; clear BK154; clear HB; have BK152 := n0_; have BK153 := n1_; have BK154 := n2_; have HB := n3_; clear n0_ n1_ n2_ n3_; (try clear hb); (try clear hb2); (try clear hk); (try clear hi)))
                go_meet
                case rel => exact ⟨_, (true), (by first | rfl | (simp; done) | (simp [*]; done)), H', ⟨by have := HJ5.out; first | omega | exact Nat.le_refl _⟩, ⟨by (with_reducible repeat (first | refine blk_drewN ?_ _ | refine blk_drew ?_ | refine blk_alloc ?_ _)); exact BK152.out⟩, ⟨by (with_reducible repeat (first | refine blk_drewN ?_ _ | refine blk_drew ?_ | refine blk_alloc ?_ _)); exact BK153.out⟩, ⟨by (with_reducible repeat (first | refine blk_drewN ?_ _ | refine blk_drew ?_ | refine blk_alloc ?_ _)); exact BK154.out⟩, ⟨by repeat (first | (with_reducible first | exact HB.out | apply below_alloc | apply pw_below_drewN | apply below_drew1 | refine below_set ?_ GE152.out | refine below_set ?_ GE153.out | refine below_set ?_ GE154.out) | exact HB.out)⟩⟩
            · replace c24 := Bool.eq_false_iff.mpr c24
              subst c24
              have H1 : (phaetonlaw07_FilterTells.j1 kj5 l2 t155 true a0_0 a0_1 a0_2 a1_0 a1_1 a1_2 a3_0 a3_1 a3_2 a3_3 l3_4) = some r := by rw [if_neg (show ¬ (false = true) by decide)] at H; exact H
              clear H
              have H := H1
              clear H1
              have H' := Aside0.mk H
              clear H
              have hnb55 := NB152_153.out
              have hnc55 := NB153_152.out
              have hnb56 := NB152_154.out
              have hnc56 := NB154_152.out
              have hcz57_0 : w22.cell? ⟨gb152, 0, none⟩ = some (.bool a0_0) := (blk_cell BK152.out 0).trans rfl
              have hcz57_1 : w22.cell? ⟨gb152, 1, none⟩ = some (.int .i64 a0_1) := (blk_cell BK152.out 1).trans rfl
              have hcz57_2 : w22.cell? ⟨gb152, 2, none⟩ = some (.int .i64 a0_2) := (blk_cell BK152.out 2).trans rfl
              have hfz57_0 := blk_frozen BK152.out 0
              have hfz57_1 := blk_frozen BK152.out 1
              have hfz57_2 := blk_frozen BK152.out 2
              go_wp2_with (first | ((with_reducible refine gate_callee (f := 12) rfl ?_); refine goesL_ (some 27) rfl rfl Try.func12 (by kernel_rfl) rfl #[.agg #[.bool a0_0, .int .i64 a0_1, .int .i64 a0_2]] rfl (by (try simp only [List.map_toArray, List.map_cons, List.map_nil]); first | done | rfl | (simp only [List.length_drop, List.length_take]; rfl)) ?_; (with_reducible refine (phaetonref07_Right.calls a0_0 a0_1 a0_2 false _ A23.out).mono ?_); rintro e w58 ⟨rfl, hb⟩; refine ⟨_, rfl, ?_⟩; have n0_ := Aside0.mk (blk_below (g := gb152) (o := .cells #[.bool a0_0, .int .i64 a0_1, .int .i64 a0_2] 23 (0, 0)) (by (with_reducible repeat (first | refine blk_drewN ?_ _ | refine blk_drew ?_ | refine blk_alloc ?_ _)); exact BK152.out) hb); have n1_ := Aside0.mk (blk_below (g := gb153) (o := .cells #[.bool a1_0, .int .i64 a1_1, .int .i64 a1_2] 23 (0, 0)) (by (with_reducible repeat (first | refine blk_drewN ?_ _ | refine blk_drew ?_ | refine blk_alloc ?_ _)); exact BK153.out) hb); have n2_ := Aside0.mk (blk_below (g := gb154) (o := .cells #[.bool a3_0, .int .i64 a3_1, .bool a3_2, .int .i64 a3_3, .slice A3_4 l3_4.length c3_4] 27 (0, 0)) (by (with_reducible repeat (first | refine blk_drewN ?_ _ | refine blk_drew ?_ | refine blk_alloc ?_ _)); exact BK154.out) hb); have n3_ := Aside0.mk (below_step (by repeat (first | (with_reducible first | exact HB.out | apply below_alloc | apply pw_below_drewN | apply below_drew1 | refine below_set ?_ GE152.out | refine below_set ?_ GE153.out | refine below_set ?_ GE154.out) | exact HB.out)) hb); clear BK152; clear BK153; clear BK154; clear HB; have BK152 := n0_; have BK153 := n1_; have BK154 := n2_; have HB := n3_; clear n0_ n1_ n2_ n3_; (try clear hb); (try clear hb2); (try clear hk); (try clear hi)))
              go_meet
              case rel => exact ⟨_, (true), (by first | rfl | (simp; done) | (simp [*]; done)), H', ⟨by have := HJ5.out; first | omega | exact Nat.le_refl _⟩, ⟨by (with_reducible repeat (first | refine blk_drewN ?_ _ | refine blk_drew ?_ | refine blk_alloc ?_ _)); exact BK152.out⟩, ⟨by (with_reducible repeat (first | refine blk_drewN ?_ _ | refine blk_drew ?_ | refine blk_alloc ?_ _)); exact BK153.out⟩, ⟨by (with_reducible repeat (first | refine blk_drewN ?_ _ | refine blk_drew ?_ | refine blk_alloc ?_ _)); exact BK154.out⟩, ⟨by repeat (first | (with_reducible first | exact HB.out | apply below_alloc | apply pw_below_drewN | apply below_drew1 | refine below_set ?_ GE152.out | refine below_set ?_ GE153.out | refine below_set ?_ GE154.out) | exact HB.out)⟩⟩
          case rest =>
            clear HC19
            try clear c1
            try clear c2
            try clear p2
            try clear c3
            try clear c4
            try clear c5
            try clear c10
            try clear c11
            try clear c11b0
            try clear c11b1
            try clear c12
            try clear c13
            try clear c15
            try clear c18
            try clear c18b0
            try clear c18b1
            try clear c18b2
            try clear c24
            try clear c26
            try clear c28
            try clear c30
            try clear c31
            try clear c34
            try clear c40
            try clear c41
            try clear c44
            try clear c48
            try clear c49
            try clear c52
            try clear c55
            try clear c56
            try clear hcz14_0
            try clear hcz14_1
            try clear hcz14_2
            try clear hcz14_3
            try clear hcz14_4
            try clear hcz32_0
            try clear hcz32_1
            try clear hcz32_2
            try clear hcz35_0
            try clear hcz35_1
            try clear hcz35_2
            try clear hcz38_0
            try clear hcz38_1
            try clear hcz38_2
            try clear hcz38_3
            try clear hcz38_4
            try clear hcz42_0
            try clear hcz42_1
            try clear hcz42_2
            try clear hcz45_0
            try clear hcz45_1
            try clear hcz45_2
            try clear hcz50_0
            try clear hcz50_1
            try clear hcz50_2
            try clear hcz53_0
            try clear hcz53_1
            try clear hcz53_2
            try clear hcz57_0
            try clear hcz57_1
            try clear hcz57_2
            try clear hfz14_0
            try clear hfz14_1
            try clear hfz14_2
            try clear hfz14_3
            try clear hfz14_4
            try clear hfz32_0
            try clear hfz32_1
            try clear hfz32_2
            try clear hfz35_0
            try clear hfz35_1
            try clear hfz35_2
            try clear hfz38_0
            try clear hfz38_1
            try clear hfz38_2
            try clear hfz38_3
            try clear hfz38_4
            try clear hfz42_0
            try clear hfz42_1
            try clear hfz42_2
            try clear hfz45_0
            try clear hfz45_1
            try clear hfz45_2
            try clear hfz50_0
            try clear hfz50_1
            try clear hfz50_2
            try clear hfz53_0
            try clear hfz53_1
            try clear hfz53_2
            try clear hfz57_0
            try clear hfz57_1
            try clear hfz57_2
            try clear p2
            obtain ⟨kq, x43_18, rfl, HA, HJ18, BK152, BK153, BK154, HB⟩ := hcut
            cases kq with
            | zero => exact absurd HA.out (by simp [phaetonlaw07_FilterTells.j1])
            | succ kj18 =>
              have H := HA.out
              clear HA
              simp only [phaetonlaw07_FilterTells.j1] at H
              by_cases c59 : x43_18 = true
              · subst c59
                have H1 : (some t155) = some r := by rw [if_pos rfl] at H; exact H
                clear H
                have H := H1
                clear H1
                obtain rfl := Option.some.inj H
                go_wp2
                go_ret
                exact ⟨by first | rfl | (simp [errW_none, errW_some] <;> rfl) | (simp [*, errW_none, errW_some] <;> rfl), by repeat (first | (with_reducible first | exact HB.out | apply below_alloc | apply pw_below_drewN | apply below_drew1 | refine below_set ?_ GE152.out | refine below_set ?_ GE153.out | refine below_set ?_ GE154.out) | exact HB.out)⟩
              · replace c59 := Bool.eq_false_iff.mpr c59
                subst c59
                have H1 : (if t155 = true then ((filter_Takes.f a0_0 a0_1 a0_2 a3_0 a3_1 a3_2 a3_3 l3_4).bind fun t162 => ((phaetonref07_Takes.f a0_0 a0_1 a0_2 a3_0 a3_1 a3_2 a3_3 l3_4).bind fun t163 => (if (t162 == t163) = true then ((filter_Any.f l2 a3_0 a3_1 a3_2 a3_3 l3_4).bind fun t164 => ((phaetonref07_Any.f kj18 l2 a3_0 a3_1 a3_2 a3_3 l3_4).bind fun t165 => (if (t164 == t165) = true then ((filter_Covers.f a0_0 a0_1 a0_2 a1_0 a1_1 a1_2).bind fun t166 => ((phaetonref07_Covers.f a0_0 a0_1 a0_2 a1_0 a1_1 a1_2).bind fun t167 => (if (t166 == t167) = true then ((filter_Meets.f a0_0 a0_1 a0_2 a1_0 a1_1 a1_2).bind fun t168 => ((phaetonref07_Meets.f a0_0 a0_1 a0_2 a1_0 a1_1 a1_2).bind fun t169 => (some (t168 == t169)))) else (none)))) else (none)))) else (none)))) else (none)) = some r := by rw [if_neg (show ¬ (false = true) by decide)] at H; exact H
                clear H
                have H := H1
                clear H1
                by_cases c60 : t155 = true
                · subst c60
                  have H1 : ((filter_Takes.f a0_0 a0_1 a0_2 a3_0 a3_1 a3_2 a3_3 l3_4).bind fun t162 => ((phaetonref07_Takes.f a0_0 a0_1 a0_2 a3_0 a3_1 a3_2 a3_3 l3_4).bind fun t163 => (if (t162 == t163) = true then ((filter_Any.f l2 a3_0 a3_1 a3_2 a3_3 l3_4).bind fun t164 => ((phaetonref07_Any.f kj18 l2 a3_0 a3_1 a3_2 a3_3 l3_4).bind fun t165 => (if (t164 == t165) = true then ((filter_Covers.f a0_0 a0_1 a0_2 a1_0 a1_1 a1_2).bind fun t166 => ((phaetonref07_Covers.f a0_0 a0_1 a0_2 a1_0 a1_1 a1_2).bind fun t167 => (if (t166 == t167) = true then ((filter_Meets.f a0_0 a0_1 a0_2 a1_0 a1_1 a1_2).bind fun t168 => ((phaetonref07_Meets.f a0_0 a0_1 a0_2 a1_0 a1_1 a1_2).bind fun t169 => (some (t168 == t169)))) else (none)))) else (none)))) else (none)))) = some r := by rw [if_pos rfl] at H; exact H
                  clear H
                  have H := H1
                  clear H1
                  replace H := Option.bind_eq_some_iff.mp H
                  obtain ⟨t162, A610, H⟩ := H
                  replace H : ((phaetonref07_Takes.f a0_0 a0_1 a0_2 a3_0 a3_1 a3_2 a3_3 l3_4).bind fun t163 => (if (t162 == t163) = true then ((filter_Any.f l2 a3_0 a3_1 a3_2 a3_3 l3_4).bind fun t164 => ((phaetonref07_Any.f kj18 l2 a3_0 a3_1 a3_2 a3_3 l3_4).bind fun t165 => (if (t164 == t165) = true then ((filter_Covers.f a0_0 a0_1 a0_2 a1_0 a1_1 a1_2).bind fun t166 => ((phaetonref07_Covers.f a0_0 a0_1 a0_2 a1_0 a1_1 a1_2).bind fun t167 => (if (t166 == t167) = true then ((filter_Meets.f a0_0 a0_1 a0_2 a1_0 a1_1 a1_2).bind fun t168 => ((phaetonref07_Meets.f a0_0 a0_1 a0_2 a1_0 a1_1 a1_2).bind fun t169 => (some (t168 == t169)))) else (none)))) else (none)))) else (none))) = some r := H
                  have A61 := Aside0.mk A610
                  clear A610
                  replace H := Option.bind_eq_some_iff.mp H
                  obtain ⟨t163, A620, H⟩ := H
                  replace H : (if (t162 == t163) = true then ((filter_Any.f l2 a3_0 a3_1 a3_2 a3_3 l3_4).bind fun t164 => ((phaetonref07_Any.f kj18 l2 a3_0 a3_1 a3_2 a3_3 l3_4).bind fun t165 => (if (t164 == t165) = true then ((filter_Covers.f a0_0 a0_1 a0_2 a1_0 a1_1 a1_2).bind fun t166 => ((phaetonref07_Covers.f a0_0 a0_1 a0_2 a1_0 a1_1 a1_2).bind fun t167 => (if (t166 == t167) = true then ((filter_Meets.f a0_0 a0_1 a0_2 a1_0 a1_1 a1_2).bind fun t168 => ((phaetonref07_Meets.f a0_0 a0_1 a0_2 a1_0 a1_1 a1_2).bind fun t169 => (some (t168 == t169)))) else (none)))) else (none)))) else (none)) = some r := H
                  have A62 := Aside0.mk A620
                  clear A620
                  by_cases c63 : (t162 == t163) = true
                  · rw [if_pos c63] at H
                    have c63b0 : (t162 == t163) = true := c63
                    (try (have c63b1 : decide (t162 = t163) = true := by simpa using c63))
                    (try (have c63b2 : (t162 == t163) = true := by simpa using c63))
                    clear c63
                    replace H := Option.bind_eq_some_iff.mp H
                    obtain ⟨t164, A640, H⟩ := H
                    replace H : ((phaetonref07_Any.f kj18 l2 a3_0 a3_1 a3_2 a3_3 l3_4).bind fun t165 => (if (t164 == t165) = true then ((filter_Covers.f a0_0 a0_1 a0_2 a1_0 a1_1 a1_2).bind fun t166 => ((phaetonref07_Covers.f a0_0 a0_1 a0_2 a1_0 a1_1 a1_2).bind fun t167 => (if (t166 == t167) = true then ((filter_Meets.f a0_0 a0_1 a0_2 a1_0 a1_1 a1_2).bind fun t168 => ((phaetonref07_Meets.f a0_0 a0_1 a0_2 a1_0 a1_1 a1_2).bind fun t169 => (some (t168 == t169)))) else (none)))) else (none))) = some r := H
                    have A64 := Aside0.mk A640
                    clear A640
                    replace H := Option.bind_eq_some_iff.mp H
                    obtain ⟨t165, A650, H⟩ := H
                    replace H : (if (t164 == t165) = true then ((filter_Covers.f a0_0 a0_1 a0_2 a1_0 a1_1 a1_2).bind fun t166 => ((phaetonref07_Covers.f a0_0 a0_1 a0_2 a1_0 a1_1 a1_2).bind fun t167 => (if (t166 == t167) = true then ((filter_Meets.f a0_0 a0_1 a0_2 a1_0 a1_1 a1_2).bind fun t168 => ((phaetonref07_Meets.f a0_0 a0_1 a0_2 a1_0 a1_1 a1_2).bind fun t169 => (some (t168 == t169)))) else (none)))) else (none)) = some r := H
                    have A65 := Aside0.mk A650
                    clear A650
                    by_cases c66 : (t164 == t165) = true
                    · rw [if_pos c66] at H
                      have c66b0 : (t164 == t165) = true := c66
                      (try (have c66b1 : decide (t164 = t165) = true := by simpa using c66))
                      (try (have c66b2 : (t164 == t165) = true := by simpa using c66))
                      clear c66
                      replace H := Option.bind_eq_some_iff.mp H
                      obtain ⟨t166, A670, H⟩ := H
                      replace H : ((phaetonref07_Covers.f a0_0 a0_1 a0_2 a1_0 a1_1 a1_2).bind fun t167 => (if (t166 == t167) = true then ((filter_Meets.f a0_0 a0_1 a0_2 a1_0 a1_1 a1_2).bind fun t168 => ((phaetonref07_Meets.f a0_0 a0_1 a0_2 a1_0 a1_1 a1_2).bind fun t169 => (some (t168 == t169)))) else (none))) = some r := H
                      have A67 := Aside0.mk A670
                      clear A670
                      replace H := Option.bind_eq_some_iff.mp H
                      obtain ⟨t167, A680, H⟩ := H
                      replace H : (if (t166 == t167) = true then ((filter_Meets.f a0_0 a0_1 a0_2 a1_0 a1_1 a1_2).bind fun t168 => ((phaetonref07_Meets.f a0_0 a0_1 a0_2 a1_0 a1_1 a1_2).bind fun t169 => (some (t168 == t169)))) else (none)) = some r := H
                      have A68 := Aside0.mk A680
                      clear A680
                      by_cases c69 : (t166 == t167) = true
                      · rw [if_pos c69] at H
                        have c69b0 : (t166 == t167) = true := c69
                        (try (have c69b1 : decide (t166 = t167) = true := by simpa using c69))
                        (try (have c69b2 : (t166 == t167) = true := by simpa using c69))
                        clear c69
                        replace H := Option.bind_eq_some_iff.mp H
                        obtain ⟨t168, A700, H⟩ := H
                        replace H : ((phaetonref07_Meets.f a0_0 a0_1 a0_2 a1_0 a1_1 a1_2).bind fun t169 => (some (t168 == t169))) = some r := H
                        have A70 := Aside0.mk A700
                        clear A700
                        replace H := Option.bind_eq_some_iff.mp H
                        obtain ⟨t169, A710, H⟩ := H
                        replace H : (some (t168 == t169)) = some r := H
                        have A71 := Aside0.mk A710
                        clear A710
                        obtain rfl := Option.some.inj H
                        try go_wp2
                        have n0_ := Aside0.mk (blk_drew BK152.out)
                        have n1_ := Aside0.mk (blk_drew BK153.out)
                        have n2_ := Aside0.mk (blk_drew BK154.out)
                        have n3_ := Aside0.mk (below_drew1 HB.out)
                        clear BK152
                        clear BK153
                        clear BK154
                        clear HB
                        have BK152 := n0_
                        have BK153 := n1_
                        have BK154 := n2_
                        have HB := n3_
                        clear n0_ n1_ n2_ n3_
                        refine start_ (n := 38) (S := fun w' => w'.cell? ⟨gb152, 0, none⟩ = some (.bool a0_0) ∧ w'.cell? ⟨gb152, 1, none⟩ = some (.int .i64 a0_1) ∧ w'.cell? ⟨gb152, 2, none⟩ = some (.int .i64 a0_2) ∧ w'.cell? ⟨gb154, 0, none⟩ = some (.bool a3_0) ∧ w'.cell? ⟨gb154, 1, none⟩ = some (.int .i64 a3_1) ∧ w'.cell? ⟨gb154, 2, none⟩ = some (.bool a3_2) ∧ w'.cell? ⟨gb154, 3, none⟩ = some (.int .i64 a3_3) ∧ w'.cell? ⟨gb154, 4, none⟩ = some (.slice A3_4 l3_4.length c3_4) ∧ w'.cell? ⟨gb153, 0, none⟩ = some (.bool a1_0) ∧ w'.cell? ⟨gb153, 1, none⟩ = some (.int .i64 a1_1) ∧ w'.cell? ⟨gb153, 2, none⟩ = some (.int .i64 a1_2)) (ds := []) #[false, false, false, false, false, false, false, false, false, false, false, false, false, false, false, false, false, false, false, false, false, false, false, false, false, false, false, false, false, false, false, false, false, false, false, false, false, false] (by kernel_rfl) rfl rfl ⟨(blk_cell BK152.out 0).trans rfl, (blk_cell BK152.out 1).trans rfl, (blk_cell BK152.out 2).trans rfl, (blk_cell BK154.out 0).trans rfl, (blk_cell BK154.out 1).trans rfl, (blk_cell BK154.out 2).trans rfl, (blk_cell BK154.out 3).trans rfl, (blk_cell BK154.out 4).trans rfl, (blk_cell BK153.out 0).trans rfl, (blk_cell BK153.out 1).trans rfl, (blk_cell BK153.out 2).trans rfl⟩ (fun hHeld => ?_); refine with_tabW phaetonlaw07_FilterTells.tab8 phaetonlaw07_FilterTells.bits8 (fun HT_ HW_ => ?_)
                        generalize wc.drew = w72 at BK152 BK153 BK154 HB hHeld ⊢
                        refine pure_ (i := 0) (N := some 45) (v := ?_) (a' := ?_) #[true, false, false, false, false, false, false, false, false, false, false, false, false, false, false, false, false, false, false, false, false, false, false, false, false, false, false, false, false, false, false, false, false, false, false, false, false, false] rfl rfl (any_of HT_.out (by kernel_rfl)) (fun _ _ _ h => h) (Or.inl ⟨by rfl, ?_⟩) ?_ ?_
                        rotate_left
                        · intro w'
                          go_simp
                          with_reducible rfl
                        rotate_left
                        · simp only [Act.put, List.setIfInBounds_toArray, List.set_cons_zero, List.set_cons_succ, i64_w, i32_w]
                          rfl
                        refine pure_ (i := 1) (N := some 46) (v := ?_) (a' := ?_) #[true, true, false, false, false, false, false, false, false, false, false, false, false, false, false, false, false, false, false, false, false, false, false, false, false, false, false, false, false, false, false, false, false, false, false, false, false, false] rfl rfl (any_of HT_.out (by kernel_rfl)) (fun _ _ _ h => h) (Or.inl ⟨by rfl, ?_⟩) ?_ ?_
                        rotate_left
                        · intro w'
                          go_simp
                          with_reducible rfl
                        rotate_left
                        · simp only [Act.put, List.setIfInBounds_toArray, List.set_cons_zero, List.set_cons_succ, i64_w, i32_w]
                          rfl
                        refine take_ (i := 2) (N := some 47) (v := ?_) (a' := ?_) #[true, true, true, false, false, false, false, false, false, false, false, false, false, false, false, false, false, false, false, false, false, false, false, false, false, false, false, false, false, false, false, false, false, false, false, false, false, false] rfl rfl (take_ofW HT_.out HW_.out (by kernel_rfl)) (fun _ _ _ h => h) (Or.inl ⟨by rfl, ?_⟩) hHeld ?_ ?_
                        rotate_left
                        · rintro w' ⟨s0, s1, s2, s3, s4, s5, s6, s7, s8, s9, s10⟩
                          go_simp
                          with_reducible rfl
                        rotate_left
                        · simp only [Act.put, List.setIfInBounds_toArray, List.set_cons_zero, List.set_cons_succ, i64_w, i32_w]
                          rfl
                        refine take_ (i := 3) (N := some 48) (v := ?_) (a' := ?_) #[true, true, true, true, false, false, false, false, false, false, false, false, false, false, false, false, false, false, false, false, false, false, false, false, false, false, false, false, false, false, false, false, false, false, false, false, false, false] rfl rfl (take_ofW HT_.out HW_.out (by kernel_rfl)) (fun _ _ _ h => h) (Or.inl ⟨by rfl, ?_⟩) hHeld ?_ ?_
                        rotate_left
                        · rintro w' ⟨s0, s1, s2, s3, s4, s5, s6, s7, s8, s9, s10⟩
                          go_simp
                          with_reducible rfl
                        rotate_left
                        · simp only [Act.put, List.setIfInBounds_toArray, List.set_cons_zero, List.set_cons_succ, i64_w, i32_w]
                          rfl
                        refine take_ (i := 5) (N := some 50) (v := ?_) (a' := ?_) #[true, true, true, true, false, true, false, false, false, false, false, false, false, false, false, false, false, false, false, false, false, false, false, false, false, false, false, false, false, false, false, false, false, false, false, false, false, false] rfl rfl (take_ofW HT_.out HW_.out (by kernel_rfl)) (fun _ _ _ h => h) (Or.inl ⟨by rfl, ?_⟩) hHeld ?_ ?_
                        rotate_left
                        · rintro w' ⟨s0, s1, s2, s3, s4, s5, s6, s7, s8, s9, s10⟩
                          go_simp
                          with_reducible rfl
                        rotate_left
                        · simp only [Act.put, List.setIfInBounds_toArray, List.set_cons_zero, List.set_cons_succ, i64_w, i32_w]
                          rfl
                        refine take_ (i := 6) (N := some 51) (v := ?_) (a' := ?_) #[true, true, true, true, false, true, true, false, false, false, false, false, false, false, false, false, false, false, false, false, false, false, false, false, false, false, false, false, false, false, false, false, false, false, false, false, false, false] rfl rfl (take_ofW HT_.out HW_.out (by kernel_rfl)) (fun _ _ _ h => h) (Or.inl ⟨by rfl, ?_⟩) hHeld ?_ ?_
                        rotate_left
                        · rintro w' ⟨s0, s1, s2, s3, s4, s5, s6, s7, s8, s9, s10⟩
                          go_simp
                          with_reducible rfl
                        rotate_left
                        · simp only [Act.put, List.setIfInBounds_toArray, List.set_cons_zero, List.set_cons_succ, i64_w, i32_w]
                          rfl
                        refine one_ (i := 4) (N := some 49) #[true, true, true, true, true, true, true, false, false, false, false, false, false, false, false, false, false, false, false, false, false, false, false, false, false, false, false, false, false, false, false, false, false, false, false, false, false, false] rfl rfl (one_of HT_.out (by kernel_rfl)) (by decide) (fun K hK => ?_)
                        refine goes_ Try.func15 (by kernel_rfl) rfl #[.agg #[.bool a0_0, .int .i64 a0_1, .int .i64 a0_2], .agg #[.bool a3_0, .int .i64 a3_1, .bool a3_2, .int .i64 a3_3, .slice A3_4 l3_4.length c3_4]] (by rfl) rfl rfl (by (try simp only [List.map_toArray, List.map_cons, List.map_nil]); first | done | rfl | (simp only [List.length_drop, List.length_take]; rfl)) ?_
                        with_reducible refine (filter_Takes.calls a0_0 a0_1 a0_2 a3_0 a3_1 a3_2 a3_3 _ _ l3_4 t162 _ ?side1 ?side2 A61.out).mono ?_
                        (case side1 => repeat (first | exact (Kd.C_below HR3_4.out HB.out) | (with_reducible refine Kd.C_alloc ?_ _) | (with_reducible refine Kd.C_drewN ?_ _) | (with_reducible refine Kd.C_drew ?_)))
                        (case side2 => exact HC3_4.out)
                        rintro e w73 ⟨rfl, hb⟩
                        refine ⟨_, rfl, ?_⟩
                        have n0_ := Aside0.mk (blk_below (g := gb152) (o := .cells #[.bool a0_0, .int .i64 a0_1, .int .i64 a0_2] 23 (0, 0)) (by (with_reducible repeat (first | refine blk_drewN ?_ _ | refine blk_drew ?_ | refine blk_alloc ?_ _)); exact BK152.out) hb)
                        have n1_ := Aside0.mk (blk_below (g := gb153) (o := .cells #[.bool a1_0, .int .i64 a1_1, .int .i64 a1_2] 23 (0, 0)) (by (with_reducible repeat (first | refine blk_drewN ?_ _ | refine blk_drew ?_ | refine blk_alloc ?_ _)); exact BK153.out) hb)
                        have n2_ := Aside0.mk (blk_below (g := gb154) (o := .cells #[.bool a3_0, .int .i64 a3_1, .bool a3_2, .int .i64 a3_3, .slice A3_4 l3_4.length c3_4] 27 (0, 0)) (by (with_reducible repeat (first | refine blk_drewN ?_ _ | refine blk_drew ?_ | refine blk_alloc ?_ _)); exact BK154.out) hb)
                        have n3_ := Aside0.mk (below_step (by repeat (first | (with_reducible first | exact HB.out | apply below_alloc | apply pw_below_drewN | apply below_drew1 | refine below_set ?_ GE152.out | refine below_set ?_ GE153.out | refine below_set ?_ GE154.out) | exact HB.out)) hb)
                        clear BK152
                        clear BK153
                        clear BK154
                        clear HB
                        have BK152 := n0_
                        have BK153 := n1_
                        have BK154 := n2_
                        have HB := n3_
                        clear n0_ n1_ n2_ n3_
                        (try clear hb)
                        (try clear hb2)
                        (try clear hk)
                        (try clear hi)
                        refine hK.out _ _ ⟨(blk_cell BK152.out 0).trans rfl, (blk_cell BK152.out 1).trans rfl, (blk_cell BK152.out 2).trans rfl, (blk_cell BK154.out 0).trans rfl, (blk_cell BK154.out 1).trans rfl, (blk_cell BK154.out 2).trans rfl, (blk_cell BK154.out 3).trans rfl, (blk_cell BK154.out 4).trans rfl, (blk_cell BK153.out 0).trans rfl, (blk_cell BK153.out 1).trans rfl, (blk_cell BK153.out 2).trans rfl⟩ (fun hHeld => ?_)
                        clear hK K
                        refine norm_ (a' := ?_) ?_ ?_
                        rotate_left
                        · show Act.put _ (some 49) _ = _
                          simp only [Act.put, List.setIfInBounds_toArray, List.set_cons_zero, List.set_cons_succ, i64_w, i32_w]
                          rfl
                        refine one_ (i := 7) (N := some 52) #[true, true, true, true, true, true, true, true, false, false, false, false, false, false, false, false, false, false, false, false, false, false, false, false, false, false, false, false, false, false, false, false, false, false, false, false, false, false] rfl rfl (one_of HT_.out (by kernel_rfl)) (by decide) (fun K hK => ?_)
                        refine goes_ Try.func16 (by kernel_rfl) rfl #[.agg #[.bool a0_0, .int .i64 a0_1, .int .i64 a0_2], .agg #[.bool a3_0, .int .i64 a3_1, .bool a3_2, .int .i64 a3_3, .slice A3_4 l3_4.length c3_4]] (by rfl) rfl rfl (by (try simp only [List.map_toArray, List.map_cons, List.map_nil]); first | done | rfl | (simp only [List.length_drop, List.length_take]; rfl)) ?_
                        with_reducible refine (phaetonref07_Takes.calls a0_0 a0_1 a0_2 a3_0 a3_1 a3_2 a3_3 _ _ l3_4 t163 _ ?side1 ?side2 A62.out).mono ?_
                        (case side1 => repeat (first | exact (Kd.C_below HR3_4.out HB.out) | (with_reducible refine Kd.C_alloc ?_ _) | (with_reducible refine Kd.C_drewN ?_ _) | (with_reducible refine Kd.C_drew ?_)))
                        (case side2 => exact HC3_4.out)
                        rintro e w74 ⟨rfl, hb⟩
                        refine ⟨_, rfl, ?_⟩
                        have n0_ := Aside0.mk (blk_below (g := gb152) (o := .cells #[.bool a0_0, .int .i64 a0_1, .int .i64 a0_2] 23 (0, 0)) (by (with_reducible repeat (first | refine blk_drewN ?_ _ | refine blk_drew ?_ | refine blk_alloc ?_ _)); exact BK152.out) hb)
                        have n1_ := Aside0.mk (blk_below (g := gb153) (o := .cells #[.bool a1_0, .int .i64 a1_1, .int .i64 a1_2] 23 (0, 0)) (by (with_reducible repeat (first | refine blk_drewN ?_ _ | refine blk_drew ?_ | refine blk_alloc ?_ _)); exact BK153.out) hb)
                        have n2_ := Aside0.mk (blk_below (g := gb154) (o := .cells #[.bool a3_0, .int .i64 a3_1, .bool a3_2, .int .i64 a3_3, .slice A3_4 l3_4.length c3_4] 27 (0, 0)) (by (with_reducible repeat (first | refine blk_drewN ?_ _ | refine blk_drew ?_ | refine blk_alloc ?_ _)); exact BK154.out) hb)
                        have n3_ := Aside0.mk (below_step (by repeat (first | (with_reducible first | exact HB.out | apply below_alloc | apply pw_below_drewN | apply below_drew1 | refine below_set ?_ GE152.out | refine below_set ?_ GE153.out | refine below_set ?_ GE154.out) | exact HB.out)) hb)
                        clear BK152
                        clear BK153
                        clear BK154
                        clear HB
                        have BK152 := n0_
                        have BK153 := n1_
                        have BK154 := n2_
                        have HB := n3_
                        clear n0_ n1_ n2_ n3_
                        (try clear hb)
                        (try clear hb2)
                        (try clear hk)
                        (try clear hi)
                        refine hK.out _ _ ⟨(blk_cell BK152.out 0).trans rfl, (blk_cell BK152.out 1).trans rfl, (blk_cell BK152.out 2).trans rfl, (blk_cell BK154.out 0).trans rfl, (blk_cell BK154.out 1).trans rfl, (blk_cell BK154.out 2).trans rfl, (blk_cell BK154.out 3).trans rfl, (blk_cell BK154.out 4).trans rfl, (blk_cell BK153.out 0).trans rfl, (blk_cell BK153.out 1).trans rfl, (blk_cell BK153.out 2).trans rfl⟩ (fun hHeld => ?_)
                        clear hK K
                        refine norm_ (a' := ?_) ?_ ?_
                        rotate_left
                        · show Act.put _ (some 52) _ = _
                          simp only [Act.put, List.setIfInBounds_toArray, List.set_cons_zero, List.set_cons_succ, i64_w, i32_w]
                          rfl
                        refine pure_ (i := 8) (N := some 53) (v := ?_) (a' := ?_) #[true, true, true, true, true, true, true, true, true, false, false, false, false, false, false, false, false, false, false, false, false, false, false, false, false, false, false, false, false, false, false, false, false, false, false, false, false, false] rfl rfl (any_of HT_.out (by kernel_rfl)) (fun _ _ _ h => h) (Or.inl ⟨by rfl, ?_⟩) ?_ ?_
                        rotate_left
                        · intro w'
                          go_simp
                          with_reducible rfl
                        rotate_left
                        · simp only [Act.put, List.setIfInBounds_toArray, List.set_cons_zero, List.set_cons_succ, i64_w, i32_w]
                          rfl
                        refine pure_ (i := 9) (N := some 54) (v := ?_) (a' := ?_) #[true, true, true, true, true, true, true, true, true, true, false, false, false, false, false, false, false, false, false, false, false, false, false, false, false, false, false, false, false, false, false, false, false, false, false, false, false, false] rfl rfl (any_of HT_.out (by kernel_rfl)) (fun _ _ _ h => h) (Or.inl ⟨by rfl, ?_⟩) ?_ ?_
                        rotate_left
                        · intro w'
                          go_simp
                          with_reducible rfl
                        rotate_left
                        · simp only [Act.put, List.setIfInBounds_toArray, List.set_cons_zero, List.set_cons_succ, i64_w, i32_w]
                          rfl
                        refine pure_ (i := 10) (N := some 55) (v := ?_) (a' := ?_) #[true, true, true, true, true, true, true, true, true, true, true, false, false, false, false, false, false, false, false, false, false, false, false, false, false, false, false, false, false, false, false, false, false, false, false, false, false, false] rfl rfl (any_of HT_.out (by kernel_rfl)) (fun _ _ _ h => h) (Or.inl ⟨by rfl, ?_⟩) ?_ ?_
                        rotate_left
                        · intro w'
                          go_simp
                          with_reducible rfl
                        rotate_left
                        · simp only [Act.put, List.setIfInBounds_toArray, List.set_cons_zero, List.set_cons_succ, i64_w, i32_w]
                          rfl
                        refine pure_ (i := 11) (N := some 56) (v := ?_) (a' := ?_) #[true, true, true, true, true, true, true, true, true, true, true, true, false, false, false, false, false, false, false, false, false, false, false, false, false, false, false, false, false, false, false, false, false, false, false, false, false, false] rfl rfl (any_of HT_.out (by kernel_rfl)) (fun _ _ _ h => h) (Or.inl ⟨by rfl, ?_⟩) ?_ ?_
                        rotate_left
                        · intro w'
                          go_simp
                          with_reducible rfl
                        rotate_left
                        · simp only [Act.put, List.setIfInBounds_toArray, List.set_cons_zero, List.set_cons_succ, i64_w, i32_w]
                          rfl
                        refine pure_ (i := 14) (N := some 59) (v := ?_) (a' := ?_) #[true, true, true, true, true, true, true, true, true, true, true, true, false, false, true, false, false, false, false, false, false, false, false, false, false, false, false, false, false, false, false, false, false, false, false, false, false, false] rfl rfl (any_of HT_.out (by kernel_rfl)) (fun _ _ _ h => h) (Or.inl ⟨by rfl, ?_⟩) ?_ ?_
                        rotate_left
                        · intro w'
                          go_simp
                          with_reducible rfl
                        rotate_left
                        · simp only [Act.put, List.setIfInBounds_toArray, List.set_cons_zero, List.set_cons_succ, i64_w, i32_w]
                          rfl
                        refine take_ (i := 12) (N := some 57) (v := ?_) (a' := ?_) #[true, true, true, true, true, true, true, true, true, true, true, true, true, false, true, false, false, false, false, false, false, false, false, false, false, false, false, false, false, false, false, false, false, false, false, false, false, false] rfl rfl (take_ofW HT_.out HW_.out (by kernel_rfl)) (fun _ _ _ h => h) (Or.inl ⟨by rfl, ?_⟩) hHeld ?_ ?_
                        rotate_left
                        · rintro w' ⟨s0, s1, s2, s3, s4, s5, s6, s7, s8, s9, s10⟩
                          go_simp
                          with_reducible rfl
                        rotate_left
                        · simp only [Act.put, List.setIfInBounds_toArray, List.set_cons_zero, List.set_cons_succ, i64_w, i32_w]
                          rfl
                        refine take_ (i := 15) (N := some 60) (v := ?_) (a' := ?_) #[true, true, true, true, true, true, true, true, true, true, true, true, true, false, true, true, false, false, false, false, false, false, false, false, false, false, false, false, false, false, false, false, false, false, false, false, false, false] rfl rfl (take_ofW HT_.out HW_.out (by kernel_rfl)) (fun _ _ _ h => h) (Or.inl ⟨by rfl, ?_⟩) hHeld ?_ ?_
                        rotate_left
                        · rintro w' ⟨s0, s1, s2, s3, s4, s5, s6, s7, s8, s9, s10⟩
                          go_simp
                          with_reducible rfl
                        rotate_left
                        · simp only [Act.put, List.setIfInBounds_toArray, List.set_cons_zero, List.set_cons_succ, i64_w, i32_w]
                          rfl
                        refine one_ (i := 13) (N := some 58) #[true, true, true, true, true, true, true, true, true, true, true, true, true, true, true, true, false, false, false, false, false, false, false, false, false, false, false, false, false, false, false, false, false, false, false, false, false, false] rfl rfl (one_of HT_.out (by kernel_rfl)) (by decide) (fun K hK => ?_)
                        refine goes_ Try.func17 (by kernel_rfl) rfl #[.slice A2 l2.length c2, .agg #[.bool a3_0, .int .i64 a3_1, .bool a3_2, .int .i64 a3_3, .slice A3_4 l3_4.length c3_4]] (by rfl) rfl rfl (by (try simp only [List.map_toArray, List.map_cons, List.map_nil]); first | done | rfl | (simp only [List.length_drop, List.length_take]; rfl)) ?_
                        with_reducible refine (filter_Any.calls _ _ l2 a3_0 a3_1 a3_2 a3_3 _ _ l3_4 t164 _ ?side1 ?side2 ?side3 ?side4 A64.out).mono ?_
                        (case side1 => repeat (first | exact (Kd.C_below HR2.out HB.out) | (with_reducible refine Kd.C_alloc ?_ _) | (with_reducible refine Kd.C_drewN ?_ _) | (with_reducible refine Kd.C_drew ?_)))
                        (case side2 => exact HC2.out)
                        (case side3 => repeat (first | exact (Kd.C_below HR3_4.out HB.out) | (with_reducible refine Kd.C_alloc ?_ _) | (with_reducible refine Kd.C_drewN ?_ _) | (with_reducible refine Kd.C_drew ?_)))
                        (case side4 => exact HC3_4.out)
                        rintro e w75 ⟨rfl, hb⟩
                        refine ⟨_, rfl, ?_⟩
                        have n0_ := Aside0.mk (blk_below (g := gb152) (o := .cells #[.bool a0_0, .int .i64 a0_1, .int .i64 a0_2] 23 (0, 0)) (by (with_reducible repeat (first | refine blk_drewN ?_ _ | refine blk_drew ?_ | refine blk_alloc ?_ _)); exact BK152.out) hb)
                        have n1_ := Aside0.mk (blk_below (g := gb153) (o := .cells #[.bool a1_0, .int .i64 a1_1, .int .i64 a1_2] 23 (0, 0)) (by (with_reducible repeat (first | refine blk_drewN ?_ _ | refine blk_drew ?_ | refine blk_alloc ?_ _)); exact BK153.out) hb)
                        have n2_ := Aside0.mk (blk_below (g := gb154) (o := .cells #[.bool a3_0, .int .i64 a3_1, .bool a3_2, .int .i64 a3_3, .slice A3_4 l3_4.length c3_4] 27 (0, 0)) (by (with_reducible repeat (first | refine blk_drewN ?_ _ | refine blk_drew ?_ | refine blk_alloc ?_ _)); exact BK154.out) hb)
                        have n3_ := Aside0.mk (below_step (by repeat (first | (with_reducible first | exact HB.out | apply below_alloc | apply pw_below_drewN | apply below_drew1 | refine below_set ?_ GE152.out | refine below_set ?_ GE153.out | refine below_set ?_ GE154.out) | exact HB.out)) hb)
                        clear BK152
                        clear BK153
                        clear BK154
                        clear HB
                        have BK152 := n0_
                        have BK153 := n1_
                        have BK154 := n2_
                        have HB := n3_
                        clear n0_ n1_ n2_ n3_
                        (try clear hb)
                        (try clear hb2)
                        (try clear hk)
                        (try clear hi)
                        refine hK.out _ _ ⟨(blk_cell BK152.out 0).trans rfl, (blk_cell BK152.out 1).trans rfl, (blk_cell BK152.out 2).trans rfl, (blk_cell BK154.out 0).trans rfl, (blk_cell BK154.out 1).trans rfl, (blk_cell BK154.out 2).trans rfl, (blk_cell BK154.out 3).trans rfl, (blk_cell BK154.out 4).trans rfl, (blk_cell BK153.out 0).trans rfl, (blk_cell BK153.out 1).trans rfl, (blk_cell BK153.out 2).trans rfl⟩ (fun hHeld => ?_)
                        clear hK K
                        refine norm_ (a' := ?_) ?_ ?_
                        rotate_left
                        · show Act.put _ (some 58) _ = _
                          simp only [Act.put, List.setIfInBounds_toArray, List.set_cons_zero, List.set_cons_succ, i64_w, i32_w]
                          rfl
                        refine one_ (i := 16) (N := some 61) #[true, true, true, true, true, true, true, true, true, true, true, true, true, true, true, true, true, false, false, false, false, false, false, false, false, false, false, false, false, false, false, false, false, false, false, false, false, false] rfl rfl (one_of HT_.out (by kernel_rfl)) (by decide) (fun K hK => ?_)
                        refine goes_ Try.func18 (by kernel_rfl) rfl #[.slice A2 l2.length c2, .agg #[.bool a3_0, .int .i64 a3_1, .bool a3_2, .int .i64 a3_3, .slice A3_4 l3_4.length c3_4]] (by rfl) rfl rfl (by (try simp only [List.map_toArray, List.map_cons, List.map_nil]); first | done | rfl | (simp only [List.length_drop, List.length_take]; rfl)) ?_
                        with_reducible refine (phaetonref07_Any.calls kj18 _ _ l2 a3_0 a3_1 a3_2 a3_3 _ _ l3_4 t165 _ ?side1 ?side2 ?side3 ?side4 A65.out).mono ?_
                        (case side1 => repeat (first | exact (Kd.C_below HR2.out HB.out) | (with_reducible refine Kd.C_alloc ?_ _) | (with_reducible refine Kd.C_drewN ?_ _) | (with_reducible refine Kd.C_drew ?_)))
                        (case side2 => exact HC2.out)
                        (case side3 => repeat (first | exact (Kd.C_below HR3_4.out HB.out) | (with_reducible refine Kd.C_alloc ?_ _) | (with_reducible refine Kd.C_drewN ?_ _) | (with_reducible refine Kd.C_drew ?_)))
                        (case side4 => exact HC3_4.out)
                        rintro e w76 ⟨rfl, hb⟩
                        refine ⟨_, rfl, ?_⟩
                        have n0_ := Aside0.mk (blk_below (g := gb152) (o := .cells #[.bool a0_0, .int .i64 a0_1, .int .i64 a0_2] 23 (0, 0)) (by (with_reducible repeat (first | refine blk_drewN ?_ _ | refine blk_drew ?_ | refine blk_alloc ?_ _)); exact BK152.out) hb)
                        have n1_ := Aside0.mk (blk_below (g := gb153) (o := .cells #[.bool a1_0, .int .i64 a1_1, .int .i64 a1_2] 23 (0, 0)) (by (with_reducible repeat (first | refine blk_drewN ?_ _ | refine blk_drew ?_ | refine blk_alloc ?_ _)); exact BK153.out) hb)
                        have n2_ := Aside0.mk (blk_below (g := gb154) (o := .cells #[.bool a3_0, .int .i64 a3_1, .bool a3_2, .int .i64 a3_3, .slice A3_4 l3_4.length c3_4] 27 (0, 0)) (by (with_reducible repeat (first | refine blk_drewN ?_ _ | refine blk_drew ?_ | refine blk_alloc ?_ _)); exact BK154.out) hb)
                        have n3_ := Aside0.mk (below_step (by repeat (first | (with_reducible first | exact HB.out | apply below_alloc | apply pw_below_drewN | apply below_drew1 | refine below_set ?_ GE152.out | refine below_set ?_ GE153.out | refine below_set ?_ GE154.out) | exact HB.out)) hb)
                        clear BK152
                        clear BK153
                        clear BK154
                        clear HB
                        have BK152 := n0_
                        have BK153 := n1_
                        have BK154 := n2_
                        have HB := n3_
                        clear n0_ n1_ n2_ n3_
                        (try clear hb)
                        (try clear hb2)
                        (try clear hk)
                        (try clear hi)
                        refine hK.out _ _ ⟨(blk_cell BK152.out 0).trans rfl, (blk_cell BK152.out 1).trans rfl, (blk_cell BK152.out 2).trans rfl, (blk_cell BK154.out 0).trans rfl, (blk_cell BK154.out 1).trans rfl, (blk_cell BK154.out 2).trans rfl, (blk_cell BK154.out 3).trans rfl, (blk_cell BK154.out 4).trans rfl, (blk_cell BK153.out 0).trans rfl, (blk_cell BK153.out 1).trans rfl, (blk_cell BK153.out 2).trans rfl⟩ (fun hHeld => ?_)
                        clear hK K
                        refine norm_ (a' := ?_) ?_ ?_
                        rotate_left
                        · show Act.put _ (some 61) _ = _
                          simp only [Act.put, List.setIfInBounds_toArray, List.set_cons_zero, List.set_cons_succ, i64_w, i32_w]
                          rfl
                        refine pure_ (i := 17) (N := some 62) (v := ?_) (a' := ?_) #[true, true, true, true, true, true, true, true, true, true, true, true, true, true, true, true, true, true, false, false, false, false, false, false, false, false, false, false, false, false, false, false, false, false, false, false, false, false] rfl rfl (any_of HT_.out (by kernel_rfl)) (fun _ _ _ h => h) (Or.inl ⟨by rfl, ?_⟩) ?_ ?_
                        rotate_left
                        · intro w'
                          go_simp
                          with_reducible rfl
                        rotate_left
                        · simp only [Act.put, List.setIfInBounds_toArray, List.set_cons_zero, List.set_cons_succ, i64_w, i32_w]
                          rfl
                        refine pure_ (i := 18) (N := some 63) (v := ?_) (a' := ?_) #[true, true, true, true, true, true, true, true, true, true, true, true, true, true, true, true, true, true, true, false, false, false, false, false, false, false, false, false, false, false, false, false, false, false, false, false, false, false] rfl rfl (any_of HT_.out (by kernel_rfl)) (fun _ _ _ h => h) (Or.inl ⟨by rfl, ?_⟩) ?_ ?_
                        rotate_left
                        · intro w'
                          go_simp
                          with_reducible rfl
                        rotate_left
                        · simp only [Act.put, List.setIfInBounds_toArray, List.set_cons_zero, List.set_cons_succ, i64_w, i32_w]
                          rfl
                        refine pure_ (i := 19) (N := some 64) (v := ?_) (a' := ?_) #[true, true, true, true, true, true, true, true, true, true, true, true, true, true, true, true, true, true, true, true, false, false, false, false, false, false, false, false, false, false, false, false, false, false, false, false, false, false] rfl rfl (any_of HT_.out (by kernel_rfl)) (fun _ _ _ h => h) (Or.inl ⟨by rfl, ?_⟩) ?_ ?_
                        rotate_left
                        · intro w'
                          go_simp
                          with_reducible rfl
                        rotate_left
                        · simp only [Act.put, List.setIfInBounds_toArray, List.set_cons_zero, List.set_cons_succ, i64_w, i32_w]
                          rfl
                        refine take_ (i := 20) (N := some 65) (v := ?_) (a' := ?_) #[true, true, true, true, true, true, true, true, true, true, true, true, true, true, true, true, true, true, true, true, true, false, false, false, false, false, false, false, false, false, false, false, false, false, false, false, false, false] rfl rfl (take_ofW HT_.out HW_.out (by kernel_rfl)) (fun _ _ _ h => h) (Or.inl ⟨by rfl, ?_⟩) hHeld ?_ ?_
                        rotate_left
                        · rintro w' ⟨s0, s1, s2, s3, s4, s5, s6, s7, s8, s9, s10⟩
                          go_simp
                          with_reducible rfl
                        rotate_left
                        · simp only [Act.put, List.setIfInBounds_toArray, List.set_cons_zero, List.set_cons_succ, i64_w, i32_w]
                          rfl
                        refine take_ (i := 21) (N := some 66) (v := ?_) (a' := ?_) #[true, true, true, true, true, true, true, true, true, true, true, true, true, true, true, true, true, true, true, true, true, true, false, false, false, false, false, false, false, false, false, false, false, false, false, false, false, false] rfl rfl (take_ofW HT_.out HW_.out (by kernel_rfl)) (fun _ _ _ h => h) (Or.inl ⟨by rfl, ?_⟩) hHeld ?_ ?_
                        rotate_left
                        · rintro w' ⟨s0, s1, s2, s3, s4, s5, s6, s7, s8, s9, s10⟩
                          go_simp
                          with_reducible rfl
                        rotate_left
                        · simp only [Act.put, List.setIfInBounds_toArray, List.set_cons_zero, List.set_cons_succ, i64_w, i32_w]
                          rfl
                        refine take_ (i := 23) (N := some 68) (v := ?_) (a' := ?_) #[true, true, true, true, true, true, true, true, true, true, true, true, true, true, true, true, true, true, true, true, true, true, false, true, false, false, false, false, false, false, false, false, false, false, false, false, false, false] rfl rfl (take_ofW HT_.out HW_.out (by kernel_rfl)) (fun _ _ _ h => h) (Or.inl ⟨by rfl, ?_⟩) hHeld ?_ ?_
                        rotate_left
                        · rintro w' ⟨s0, s1, s2, s3, s4, s5, s6, s7, s8, s9, s10⟩
                          go_simp
                          with_reducible rfl
                        rotate_left
                        · simp only [Act.put, List.setIfInBounds_toArray, List.set_cons_zero, List.set_cons_succ, i64_w, i32_w]
                          rfl
                        refine take_ (i := 24) (N := some 69) (v := ?_) (a' := ?_) #[true, true, true, true, true, true, true, true, true, true, true, true, true, true, true, true, true, true, true, true, true, true, false, true, true, false, false, false, false, false, false, false, false, false, false, false, false, false] rfl rfl (take_ofW HT_.out HW_.out (by kernel_rfl)) (fun _ _ _ h => h) (Or.inl ⟨by rfl, ?_⟩) hHeld ?_ ?_
                        rotate_left
                        · rintro w' ⟨s0, s1, s2, s3, s4, s5, s6, s7, s8, s9, s10⟩
                          go_simp
                          with_reducible rfl
                        rotate_left
                        · simp only [Act.put, List.setIfInBounds_toArray, List.set_cons_zero, List.set_cons_succ, i64_w, i32_w]
                          rfl
                        refine one_ (i := 22) (N := some 67) #[true, true, true, true, true, true, true, true, true, true, true, true, true, true, true, true, true, true, true, true, true, true, true, true, true, false, false, false, false, false, false, false, false, false, false, false, false, false] rfl rfl (one_of HT_.out (by kernel_rfl)) (by decide) (fun K hK => ?_)
                        refine goes_ Try.func19 (by kernel_rfl) rfl #[.agg #[.bool a0_0, .int .i64 a0_1, .int .i64 a0_2], .agg #[.bool a1_0, .int .i64 a1_1, .int .i64 a1_2]] (by rfl) rfl rfl (by (try simp only [List.map_toArray, List.map_cons, List.map_nil]); first | done | rfl | (simp only [List.length_drop, List.length_take]; rfl)) ?_
                        with_reducible refine (filter_Covers.calls a0_0 a0_1 a0_2 a1_0 a1_1 a1_2 t166 _ A67.out).mono ?_
                        rintro e w77 ⟨rfl, hb⟩
                        refine ⟨_, rfl, ?_⟩
                        have n0_ := Aside0.mk (blk_below (g := gb152) (o := .cells #[.bool a0_0, .int .i64 a0_1, .int .i64 a0_2] 23 (0, 0)) (by (with_reducible repeat (first | refine blk_drewN ?_ _ | refine blk_drew ?_ | refine blk_alloc ?_ _)); exact BK152.out) hb)
                        have n1_ := Aside0.mk (blk_below (g := gb153) (o := .cells #[.bool a1_0, .int .i64 a1_1, .int .i64 a1_2] 23 (0, 0)) (by (with_reducible repeat (first | refine blk_drewN ?_ _ | refine blk_drew ?_ | refine blk_alloc ?_ _)); exact BK153.out) hb)
                        have n2_ := Aside0.mk (blk_below (g := gb154) (o := .cells #[.bool a3_0, .int .i64 a3_1, .bool a3_2, .int .i64 a3_3, .slice A3_4 l3_4.length c3_4] 27 (0, 0)) (by (with_reducible repeat (first | refine blk_drewN ?_ _ | refine blk_drew ?_ | refine blk_alloc ?_ _)); exact BK154.out) hb)
                        have n3_ := Aside0.mk (below_step (by repeat (first | (with_reducible first | exact HB.out | apply below_alloc | apply pw_below_drewN | apply below_drew1 | refine below_set ?_ GE152.out | refine below_set ?_ GE153.out | refine below_set ?_ GE154.out) | exact HB.out)) hb)
                        clear BK152
                        clear BK153
                        clear BK154
                        clear HB
                        have BK152 := n0_
                        have BK153 := n1_
                        have BK154 := n2_
                        have HB := n3_
                        clear n0_ n1_ n2_ n3_
                        (try clear hb)
                        (try clear hb2)
                        (try clear hk)
                        (try clear hi)
                        refine hK.out _ _ ⟨(blk_cell BK152.out 0).trans rfl, (blk_cell BK152.out 1).trans rfl, (blk_cell BK152.out 2).trans rfl, (blk_cell BK154.out 0).trans rfl, (blk_cell BK154.out 1).trans rfl, (blk_cell BK154.out 2).trans rfl, (blk_cell BK154.out 3).trans rfl, (blk_cell BK154.out 4).trans rfl, (blk_cell BK153.out 0).trans rfl, (blk_cell BK153.out 1).trans rfl, (blk_cell BK153.out 2).trans rfl⟩ (fun hHeld => ?_)
                        clear hK K
                        refine norm_ (a' := ?_) ?_ ?_
                        rotate_left
                        · show Act.put _ (some 67) _ = _
                          simp only [Act.put, List.setIfInBounds_toArray, List.set_cons_zero, List.set_cons_succ, i64_w, i32_w]
                          rfl
                        refine one_ (i := 25) (N := some 70) #[true, true, true, true, true, true, true, true, true, true, true, true, true, true, true, true, true, true, true, true, true, true, true, true, true, true, false, false, false, false, false, false, false, false, false, false, false, false] rfl rfl (one_of HT_.out (by kernel_rfl)) (by decide) (fun K hK => ?_)
                        refine goes_ Try.func20 (by kernel_rfl) rfl #[.agg #[.bool a0_0, .int .i64 a0_1, .int .i64 a0_2], .agg #[.bool a1_0, .int .i64 a1_1, .int .i64 a1_2]] (by rfl) rfl rfl (by (try simp only [List.map_toArray, List.map_cons, List.map_nil]); first | done | rfl | (simp only [List.length_drop, List.length_take]; rfl)) ?_
                        with_reducible refine (phaetonref07_Covers.calls a0_0 a0_1 a0_2 a1_0 a1_1 a1_2 t167 _ A68.out).mono ?_
                        rintro e w78 ⟨rfl, hb⟩
                        refine ⟨_, rfl, ?_⟩
                        have n0_ := Aside0.mk (blk_below (g := gb152) (o := .cells #[.bool a0_0, .int .i64 a0_1, .int .i64 a0_2] 23 (0, 0)) (by (with_reducible repeat (first | refine blk_drewN ?_ _ | refine blk_drew ?_ | refine blk_alloc ?_ _)); exact BK152.out) hb)
                        have n1_ := Aside0.mk (blk_below (g := gb153) (o := .cells #[.bool a1_0, .int .i64 a1_1, .int .i64 a1_2] 23 (0, 0)) (by (with_reducible repeat (first | refine blk_drewN ?_ _ | refine blk_drew ?_ | refine blk_alloc ?_ _)); exact BK153.out) hb)
                        have n2_ := Aside0.mk (blk_below (g := gb154) (o := .cells #[.bool a3_0, .int .i64 a3_1, .bool a3_2, .int .i64 a3_3, .slice A3_4 l3_4.length c3_4] 27 (0, 0)) (by (with_reducible repeat (first | refine blk_drewN ?_ _ | refine blk_drew ?_ | refine blk_alloc ?_ _)); exact BK154.out) hb)
                        have n3_ := Aside0.mk (below_step (by repeat (first | (with_reducible first | exact HB.out | apply below_alloc | apply pw_below_drewN | apply below_drew1 | refine below_set ?_ GE152.out | refine below_set ?_ GE153.out | refine below_set ?_ GE154.out) | exact HB.out)) hb)
                        clear BK152
                        clear BK153
                        clear BK154
                        clear HB
                        have BK152 := n0_
                        have BK153 := n1_
                        have BK154 := n2_
                        have HB := n3_
                        clear n0_ n1_ n2_ n3_
                        (try clear hb)
                        (try clear hb2)
                        (try clear hk)
                        (try clear hi)
                        refine hK.out _ _ ⟨(blk_cell BK152.out 0).trans rfl, (blk_cell BK152.out 1).trans rfl, (blk_cell BK152.out 2).trans rfl, (blk_cell BK154.out 0).trans rfl, (blk_cell BK154.out 1).trans rfl, (blk_cell BK154.out 2).trans rfl, (blk_cell BK154.out 3).trans rfl, (blk_cell BK154.out 4).trans rfl, (blk_cell BK153.out 0).trans rfl, (blk_cell BK153.out 1).trans rfl, (blk_cell BK153.out 2).trans rfl⟩ (fun hHeld => ?_)
                        clear hK K
                        refine norm_ (a' := ?_) ?_ ?_
                        rotate_left
                        · show Act.put _ (some 70) _ = _
                          simp only [Act.put, List.setIfInBounds_toArray, List.set_cons_zero, List.set_cons_succ, i64_w, i32_w]
                          rfl
                        refine pure_ (i := 26) (N := some 71) (v := ?_) (a' := ?_) #[true, true, true, true, true, true, true, true, true, true, true, true, true, true, true, true, true, true, true, true, true, true, true, true, true, true, true, false, false, false, false, false, false, false, false, false, false, false] rfl rfl (any_of HT_.out (by kernel_rfl)) (fun _ _ _ h => h) (Or.inl ⟨by rfl, ?_⟩) ?_ ?_
                        rotate_left
                        · intro w'
                          go_simp
                          with_reducible rfl
                        rotate_left
                        · simp only [Act.put, List.setIfInBounds_toArray, List.set_cons_zero, List.set_cons_succ, i64_w, i32_w]
                          rfl
                        refine pure_ (i := 27) (N := some 72) (v := ?_) (a' := ?_) #[true, true, true, true, true, true, true, true, true, true, true, true, true, true, true, true, true, true, true, true, true, true, true, true, true, true, true, true, false, false, false, false, false, false, false, false, false, false] rfl rfl (any_of HT_.out (by kernel_rfl)) (fun _ _ _ h => h) (Or.inl ⟨by rfl, ?_⟩) ?_ ?_
                        rotate_left
                        · intro w'
                          go_simp
                          with_reducible rfl
                        rotate_left
                        · simp only [Act.put, List.setIfInBounds_toArray, List.set_cons_zero, List.set_cons_succ, i64_w, i32_w]
                          rfl
                        refine pure_ (i := 28) (N := some 73) (v := ?_) (a' := ?_) #[true, true, true, true, true, true, true, true, true, true, true, true, true, true, true, true, true, true, true, true, true, true, true, true, true, true, true, true, true, false, false, false, false, false, false, false, false, false] rfl rfl (any_of HT_.out (by kernel_rfl)) (fun _ _ _ h => h) (Or.inl ⟨by rfl, ?_⟩) ?_ ?_
                        rotate_left
                        · intro w'
                          go_simp
                          with_reducible rfl
                        rotate_left
                        · simp only [Act.put, List.setIfInBounds_toArray, List.set_cons_zero, List.set_cons_succ, i64_w, i32_w]
                          rfl
                        refine take_ (i := 29) (N := some 74) (v := ?_) (a' := ?_) #[true, true, true, true, true, true, true, true, true, true, true, true, true, true, true, true, true, true, true, true, true, true, true, true, true, true, true, true, true, true, false, false, false, false, false, false, false, false] rfl rfl (take_ofW HT_.out HW_.out (by kernel_rfl)) (fun _ _ _ h => h) (Or.inl ⟨by rfl, ?_⟩) hHeld ?_ ?_
                        rotate_left
                        · rintro w' ⟨s0, s1, s2, s3, s4, s5, s6, s7, s8, s9, s10⟩
                          go_simp
                          with_reducible rfl
                        rotate_left
                        · simp only [Act.put, List.setIfInBounds_toArray, List.set_cons_zero, List.set_cons_succ, i64_w, i32_w]
                          rfl
                        refine take_ (i := 30) (N := some 75) (v := ?_) (a' := ?_) #[true, true, true, true, true, true, true, true, true, true, true, true, true, true, true, true, true, true, true, true, true, true, true, true, true, true, true, true, true, true, true, false, false, false, false, false, false, false] rfl rfl (take_ofW HT_.out HW_.out (by kernel_rfl)) (fun _ _ _ h => h) (Or.inl ⟨by rfl, ?_⟩) hHeld ?_ ?_
                        rotate_left
                        · rintro w' ⟨s0, s1, s2, s3, s4, s5, s6, s7, s8, s9, s10⟩
                          go_simp
                          with_reducible rfl
                        rotate_left
                        · simp only [Act.put, List.setIfInBounds_toArray, List.set_cons_zero, List.set_cons_succ, i64_w, i32_w]
                          rfl
                        refine take_ (i := 32) (N := some 77) (v := ?_) (a' := ?_) #[true, true, true, true, true, true, true, true, true, true, true, true, true, true, true, true, true, true, true, true, true, true, true, true, true, true, true, true, true, true, true, false, true, false, false, false, false, false] rfl rfl (take_ofW HT_.out HW_.out (by kernel_rfl)) (fun _ _ _ h => h) (Or.inl ⟨by rfl, ?_⟩) hHeld ?_ ?_
                        rotate_left
                        · rintro w' ⟨s0, s1, s2, s3, s4, s5, s6, s7, s8, s9, s10⟩
                          go_simp
                          with_reducible rfl
                        rotate_left
                        · simp only [Act.put, List.setIfInBounds_toArray, List.set_cons_zero, List.set_cons_succ, i64_w, i32_w]
                          rfl
                        refine take_ (i := 33) (N := some 78) (v := ?_) (a' := ?_) #[true, true, true, true, true, true, true, true, true, true, true, true, true, true, true, true, true, true, true, true, true, true, true, true, true, true, true, true, true, true, true, false, true, true, false, false, false, false] rfl rfl (take_ofW HT_.out HW_.out (by kernel_rfl)) (fun _ _ _ h => h) (Or.inl ⟨by rfl, ?_⟩) hHeld ?_ ?_
                        rotate_left
                        · rintro w' ⟨s0, s1, s2, s3, s4, s5, s6, s7, s8, s9, s10⟩
                          go_simp
                          with_reducible rfl
                        rotate_left
                        · simp only [Act.put, List.setIfInBounds_toArray, List.set_cons_zero, List.set_cons_succ, i64_w, i32_w]
                          rfl
                        refine one_ (i := 31) (N := some 76) #[true, true, true, true, true, true, true, true, true, true, true, true, true, true, true, true, true, true, true, true, true, true, true, true, true, true, true, true, true, true, true, true, true, true, false, false, false, false] rfl rfl (one_of HT_.out (by kernel_rfl)) (by decide) (fun K hK => ?_)
                        refine goes_ Try.func21 (by kernel_rfl) rfl #[.agg #[.bool a0_0, .int .i64 a0_1, .int .i64 a0_2], .agg #[.bool a1_0, .int .i64 a1_1, .int .i64 a1_2]] (by rfl) rfl rfl (by (try simp only [List.map_toArray, List.map_cons, List.map_nil]); first | done | rfl | (simp only [List.length_drop, List.length_take]; rfl)) ?_
                        with_reducible refine (filter_Meets.calls a0_0 a0_1 a0_2 a1_0 a1_1 a1_2 t168 _ A70.out).mono ?_
                        rintro e w79 ⟨rfl, hb⟩
                        refine ⟨_, rfl, ?_⟩
                        have n0_ := Aside0.mk (blk_below (g := gb152) (o := .cells #[.bool a0_0, .int .i64 a0_1, .int .i64 a0_2] 23 (0, 0)) (by (with_reducible repeat (first | refine blk_drewN ?_ _ | refine blk_drew ?_ | refine blk_alloc ?_ _)); exact BK152.out) hb)
                        have n1_ := Aside0.mk (blk_below (g := gb153) (o := .cells #[.bool a1_0, .int .i64 a1_1, .int .i64 a1_2] 23 (0, 0)) (by (with_reducible repeat (first | refine blk_drewN ?_ _ | refine blk_drew ?_ | refine blk_alloc ?_ _)); exact BK153.out) hb)
                        have n2_ := Aside0.mk (blk_below (g := gb154) (o := .cells #[.bool a3_0, .int .i64 a3_1, .bool a3_2, .int .i64 a3_3, .slice A3_4 l3_4.length c3_4] 27 (0, 0)) (by (with_reducible repeat (first | refine blk_drewN ?_ _ | refine blk_drew ?_ | refine blk_alloc ?_ _)); exact BK154.out) hb)
                        have n3_ := Aside0.mk (below_step (by repeat (first | (with_reducible first | exact HB.out | apply below_alloc | apply pw_below_drewN | apply below_drew1 | refine below_set ?_ GE152.out | refine below_set ?_ GE153.out | refine below_set ?_ GE154.out) | exact HB.out)) hb)
                        clear BK152
                        clear BK153
                        clear BK154
                        clear HB
                        have BK152 := n0_
                        have BK153 := n1_
                        have BK154 := n2_
                        have HB := n3_
                        clear n0_ n1_ n2_ n3_
                        (try clear hb)
                        (try clear hb2)
                        (try clear hk)
                        (try clear hi)
                        refine hK.out _ _ ⟨(blk_cell BK152.out 0).trans rfl, (blk_cell BK152.out 1).trans rfl, (blk_cell BK152.out 2).trans rfl, (blk_cell BK154.out 0).trans rfl, (blk_cell BK154.out 1).trans rfl, (blk_cell BK154.out 2).trans rfl, (blk_cell BK154.out 3).trans rfl, (blk_cell BK154.out 4).trans rfl, (blk_cell BK153.out 0).trans rfl, (blk_cell BK153.out 1).trans rfl, (blk_cell BK153.out 2).trans rfl⟩ (fun hHeld => ?_)
                        clear hK K
                        refine norm_ (a' := ?_) ?_ ?_
                        rotate_left
                        · show Act.put _ (some 76) _ = _
                          simp only [Act.put, List.setIfInBounds_toArray, List.set_cons_zero, List.set_cons_succ, i64_w, i32_w]
                          rfl
                        refine one_ (i := 34) (N := some 79) #[true, true, true, true, true, true, true, true, true, true, true, true, true, true, true, true, true, true, true, true, true, true, true, true, true, true, true, true, true, true, true, true, true, true, true, false, false, false] rfl rfl (one_of HT_.out (by kernel_rfl)) (by decide) (fun K hK => ?_)
                        refine goes_ Try.func22 (by kernel_rfl) rfl #[.agg #[.bool a0_0, .int .i64 a0_1, .int .i64 a0_2], .agg #[.bool a1_0, .int .i64 a1_1, .int .i64 a1_2]] (by rfl) rfl rfl (by (try simp only [List.map_toArray, List.map_cons, List.map_nil]); first | done | rfl | (simp only [List.length_drop, List.length_take]; rfl)) ?_
                        with_reducible refine (phaetonref07_Meets.calls a0_0 a0_1 a0_2 a1_0 a1_1 a1_2 t169 _ A71.out).mono ?_
                        rintro e w80 ⟨rfl, hb⟩
                        refine ⟨_, rfl, ?_⟩
                        have n0_ := Aside0.mk (blk_below (g := gb152) (o := .cells #[.bool a0_0, .int .i64 a0_1, .int .i64 a0_2] 23 (0, 0)) (by (with_reducible repeat (first | refine blk_drewN ?_ _ | refine blk_drew ?_ | refine blk_alloc ?_ _)); exact BK152.out) hb)
                        have n1_ := Aside0.mk (blk_below (g := gb153) (o := .cells #[.bool a1_0, .int .i64 a1_1, .int .i64 a1_2] 23 (0, 0)) (by (with_reducible repeat (first | refine blk_drewN ?_ _ | refine blk_drew ?_ | refine blk_alloc ?_ _)); exact BK153.out) hb)
                        have n2_ := Aside0.mk (blk_below (g := gb154) (o := .cells #[.bool a3_0, .int .i64 a3_1, .bool a3_2, .int .i64 a3_3, .slice A3_4 l3_4.length c3_4] 27 (0, 0)) (by (with_reducible repeat (first | refine blk_drewN ?_ _ | refine blk_drew ?_ | refine blk_alloc ?_ _)); exact BK154.out) hb)
                        have n3_ := Aside0.mk (below_step (by repeat (first | (with_reducible first | exact HB.out | apply below_alloc | apply pw_below_drewN | apply below_drew1 | refine below_set ?_ GE152.out | refine below_set ?_ GE153.out | refine below_set ?_ GE154.out) | exact HB.out)) hb)
                        clear BK152
                        clear BK153
                        clear BK154
                        clear HB
                        have BK152 := n0_
                        have BK153 := n1_
                        have BK154 := n2_
                        have HB := n3_
                        clear n0_ n1_ n2_ n3_
                        (try clear hb)
                        (try clear hb2)
                        (try clear hk)
                        (try clear hi)
                        refine hK.out _ _ ⟨(blk_cell BK152.out 0).trans rfl, (blk_cell BK152.out 1).trans rfl, (blk_cell BK152.out 2).trans rfl, (blk_cell BK154.out 0).trans rfl, (blk_cell BK154.out 1).trans rfl, (blk_cell BK154.out 2).trans rfl, (blk_cell BK154.out 3).trans rfl, (blk_cell BK154.out 4).trans rfl, (blk_cell BK153.out 0).trans rfl, (blk_cell BK153.out 1).trans rfl, (blk_cell BK153.out 2).trans rfl⟩ (fun hHeld => ?_)
                        clear hK K
                        refine norm_ (a' := ?_) ?_ ?_
                        rotate_left
                        · show Act.put _ (some 79) _ = _
                          simp only [Act.put, List.setIfInBounds_toArray, List.set_cons_zero, List.set_cons_succ, i64_w, i32_w]
                          rfl
                        refine pure_ (i := 35) (N := some 80) (v := ?_) (a' := ?_) #[true, true, true, true, true, true, true, true, true, true, true, true, true, true, true, true, true, true, true, true, true, true, true, true, true, true, true, true, true, true, true, true, true, true, true, true, false, false] rfl rfl (any_of HT_.out (by kernel_rfl)) (fun _ _ _ h => h) (Or.inl ⟨by rfl, ?_⟩) ?_ ?_
                        rotate_left
                        · intro w'
                          go_simp
                          with_reducible rfl
                        rotate_left
                        · simp only [Act.put, List.setIfInBounds_toArray, List.set_cons_zero, List.set_cons_succ, i64_w, i32_w]
                          rfl
                        refine pure_ (i := 36) (N := some 81) (v := ?_) (a' := ?_) #[true, true, true, true, true, true, true, true, true, true, true, true, true, true, true, true, true, true, true, true, true, true, true, true, true, true, true, true, true, true, true, true, true, true, true, true, true, false] rfl rfl (any_of HT_.out (by kernel_rfl)) (fun _ _ _ h => h) (Or.inl ⟨by rfl, ?_⟩) ?_ ?_
                        rotate_left
                        · intro w'
                          go_simp
                          with_reducible rfl
                        rotate_left
                        · simp only [Act.put, List.setIfInBounds_toArray, List.set_cons_zero, List.set_cons_succ, i64_w, i32_w]
                          rfl
                        refine pure_ (i := 37) (N := some 8) (v := ?_) (a' := ?_) #[true, true, true, true, true, true, true, true, true, true, true, true, true, true, true, true, true, true, true, true, true, true, true, true, true, true, true, true, true, true, true, true, true, true, true, true, true, true] rfl rfl (any_of HT_.out (by kernel_rfl)) (fun _ _ _ h => h) (Or.inl ⟨by rfl, ?_⟩) ?_ ?_
                        rotate_left
                        · intro w'
                          go_simp
                          with_reducible rfl
                        rotate_left
                        · simp only [Act.put, List.setIfInBounds_toArray, List.set_cons_zero, List.set_cons_succ, i64_w, i32_w]
                          rfl
                        refine done_ (done_of HT_.out (by kernel_rfl)) ?_
                        try go_wp2
                        go_ret
                        exact ⟨by first | rfl | (simp [errW_none, errW_some] <;> rfl) | (simp [*, errW_none, errW_some] <;> rfl), by repeat (first | (with_reducible first | exact HB.out | apply below_alloc | apply pw_below_drewN | apply below_drew1 | refine below_set ?_ GE152.out | refine below_set ?_ GE153.out | refine below_set ?_ GE154.out) | exact HB.out)⟩
                      · rw [if_neg c69] at H
                        have c69b0 : (t166 == t167) = false := by simpa using c69
                        (try (have c69b1 : decide (t166 = t167) = false := by simpa using c69))
                        (try (have c69b2 : (t166 == t167) = false := by simpa using c69))
                        (try (have c69b3 : ¬ (t166 = t167) := by simpa using c69))
                        clear c69
                        exact absurd H (by simp)
                    · rw [if_neg c66] at H
                      have c66b0 : (t164 == t165) = false := by simpa using c66
                      (try (have c66b1 : decide (t164 = t165) = false := by simpa using c66))
                      (try (have c66b2 : (t164 == t165) = false := by simpa using c66))
                      (try (have c66b3 : ¬ (t164 = t165) := by simpa using c66))
                      clear c66
                      exact absurd H (by simp)
                  · rw [if_neg c63] at H
                    have c63b0 : (t162 == t163) = false := by simpa using c63
                    (try (have c63b1 : decide (t162 = t163) = false := by simpa using c63))
                    (try (have c63b2 : (t162 == t163) = false := by simpa using c63))
                    (try (have c63b3 : ¬ (t162 = t163) := by simpa using c63))
                    clear c63
                    exact absurd H (by simp)
                · replace c60 := Bool.eq_false_iff.mpr c60
                  subst c60
                  have H1 : (none) = some r := by rw [if_neg (show ¬ (false = true) by decide)] at H; exact H
                  clear H
                  have H := H1
                  clear H1
                  exact absurd H (by simp)

end Go.Proofs.Ytcbcgfeliainaaa.P

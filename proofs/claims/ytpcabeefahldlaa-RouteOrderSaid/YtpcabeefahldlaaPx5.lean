/- Go functions that the laws of this seat reach, each as a Lean function, and a proof that a call of the Go code comes to its answers; written by a program (the kit's print, turned in a few places). Conditions: each theorem's own premises. -/
import Derived.Shelf.Abstract
import Derived.Test.YtpcabeefahldlaaPx0
import Derived.Test.YtpcabeefahldlaaPx1
import Derived.Test.YtpcabeefahldlaaGLoop
namespace Go.Proofs.Ytpcabeefahldlaa.P
open Go.Shelf Go.RowKit Go.Proofs.YtpcabeefahldlaaW.PrintWords Go.Proofs.YtpcabeefahldlaaW.PrintLast Go.Proofs.YtpcabeefahldlaaW.PrintMore
attribute [local go_sem] max2_int min2_int max_two min_two max_three min_three max_four min_four   -- for this text's walks alone
set_option linter.unusedVariables false
set_option linter.unusedSimpArgs false

attribute [local go_sem high] eqA61
/-! ### filter_of: function 33 -/
def filter_of.f (a0_0 : Bool) (a0_1 : Int) (a0_2 : Int) (a1 : Bool) (a2 : Int) : Option (Bool × Int) := some (a1, Go.bits .and .i64 a2 a0_1)
set_option maxHeartbeats 8000000 in
set_option maxRecDepth 100000 in
theorem filter_of.calls (a0_0 : Bool) (a0_1 : Int) (a0_2 : Int) (a1 : Bool) (a2 : Int) (r1 : Bool) (r2 : Int) (w : World) (h : filter_of.f a0_0 a0_1 a0_2 a1 a2 = some (r1, r2)) :
    Calls Try.prog 33 #[.agg #[.bool a0_0, .int .i64 a0_1, .int .i64 a0_2], .bool a1, .int .i64 a2] w fun e w' => e = .returned (.agg #[.bool r1, .int .i64 r2]) ∧ Below w.heap.size w w' := by
  have hu43 := Try.underlying43
  have hu61 := Try.underlying61
  have HB := Aside0.mk (Below.refl w.heap.size w)
  have H : (some (a1, Go.bits .and .i64 a2 a0_1)) = some (r1, r2) := h
  clear h
  simp only [Option.some.injEq, Prod.mk.injEq] at H
  obtain ⟨rfl, rfl⟩ := H
  go_enter Try.func33, Try.ntmps33
  go_wp2_with (first | ((with_reducible refine gate_dst (N := 3) rfl ?_); refine box_event ?hg (N := 3) ?hd (cs := #[.bool a0_0, .int .i64 a0_1, .int .i64 a0_2]) (t := 43) ?hr ?_; (case hd => rfl); (case hg => rfl); (case hr => first | (go_simp; done) | (go_simp; rfl)); intro gb115 hg w4 hbox hb; have n0_ := Aside0.mk (below_step (by repeat (first | (with_reducible first | exact HB.out | apply below_alloc | apply pw_below_drewN | apply below_drew1) | exact HB.out)) hb); have n1_ := Aside0.mk (hbox); have n2_ := Aside0.mk ((by rw [hg]; exact (below_size (by repeat (first | (with_reducible first | exact HB.out | apply below_alloc | apply pw_below_drewN | apply below_drew1) | exact HB.out))) : w.heap.size ≤ gb115)); have n3_ := Aside0.mk ((by rw [hg]; exact (below_size (by repeat (first | (with_reducible first | exact HB.out | apply below_alloc | apply pw_below_drewN | apply below_drew1) | exact HB.out))) : w.heap.size ≤ gb115)); clear HB; have HB := n0_; have BK115 := n1_; have GW115 := n2_; have GE115 := n3_; clear n0_ n1_ n2_ n3_; clear hb hbox hg) | ((with_reducible refine gate_dst (N := 6) rfl ?_); refine box_event ?hg (N := 6) ?hd (cs := #[.bool false, .int .i64 0]) (t := 61) ?hr ?_; (case hd => rfl); (case hg => rfl); (case hr => first | (go_simp; done) | (go_simp; rfl)); intro gb116 hg w5 hbox hb; have n0_ := Aside0.mk (blk_below (g := gb115) (o := .cells #[.bool a0_0, .int .i64 a0_1, .int .i64 a0_2] 43 (0, 0)) (by (with_reducible repeat (first | refine blk_drewN ?_ _ | refine blk_drew ?_ | refine blk_alloc ?_ _)); exact BK115.out) hb); have n1_ := Aside0.mk (below_step (by repeat (first | (with_reducible first | exact HB.out | apply below_alloc | apply pw_below_drewN | apply below_drew1 | refine below_set ?_ GE115.out) | exact HB.out)) hb); have n2_ := Aside0.mk (hbox); have n3_ := Aside0.mk ((by rw [hg]; exact (below_size (by repeat (first | (with_reducible first | exact HB.out | apply below_alloc | apply pw_below_drewN | apply below_drew1 | refine below_set ?_ GE115.out) | exact HB.out))) : w.heap.size ≤ gb116)); have n4_ := Aside0.mk ((by rw [hg]; exact (below_size (by repeat (first | (with_reducible first | exact HB.out | apply below_alloc | apply pw_below_drewN | apply below_drew1 | refine below_set ?_ GE115.out) | exact HB.out))) : w.heap.size ≤ gb116)); have n5_ := Aside0.mk ((by rw [hg]; exact Nat.ne_of_lt (blk_lt (g := gb115) (o := .cells #[.bool a0_0, .int .i64 a0_1, .int .i64 a0_2] 43 (0, 0)) (by (with_reducible repeat (first | refine blk_drewN ?_ _ | refine blk_drew ?_ | refine blk_alloc ?_ _)); exact BK115.out)) : gb115 ≠ gb116)); have n6_ := Aside0.mk ((by rw [hg]; exact Nat.ne_of_gt (blk_lt (g := gb115) (o := .cells #[.bool a0_0, .int .i64 a0_1, .int .i64 a0_2] 43 (0, 0)) (by (with_reducible repeat (first | refine blk_drewN ?_ _ | refine blk_drew ?_ | refine blk_alloc ?_ _)); exact BK115.out)) : gb116 ≠ gb115)); clear BK115; clear HB; have BK115 := n0_; have HB := n1_; have BK116 := n2_; have GW116 := n3_; have GE116 := n4_; have NB115_116 := n5_; have NB116_115 := n6_; clear n0_ n1_ n2_ n3_ n4_ n5_ n6_; clear hb hbox hg; have hnb6 := NB115_116.out; have hnc6 := NB116_115.out; have hcz7_0 : w5.cell? ⟨gb115, 0, none⟩ = some (.bool a0_0) := (blk_cell BK115.out 0).trans rfl; have hcz7_1 : w5.cell? ⟨gb115, 1, none⟩ = some (.int .i64 a0_1) := (blk_cell BK115.out 1).trans rfl; have hcz7_2 : w5.cell? ⟨gb115, 2, none⟩ = some (.int .i64 a0_2) := (blk_cell BK115.out 2).trans rfl; have hfz7_0 := blk_frozen BK115.out 0; have hfz7_1 := blk_frozen BK115.out 1; have hfz7_2 := blk_frozen BK115.out 2; have hcz8_0 : w5.cell? ⟨gb116, 0, none⟩ = some (.bool false) := (blk_cell BK116.out 0).trans rfl; have hcz8_1 : w5.cell? ⟨gb116, 1, none⟩ = some (.int .i64 0) := (blk_cell BK116.out 1).trans rfl; have hfz8_0 := blk_frozen BK116.out 0; have hfz8_1 := blk_frozen BK116.out 1))
  refine bodyPost_ret (results_cell_row rfl _ _ gb116 61 #[.bool a1, .int .i64 (Go.bits .and .i64 a2 a0_1)] (0, 0) _ rfl (by (with_reducible repeat (first | refine blk_drewN ?_ _ | refine blk_drew ?_ | refine blk_alloc ?_ _)); refine blk_put (cs := #[.bool a1, .int .i64 0]) ?_ 1 _ rfl; (with_reducible repeat (first | refine blk_drewN ?_ _ | refine blk_drew ?_ | refine blk_alloc ?_ _)); refine blk_put (cs := #[.bool false, .int .i64 0]) ?_ 0 _ rfl; (with_reducible repeat (first | refine blk_drewN ?_ _ | refine blk_drew ?_ | refine blk_alloc ?_ _)); exact BK116.out) Try.underlying61 rfl (by kernel_rfl)) rfl ?_
  exact ⟨by first | rfl | (simp [errW_none, errW_some] <;> rfl) | (simp [*, errW_none, errW_some] <;> rfl), by repeat (first | (with_reducible first | exact HB.out | apply below_alloc | apply pw_below_drewN | apply below_drew1 | refine below_set ?_ GE115.out | refine below_set ?_ GE116.out) | exact HB.out)⟩

/-! ### filter_Takes: function 29 -/
def filter_Takes.f (a0_0 : Bool) (a0_1 : Int) (a0_2 : Int) (a1_0 : Bool) (a1_1 : Int) (a1_2 : Bool) (a1_3 : Int) (l1_4 : List Int) : Option (Bool) := (filter_of.f a0_0 a0_1 a0_2 a1_0 a1_1).bind fun bt119 => (some (bt119.1 == a0_0 && (bt119.2 == a0_2)))
def filter_Takes.T1 : Bool × List (List Nat × List Nat) := (true, [([], []), ([], []), ([1], [1]), ([], []), ([3], [3]), ([0, 2, 4], [0, 2, 4]), ([], []), ([6], [6]), ([], []), ([8], [8]), ([7, 9], [7, 9]), ([5, 10], [5, 10]), ([11, 5, 0, 1, 2, 3, 4, 5, 6, 7, 8, 9, 10, 11], [11])])
def filter_Takes.B1 : List Nat := [0, 0, 2, 0, 8, 31, 0, 64, 0, 256, 960, 2047, 4095]
theorem filter_Takes.tab1 : rtab .any (opsOf Try.f29 1) = filter_Takes.T1 := by kernel_rfl
theorem filter_Takes.bits1 : waitsOk filter_Takes.T1.2 filter_Takes.B1 = true := by kernel_rfl
set_option maxHeartbeats 8000000 in
set_option maxRecDepth 100000 in
theorem filter_Takes.calls (a0_0 : Bool) (a0_1 : Int) (a0_2 : Int) (a1_0 : Bool) (a1_1 : Int) (a1_2 : Bool) (a1_3 : Int) (A1_4 : Option Addr) (c1_4 : Nat) (l1_4 : List Int) (r : Bool) (w : World) (hr1_4 : Kd.C (Kd.int .u8) w A1_4 l1_4.length l1_4) (hc1_4 : l1_4.length ≤ c1_4) (h : filter_Takes.f a0_0 a0_1 a0_2 a1_0 a1_1 a1_2 a1_3 l1_4 = some r) :
    Calls Try.prog 29 #[.agg #[.bool a0_0, .int .i64 a0_1, .int .i64 a0_2], .agg #[.bool a1_0, .int .i64 a1_1, .bool a1_2, .int .i64 a1_3, .slice A1_4 l1_4.length c1_4]] w fun e w' => e = .returned (.bool r) ∧ Below w.heap.size w w' := by
  have hu43 := Try.underlying43
  have hu25 := Try.underlying25
  have hu61 := Try.underlying61
  have HR1_4 := Aside0.mk hr1_4
  have HC1_4 := Aside0.mk hc1_4
  clear hr1_4 hc1_4
  have HB := Aside0.mk (Below.refl w.heap.size w)
  have H : ((filter_of.f a0_0 a0_1 a0_2 a1_0 a1_1).bind fun bt119 => (some (bt119.1 == a0_0 && (bt119.2 == a0_2)))) = some r := h
  clear h
  replace H := Option.bind_eq_some_iff.mp H
  obtain ⟨⟨t119, t120⟩, A30, H⟩ := H
  replace H : (some (t119 == a0_0 && (t120 == a0_2))) = some r := H
  have A3 := Aside0.mk A30
  clear A30
  obtain rfl := Option.some.inj H
  go_enter Try.func29, Try.ntmps29
  try go_wp2_with (first | ((with_reducible refine gate_dst (N := 2) rfl ?_); refine box_event ?hg (N := 2) ?hd (cs := #[.bool a0_0, .int .i64 a0_1, .int .i64 a0_2]) (t := 43) ?hr ?_; (case hd => rfl); (case hg => rfl); (case hr => first | (go_simp; done) | (go_simp; rfl)); intro gb117 hg w4 hbox hb; have n0_ := Aside0.mk (below_step (by repeat (first | (with_reducible first | exact HB.out | apply below_alloc | apply pw_below_drewN | apply below_drew1) | exact HB.out)) hb); have n1_ := Aside0.mk (hbox); have n2_ := Aside0.mk ((by rw [hg]; exact (below_size (by repeat (first | (with_reducible first | exact HB.out | apply below_alloc | apply pw_below_drewN | apply below_drew1) | exact HB.out))) : w.heap.size ≤ gb117)); have n3_ := Aside0.mk ((by rw [hg]; exact (below_size (by repeat (first | (with_reducible first | exact HB.out | apply below_alloc | apply pw_below_drewN | apply below_drew1) | exact HB.out))) : w.heap.size ≤ gb117)); clear HB; have HB := n0_; have BK117 := n1_; have GW117 := n2_; have GE117 := n3_; clear n0_ n1_ n2_ n3_; clear hb hbox hg) | ((with_reducible refine gate_dst (N := 3) rfl ?_); refine box_event ?hg (N := 3) ?hd (cs := #[.bool a1_0, .int .i64 a1_1, .bool a1_2, .int .i64 a1_3, .slice A1_4 l1_4.length c1_4]) (t := 25) ?hr ?_; (case hd => rfl); (case hg => rfl); (case hr => first | (go_simp; done) | (go_simp; rfl)); intro gb118 hg w5 hbox hb; have n0_ := Aside0.mk (blk_below (g := gb117) (o := .cells #[.bool a0_0, .int .i64 a0_1, .int .i64 a0_2] 43 (0, 0)) (by (with_reducible repeat (first | refine blk_drewN ?_ _ | refine blk_drew ?_ | refine blk_alloc ?_ _)); exact BK117.out) hb); have n1_ := Aside0.mk (below_step (by repeat (first | (with_reducible first | exact HB.out | apply below_alloc | apply pw_below_drewN | apply below_drew1 | refine below_set ?_ GE117.out) | exact HB.out)) hb); have n2_ := Aside0.mk (hbox); have n3_ := Aside0.mk ((by rw [hg]; exact (below_size (by repeat (first | (with_reducible first | exact HB.out | apply below_alloc | apply pw_below_drewN | apply below_drew1 | refine below_set ?_ GE117.out) | exact HB.out))) : w.heap.size ≤ gb118)); have n4_ := Aside0.mk ((by rw [hg]; exact (below_size (by repeat (first | (with_reducible first | exact HB.out | apply below_alloc | apply pw_below_drewN | apply below_drew1 | refine below_set ?_ GE117.out) | exact HB.out))) : w.heap.size ≤ gb118)); have n5_ := Aside0.mk ((by rw [hg]; exact Nat.ne_of_lt (blk_lt (g := gb117) (o := .cells #[.bool a0_0, .int .i64 a0_1, .int .i64 a0_2] 43 (0, 0)) (by (with_reducible repeat (first | refine blk_drewN ?_ _ | refine blk_drew ?_ | refine blk_alloc ?_ _)); exact BK117.out)) : gb117 ≠ gb118)); have n6_ := Aside0.mk ((by rw [hg]; exact Nat.ne_of_gt (blk_lt (g := gb117) (o := .cells #[.bool a0_0, .int .i64 a0_1, .int .i64 a0_2] 43 (0, 0)) (by (with_reducible repeat (first | refine blk_drewN ?_ _ | refine blk_drew ?_ | refine blk_alloc ?_ _)); exact BK117.out)) : gb118 ≠ gb117)); clear BK117; clear HB; have BK117 := n0_; have HB := n1_; have BK118 := n2_; have GW118 := n3_; have GE118 := n4_; have NB117_118 := n5_; have NB118_117 := n6_; clear n0_ n1_ n2_ n3_ n4_ n5_ n6_; clear hb hbox hg))
  have n0_ := Aside0.mk (blk_drew BK117.out)
  have n1_ := Aside0.mk (blk_drew BK118.out)
  have n2_ := Aside0.mk (below_drew1 HB.out)
  clear BK117
  clear BK118
  clear HB
  have BK117 := n0_
  have BK118 := n1_
  have HB := n2_
  clear n0_ n1_ n2_
  refine start_ (n := 13) (S := fun w' => w'.cell? ⟨gb117, 0, none⟩ = some (.bool a0_0) ∧ w'.cell? ⟨gb117, 1, none⟩ = some (.int .i64 a0_1) ∧ w'.cell? ⟨gb117, 2, none⟩ = some (.int .i64 a0_2) ∧ w'.cell? ⟨gb118, 0, none⟩ = some (.bool a1_0) ∧ w'.cell? ⟨gb118, 1, none⟩ = some (.int .i64 a1_1) ∧ w'.cell? ⟨gb118, 2, none⟩ = some (.bool a1_2) ∧ w'.cell? ⟨gb118, 3, none⟩ = some (.int .i64 a1_3) ∧ w'.cell? ⟨gb118, 4, none⟩ = some (.slice A1_4 l1_4.length c1_4)) (ds := []) #[false, false, false, false, false, false, false, false, false, false, false, false, false] (by kernel_rfl) rfl rfl ⟨(blk_cell BK117.out 0).trans rfl, (blk_cell BK117.out 1).trans rfl, (blk_cell BK117.out 2).trans rfl, (blk_cell BK118.out 0).trans rfl, (blk_cell BK118.out 1).trans rfl, (blk_cell BK118.out 2).trans rfl, (blk_cell BK118.out 3).trans rfl, (blk_cell BK118.out 4).trans rfl⟩ (fun hHeld => ?_); refine with_tabW filter_Takes.tab1 filter_Takes.bits1 (fun HT_ HW_ => ?_)
  generalize w5.drew = w6 at BK117 BK118 HB hHeld ⊢
  refine pure_ (i := 1) (N := some 6) (v := ?_) (a' := ?_) #[false, true, false, false, false, false, false, false, false, false, false, false, false] rfl rfl (any_of HT_.out (by kernel_rfl)) (fun _ _ _ h => h) (Or.inl ⟨by rfl, ?_⟩) ?_ ?_
  rotate_left
  · intro w'
    go_simp
    with_reducible rfl
  rotate_left
  · simp only [Act.put, List.setIfInBounds_toArray, List.set_cons_zero, List.set_cons_succ, i64_w, i32_w]
    rfl
  refine pure_ (i := 3) (N := some 8) (v := ?_) (a' := ?_) #[false, true, false, true, false, false, false, false, false, false, false, false, false] rfl rfl (any_of HT_.out (by kernel_rfl)) (fun _ _ _ h => h) (Or.inl ⟨by rfl, ?_⟩) ?_ ?_
  rotate_left
  · intro w'
    go_simp
    with_reducible rfl
  rotate_left
  · simp only [Act.put, List.setIfInBounds_toArray, List.set_cons_zero, List.set_cons_succ, i64_w, i32_w]
    rfl
  refine pure_ (i := 6) (N := some 11) (v := ?_) (a' := ?_) #[false, true, false, true, false, false, true, false, false, false, false, false, false] rfl rfl (any_of HT_.out (by kernel_rfl)) (fun _ _ _ h => h) (Or.inl ⟨by rfl, ?_⟩) ?_ ?_
  rotate_left
  · intro w'
    go_simp
    with_reducible rfl
  rotate_left
  · simp only [Act.put, List.setIfInBounds_toArray, List.set_cons_zero, List.set_cons_succ, i64_w, i32_w]
    rfl
  refine pure_ (i := 8) (N := some 13) (v := ?_) (a' := ?_) #[false, true, false, true, false, false, true, false, true, false, false, false, false] rfl rfl (any_of HT_.out (by kernel_rfl)) (fun _ _ _ h => h) (Or.inl ⟨by rfl, ?_⟩) ?_ ?_
  rotate_left
  · intro w'
    go_simp
    with_reducible rfl
  rotate_left
  · simp only [Act.put, List.setIfInBounds_toArray, List.set_cons_zero, List.set_cons_succ, i64_w, i32_w]
    rfl
  refine take_ (i := 0) (N := some 5) (v := ?_) (a' := ?_) #[true, true, false, true, false, false, true, false, true, false, false, false, false] rfl rfl (take_ofW HT_.out HW_.out (by kernel_rfl)) (fun _ _ _ h => h) (Or.inl ⟨by rfl, ?_⟩) hHeld ?_ ?_
  rotate_left
  · rintro w' ⟨s0, s1, s2, s3, s4, s5, s6, s7⟩
    go_simp
    with_reducible rfl
  rotate_left
  · simp only [Act.put, List.setIfInBounds_toArray, List.set_cons_zero, List.set_cons_succ, i64_w, i32_w]
    rfl
  refine take_ (i := 2) (N := some 7) (v := ?_) (a' := ?_) #[true, true, true, true, false, false, true, false, true, false, false, false, false] rfl rfl (take_ofW HT_.out HW_.out (by kernel_rfl)) (fun _ _ _ h => h) (Or.inl ⟨by rfl, ?_⟩) hHeld ?_ ?_
  rotate_left
  · rintro w' ⟨s0, s1, s2, s3, s4, s5, s6, s7⟩
    go_simp
    with_reducible rfl
  rotate_left
  · simp only [Act.put, List.setIfInBounds_toArray, List.set_cons_zero, List.set_cons_succ, i64_w, i32_w]
    rfl
  refine take_ (i := 4) (N := some 9) (v := ?_) (a' := ?_) #[true, true, true, true, true, false, true, false, true, false, false, false, false] rfl rfl (take_ofW HT_.out HW_.out (by kernel_rfl)) (fun _ _ _ h => h) (Or.inl ⟨by rfl, ?_⟩) hHeld ?_ ?_
  rotate_left
  · rintro w' ⟨s0, s1, s2, s3, s4, s5, s6, s7⟩
    go_simp
    with_reducible rfl
  rotate_left
  · simp only [Act.put, List.setIfInBounds_toArray, List.set_cons_zero, List.set_cons_succ, i64_w, i32_w]
    rfl
  refine take_ (i := 7) (N := some 12) (v := ?_) (a' := ?_) #[true, true, true, true, true, false, true, true, true, false, false, false, false] rfl rfl (take_ofW HT_.out HW_.out (by kernel_rfl)) (fun _ _ _ h => h) (Or.inl ⟨by rfl, ?_⟩) hHeld ?_ ?_
  rotate_left
  · rintro w' ⟨s0, s1, s2, s3, s4, s5, s6, s7⟩
    go_simp
    with_reducible rfl
  rotate_left
  · simp only [Act.put, List.setIfInBounds_toArray, List.set_cons_zero, List.set_cons_succ, i64_w, i32_w]
    rfl
  refine take_ (i := 9) (N := some 14) (v := ?_) (a' := ?_) #[true, true, true, true, true, false, true, true, true, true, false, false, false] rfl rfl (take_ofW HT_.out HW_.out (by kernel_rfl)) (fun _ _ _ h => h) (Or.inl ⟨by rfl, ?_⟩) hHeld ?_ ?_
  rotate_left
  · rintro w' ⟨s0, s1, s2, s3, s4, s5, s6, s7⟩
    go_simp
    with_reducible rfl
  rotate_left
  · simp only [Act.put, List.setIfInBounds_toArray, List.set_cons_zero, List.set_cons_succ, i64_w, i32_w]
    rfl
  refine pure_ (i := 10) (N := some 15) (v := ?_) (a' := ?_) #[true, true, true, true, true, false, true, true, true, true, true, false, false] rfl rfl (any_of HT_.out (by kernel_rfl)) (fun _ _ _ h => h) (Or.inl ⟨by rfl, ?_⟩) ?_ ?_
  rotate_left
  · intro w'
    go_simp
    with_reducible rfl
  rotate_left
  · simp only [Act.put, List.setIfInBounds_toArray, List.set_cons_zero, List.set_cons_succ, i64_w, i32_w]
    rfl
  refine one_ (i := 5) (N := some 10) #[true, true, true, true, true, true, true, true, true, true, true, false, false] rfl rfl (one_of HT_.out (by kernel_rfl)) (by decide) (fun K hK => ?_)
  refine goes_ Try.func33 (by kernel_rfl) rfl #[.agg #[.bool a0_0, .int .i64 a0_1, .int .i64 a0_2], .bool a1_0, .int .i64 a1_1] (by rfl) rfl rfl (by (try simp only [List.map_toArray, List.map_cons, List.map_nil]); first | done | rfl | (simp only [List.length_drop, List.length_take]; rfl)) ?_
  with_reducible refine (filter_of.calls a0_0 a0_1 a0_2 a1_0 a1_1 t119 t120 _ A3.out).mono ?_
  rintro e w7 ⟨rfl, hb⟩
  refine ⟨_, rfl, ?_⟩
  have n0_ := Aside0.mk (blk_below (g := gb117) (o := .cells #[.bool a0_0, .int .i64 a0_1, .int .i64 a0_2] 43 (0, 0)) (by (with_reducible repeat (first | refine blk_drewN ?_ _ | refine blk_drew ?_ | refine blk_alloc ?_ _)); exact BK117.out) hb)
  have n1_ := Aside0.mk (blk_below (g := gb118) (o := .cells #[.bool a1_0, .int .i64 a1_1, .bool a1_2, .int .i64 a1_3, .slice A1_4 l1_4.length c1_4] 25 (0, 0)) (by (with_reducible repeat (first | refine blk_drewN ?_ _ | refine blk_drew ?_ | refine blk_alloc ?_ _)); exact BK118.out) hb)
  have n2_ := Aside0.mk (below_step (by repeat (first | (with_reducible first | exact HB.out | apply below_alloc | apply pw_below_drewN | apply below_drew1 | refine below_set ?_ GE117.out | refine below_set ?_ GE118.out) | exact HB.out)) hb)
  clear BK117
  clear BK118
  clear HB
  have BK117 := n0_
  have BK118 := n1_
  have HB := n2_
  clear n0_ n1_ n2_
  (try clear hb)
  (try clear hb2)
  (try clear hk)
  (try clear hi)
  refine hK.out _ _ ⟨(blk_cell BK117.out 0).trans rfl, (blk_cell BK117.out 1).trans rfl, (blk_cell BK117.out 2).trans rfl, (blk_cell BK118.out 0).trans rfl, (blk_cell BK118.out 1).trans rfl, (blk_cell BK118.out 2).trans rfl, (blk_cell BK118.out 3).trans rfl, (blk_cell BK118.out 4).trans rfl⟩ (fun hHeld => ?_)
  clear hK K
  refine norm_ (a' := ?_) ?_ ?_
  rotate_left
  · show Act.put _ (some 10) _ = _
    simp only [Act.put, List.setIfInBounds_toArray, List.set_cons_zero, List.set_cons_succ, i64_w, i32_w]
    rfl
  refine pure_ (i := 11) (N := some 16) (v := ?_) (a' := ?_) #[true, true, true, true, true, true, true, true, true, true, true, true, false] rfl rfl (any_of HT_.out (by kernel_rfl)) (fun _ _ _ h => h) (Or.inl ⟨by rfl, ?_⟩) ?_ ?_
  rotate_left
  · intro w'
    go_simp
    with_reducible rfl
  rotate_left
  · simp only [Act.put, List.setIfInBounds_toArray, List.set_cons_zero, List.set_cons_succ, i64_w, i32_w]
    rfl
  refine pure_ (i := 12) (N := some 4) (v := ?_) (a' := ?_) #[true, true, true, true, true, true, true, true, true, true, true, true, true] rfl rfl (any_of HT_.out (by kernel_rfl)) (fun _ _ _ h => h) (Or.inl ⟨by rfl, ?_⟩) ?_ ?_
  rotate_left
  · intro w'
    go_simp
    with_reducible rfl
  rotate_left
  · simp only [Act.put, List.setIfInBounds_toArray, List.set_cons_zero, List.set_cons_succ, i64_w, i32_w]
    rfl
  refine done_ (done_of HT_.out (by kernel_rfl)) ?_
  try go_wp2
  go_ret
  exact ⟨by first | rfl | (simp [errW_none, errW_some] <;> rfl) | (simp [*, errW_none, errW_some] <;> rfl), by repeat (first | (with_reducible first | exact HB.out | apply below_alloc | apply pw_below_drewN | apply below_drew1 | refine below_set ?_ GE117.out | refine below_set ?_ GE118.out) | exact HB.out)⟩

/-! ### route_Hops: function 18 -/
mutual
def route_Hops.l0 : Nat → Int → List (S38) → List (S45) → Int → Int → Bool → Int → Bool → Int → List Int → Option ((List (S38)))
  | 0, _, _, _, _, _, _, _, _, _, _ => none
  | k + 1, x1, x7, x11, x12, x13, x122000, x122001, x122002, x122003, x122004 => if x13 < x12 then (if 0 ≤ x13 then (if x13 < (x11.length : Int) then (if ((rd_T45 x11 x13).f0) = x1 then ((filter_Takes.f ((rd_T45 x11 x13).f2.f0) ((rd_T45 x11 x13).f2.f1) ((rd_T45 x11 x13).f2.f2) x122000 x122001 x122002 x122003 x122004).bind fun t124 => (route_Hops.j1 k x1 x7 x11 x12 x13 (!t124) x122000 x122001 x122002 x122003 x122004 ((rd_T45 x11 x13).f0) ((rd_T45 x11 x13).f1) ((rd_T45 x11 x13).f2.f0) ((rd_T45 x11 x13).f2.f1) ((rd_T45 x11 x13).f2.f2) ((rd_T45 x11 x13).f3))) else (route_Hops.j1 k x1 x7 x11 x12 x13 true x122000 x122001 x122002 x122003 x122004 ((rd_T45 x11 x13).f0) ((rd_T45 x11 x13).f1) ((rd_T45 x11 x13).f2.f0) ((rd_T45 x11 x13).f2.f1) ((rd_T45 x11 x13).f2.f2) ((rd_T45 x11 x13).f3))) else (none)) else (none)) else (some x7)
def route_Hops.j1 : Nat → Int → List (S38) → List (S45) → Int → Int → Bool → Bool → Int → Bool → Int → List Int → Int → Int → Bool → Int → Int → Int → Option ((List (S38)))
  | 0, _, _, _, _, _, _, _, _, _, _, _, _, _, _, _, _, _ => none
  | k + 1, x1, x7, x11, x12, x13, x27, x122000, x122001, x122002, x122003, x122004, x124000, x124001, x124002, x124003, x124004, x124005 => if x27 = true then (route_Hops.l0 k x1 x7 x11 x12 (wrap64 (x13 + 1)) x122000 x122001 x122002 x122003 x122004) else (if x124005 = (-1) then (if x7.length < 2199023255552 then (route_Hops.l0 k x1 (x7 ++ [(⟨x124001, (⟨x122000, x122001, x122002, x122003, x122004⟩ : S25)⟩ : S38)]) x11 x12 (wrap64 (x13 + 1)) x122000 x122001 x122002 x122003 x122004) else (none)) else (if x7.length < 2199023255552 then (route_Hops.l0 k x1 (x7 ++ [(⟨x124001, (⟨x122000, x124005, x122002, x122003, x122004⟩ : S25)⟩ : S38)]) x11 x12 (wrap64 (x13 + 1)) x122000 x122001 x122002 x122003 x122004) else (none)))
end
def route_Hops.f (k : Nat) (l0 : List (S45)) (a1 : Int) (a2_0 : Bool) (a2_1 : Int) (a2_2 : Bool) (a2_3 : Int) (l2_4 : List Int) : Option ((List (S38))) := route_Hops.l0 k a1 ([] : List (S38)) l0 (l0.length : Int) 0 a2_0 a2_1 a2_2 a2_3 l2_4
theorem route_Hops.mono_l : ∀ k, (∀ y0 y1 y2 y3 y4 y5 y6 y7 y8 y9, LeO (route_Hops.l0 k y0 y1 y2 y3 y4 y5 y6 y7 y8 y9) (route_Hops.l0 (k + 1) y0 y1 y2 y3 y4 y5 y6 y7 y8 y9)) ∧ (∀ y0 y1 y2 y3 y4 y5 y6 y7 y8 y9 y10 y11 y12 y13 y14 y15 y16, LeO (route_Hops.j1 k y0 y1 y2 y3 y4 y5 y6 y7 y8 y9 y10 y11 y12 y13 y14 y15 y16) (route_Hops.j1 (k + 1) y0 y1 y2 y3 y4 y5 y6 y7 y8 y9 y10 y11 y12 y13 y14 y15 y16))
  | 0 => ⟨fun _ _ _ _ _ _ _ _ _ _ r h => by simp [route_Hops.l0] at h, fun _ _ _ _ _ _ _ _ _ _ _ _ _ _ _ _ _ r h => by simp [route_Hops.j1] at h⟩
  | k + 1 => by
    obtain ⟨ih0, ih1⟩ := route_Hops.mono_l k
    refine ⟨?_, ?_⟩
    · intro y0 y1 y2 y3 y4 y5 y6 y7 y8 y9
      unfold route_Hops.l0
      repeat' first
      | (with_reducible exact ih0 _ _ _ _ _ _ _ _ _ _)
      | (with_reducible exact ih1 _ _ _ _ _ _ _ _ _ _ _ _ _ _ _ _ _)
      | (with_reducible exact LeO.refl _)
      | (with_reducible exact LeO.none _)
      | (with_reducible refine LeO.ite ?_ ?_)
      | (with_reducible refine LeO.bind ?_ (fun _ => ?_))
      | exact ih0 _ _ _ _ _ _ _ _ _ _
      | exact ih1 _ _ _ _ _ _ _ _ _ _ _ _ _ _ _ _ _
      | exact LeO.none _
      | refine LeO.ite ?_ ?_
      | refine LeO.bind ?_ (fun _ => ?_)
    · intro y0 y1 y2 y3 y4 y5 y6 y7 y8 y9 y10 y11 y12 y13 y14 y15 y16
      unfold route_Hops.j1
      repeat' first
      | (with_reducible exact ih0 _ _ _ _ _ _ _ _ _ _)
      | (with_reducible exact ih1 _ _ _ _ _ _ _ _ _ _ _ _ _ _ _ _ _)
      | (with_reducible exact LeO.refl _)
      | (with_reducible exact LeO.none _)
      | (with_reducible refine LeO.ite ?_ ?_)
      | (with_reducible refine LeO.bind ?_ (fun _ => ?_))
      | exact ih0 _ _ _ _ _ _ _ _ _ _
      | exact ih1 _ _ _ _ _ _ _ _ _ _ _ _ _ _ _ _ _
      | exact LeO.none _
      | refine LeO.ite ?_ ?_
      | refine LeO.bind ?_ (fun _ => ?_)
theorem route_Hops.mono : ∀ a0 a1 a2 a3 a4 a5 a6 k, LeO (route_Hops.f k a0 a1 a2 a3 a4 a5 a6) (route_Hops.f (k + 1) a0 a1 a2 a3 a4 a5 a6) := by
  intro a0 a1 a2 a3 a4 a5 a6 k
  obtain ⟨ih0, ih1⟩ := route_Hops.mono_l k
  unfold route_Hops.f
  repeat' first
      | (with_reducible exact ih0 _ _ _ _ _ _ _ _ _ _)
      | (with_reducible exact ih1 _ _ _ _ _ _ _ _ _ _ _ _ _ _ _ _ _)
      | (with_reducible exact LeO.refl _)
      | (with_reducible exact LeO.none _)
      | (with_reducible refine LeO.ite ?_ ?_)
      | (with_reducible refine LeO.bind ?_ (fun _ => ?_))
      | exact ih0 _ _ _ _ _ _ _ _ _ _
      | exact ih1 _ _ _ _ _ _ _ _ _ _ _ _ _ _ _ _ _
      | exact LeO.none _
      | refine LeO.ite ?_ ?_
      | refine LeO.bind ?_ (fun _ => ?_)
set_option maxHeartbeats 8000000 in
set_option maxRecDepth 100000 in
theorem route_Hops.calls (k : Nat) (A0 : Option Addr) (c0 : Nat) (l0 : List (S45)) (a1 : Int) (a2_0 : Bool) (a2_1 : Int) (a2_2 : Bool) (a2_3 : Int) (P2_4_ : Nat → Prop) (A2_4 : Option Addr) (c2_4 : Nat) (l2_4 : List Int) (r : List (S38)) (w : World) (hr0 : Kd.C k45 w A0 l0.length l0) (hc0 : l0.length ≤ c0) (hs2_4 : Kd.V (Kd.int .u8) 5 w w.heap.size (fun k_ => P2_4_ k_) (.slice A2_4 l2_4.length c2_4) l2_4) (h : route_Hops.f k l0 a1 a2_0 a2_1 a2_2 a2_3 l2_4 = some r) :
    Calls Try.prog 18 #[.slice A0 l0.length c0, .int .i64 a1, .agg #[.bool a2_0, .int .i64 a2_1, .bool a2_2, .int .i64 a2_3, .slice A2_4 l2_4.length c2_4]] w fun e w' => ∃ v0_ : Value, e = .returned (v0_) ∧ Kd.N k38 38 w' w.heap.size (fun k_ => (P2_4_ k_ ∨ w.heap.size ≤ k_)) v0_ r ∧ Below w.heap.size w w' := by
  have hu25 := Try.underlying25
  have hu45 := Try.underlying45
  have hu43 := Try.underlying43
  have hu38 := Try.underlying38
  have HR0 := Aside0.mk hr0
  have HC0 := Aside0.mk hc0
  clear hr0 hc0
  have HO2_4 := Aside0.mk (show Kd.V (Kd.int .u8) 5 w w.heap.size (fun k_ => (P2_4_ k_ ∨ w.heap.size ≤ k_)) (.slice A2_4 l2_4.length c2_4) l2_4 from Kd.V_mono hs2_4 (fun k_ hk => .inl hk))
  have HB := Aside0.mk (Below.refl w.heap.size w)
  have H : (route_Hops.l0 k a1 ([] : List (S38)) l0 (l0.length : Int) 0 a2_0 a2_1 a2_2 a2_3 l2_4) = some r := h
  clear h
  have H' := Aside0.mk H
  clear H
  go_enter Try.func18, Try.ntmps18
  go_wp2_with (first | ((with_reducible refine gate_dst (N := 5) rfl ?_); refine box_event ?hg (N := 5) ?hd (cs := #[.bool a2_0, .int .i64 a2_1, .bool a2_2, .int .i64 a2_3, .slice A2_4 l2_4.length c2_4]) (t := 25) ?hr ?_; (case hd => rfl); (case hg => rfl); (case hr => first | (go_simp; done) | (go_simp; rfl)); intro gb121 hg w4 hbox hb; have n0_ := Aside0.mk (Kd.V_below (Kd.V_elderB (by (with_reducible repeat (first | apply Kd.V_alloc | apply Kd.V_drewN | apply Kd.V_drew)); exact HO2_4.out) gb121 (Nat.le_of_eq hg.symm)) hb); have n1_ := Aside0.mk (below_step (by repeat (first | (with_reducible first | exact HB.out | apply below_alloc | apply pw_below_drewN | apply below_drew1) | exact HB.out)) hb); have n2_ := Aside0.mk (hbox); have n3_ := Aside0.mk ((by rw [hg]; exact (below_size (by repeat (first | (with_reducible first | exact HB.out | apply below_alloc | apply pw_below_drewN | apply below_drew1) | exact HB.out))) : w.heap.size ≤ gb121)); have n4_ := Aside0.mk ((by rw [hg]; exact (below_size (by repeat (first | (with_reducible first | exact HB.out | apply below_alloc | apply pw_below_drewN | apply below_drew1) | exact HB.out))) : w.heap.size ≤ gb121)); clear HO2_4; clear HB; have HO2_4 := n0_; have HB := n1_; have BK121 := n2_; have GW121 := n3_; have GE121 := n4_; clear n0_ n1_ n2_ n3_ n4_; clear hb hbox hg))
  go_loopg [7, 13] k (fun kq v7 v13 w' => ∃ (x7_1 : List (S38)) (x13_1 : Int), v13 = .int .i64 x13_1 ∧ Aside0 (route_Hops.l0 kq a1 x7_1 l0 (l0.length : Int) x13_1 a2_0 a2_1 a2_2 a2_3 l2_4 = some r) ∧ Aside0 (kq ≤ k) ∧ Aside0 (Kd.N k38 38 w' w.heap.size (fun k_ => (P2_4_ k_ ∨ w.heap.size ≤ k_) ∧ k_ ≠ gb121) v7 x7_1) ∧ Aside0 (Kd.V (Kd.int .u8) 5 w' w.heap.size (fun k_ => (P2_4_ k_ ∨ w.heap.size ≤ k_) ∧ some k_ ≠ (v7 : Value).ownBlock ∧ k_ ≠ gb121) (.slice A2_4 l2_4.length c2_4) l2_4) ∧ Aside0 (w'.heap[gb121]? = some (.cells #[.bool a2_0, .int .i64 a2_1, .bool a2_2, .int .i64 a2_3, (.slice A2_4 l2_4.length c2_4)] 25 (0, 0))) ∧ Aside0 (Below w.heap.size w w'))
  case atStart => exact ⟨(([] : List (S38))), (0), (by first | rfl | (simp; done) | (simp [*]; done)), H', ⟨Nat.le_refl _⟩, ⟨by first | exact Kd.S_nil _ _ _ _ _ | exact Kd.N_nil _ _ _ _ _ | exact Kd.V_nil _ _ _ _ _ | exact Kd.Q_nil _ _ _ _ _ | exact Kd.R_nil _ _ _ _ _⟩, ⟨by (with_reducible repeat (first | apply Kd.V_alloc | apply Kd.V_drewN | apply Kd.V_drew)); exact Kd.V_mono HO2_4.out (fun _ hk => ⟨hk.1, ⟨(by simp [Value.ownBlock]), hk.2⟩⟩)⟩, ⟨by (with_reducible repeat (first | refine blk_drewN ?_ _ | refine blk_drew ?_ | refine blk_alloc ?_ _)); exact BK121.out⟩, ⟨by repeat (first | (with_reducible first | exact HB.out | apply below_alloc | apply pw_below_drewN | apply below_drew1 | refine below_set ?_ GE121.out) | exact HB.out)⟩⟩
  case round =>
    clear H'
    try clear c1
    try clear c2
    try clear p2
    obtain ⟨x7_1, x13_1, rfl, HA, HK1, HO_7, HO_122004, BK121, HB⟩ := hrel
    cases gk with
    | zero => exact absurd HA.out (by simp [route_Hops.l0])
    | succ k1 =>
      have H := HA.out
      clear HA
      simp only [route_Hops.l0] at H
      by_cases c5 : x13_1 < (l0.length : Int)
      · rw [if_pos c5] at H
        have c5b0 : decide (x13_1 < (l0.length : Int)) = true := decide_eq_true c5
        clear c5
        by_cases c6 : 0 ≤ x13_1
        · rw [if_pos c6] at H
          have c6b0 : decide (0 ≤ x13_1) = true := decide_eq_true c6
          clear c6
          by_cases c7 : x13_1 < (l0.length : Int)
          · rw [if_pos c7] at H
            have c7b0 : decide (x13_1 < (l0.length : Int)) = true := decide_eq_true c7
            clear c7
            have HC8 := Aside0.mk H
            clear H
            have p122 : 0 ≤ (x13_1 : Int) := of_decide_eq_true (by first | (with_reducible assumption) | assumption)
            have q122 : x13_1 < (l0.length : Int) := of_decide_eq_true (by first | (with_reducible assumption) | assumption)
            obtain ⟨ad122, e122, hx122_0, hx122_1, hx122_2, hx122_3, hx122_4, hx122_5⟩ := at_T45 HR0.out x13_1 p122 q122
            cases e122
            replace hx122_0 := (HB.out.cell (World.block_lt_of_cell? w _ hx122_0)).trans hx122_0
            replace hx122_1 := (HB.out.cell (World.block_lt_of_cell? w _ hx122_1)).trans hx122_1
            replace hx122_2 := (HB.out.cell (World.block_lt_of_cell? w _ hx122_2)).trans hx122_2
            replace hx122_3 := (HB.out.cell (World.block_lt_of_cell? w _ hx122_3)).trans hx122_3
            replace hx122_4 := (HB.out.cell (World.block_lt_of_cell? w _ hx122_4)).trans hx122_4
            replace hx122_5 := (HB.out.cell (World.block_lt_of_cell? w _ hx122_5)).trans hx122_5
            replace p122 := eq_true p122
            replace q122 := eq_true q122
            go_upto_region 5 with (first | ((with_reducible refine gate_dst (N := 9) rfl ?_); refine box_event ?hg (N := 9) ?hd (cs := #[.int .i64 0, .int .i64 0, .bool false, .int .i64 0, .int .i64 0, .int .i64 0]) (t := 45) ?hr ?_; (case hd => rfl); (case hg => rfl); (case hr => first | (go_simp; done) | (go_simp; rfl)); intro gb123 hg w9 hbox hb; have n0_ := Aside0.mk (Kd.N_below (Kd.N_elderB (by (with_reducible repeat (first | apply Kd.N_alloc | apply Kd.N_drewN | apply Kd.N_drew)); exact HO_7.out) gb123 (Nat.le_of_eq hg.symm)) hb); have n1_ := Aside0.mk (Kd.V_below (Kd.V_elderB (by (with_reducible repeat (first | apply Kd.V_alloc | apply Kd.V_drewN | apply Kd.V_drew)); exact HO_122004.out) gb123 (Nat.le_of_eq hg.symm)) hb); have n2_ := Aside0.mk (blk_below (g := gb121) (o := .cells #[.bool a2_0, .int .i64 a2_1, .bool a2_2, .int .i64 a2_3, .slice A2_4 l2_4.length c2_4] 25 (0, 0)) (by (with_reducible repeat (first | refine blk_drewN ?_ _ | refine blk_drew ?_ | refine blk_alloc ?_ _)); exact BK121.out) hb); have n3_ := Aside0.mk (below_step (by repeat (first | (with_reducible first | exact HB.out | apply below_alloc | apply pw_below_drewN | apply below_drew1 | refine below_set ?_ GE121.out) | exact HB.out)) hb); have n4_ := Aside0.mk (hbox); have n5_ := Aside0.mk ((by rw [hg]; exact (below_size (by repeat (first | (with_reducible first | exact HB.out | apply below_alloc | apply pw_below_drewN | apply below_drew1 | refine below_set ?_ GE121.out) | exact HB.out))) : w.heap.size ≤ gb123)); have n6_ := Aside0.mk ((by rw [hg]; exact (below_size (by repeat (first | (with_reducible first | exact HB.out | apply below_alloc | apply pw_below_drewN | apply below_drew1 | refine below_set ?_ GE121.out) | exact HB.out))) : w.heap.size ≤ gb123)); have n7_ := Aside0.mk ((by rw [hg]; exact Nat.ne_of_lt (blk_lt (g := gb121) (o := .cells #[.bool a2_0, .int .i64 a2_1, .bool a2_2, .int .i64 a2_3, .slice A2_4 l2_4.length c2_4] 25 (0, 0)) (by (with_reducible repeat (first | refine blk_drewN ?_ _ | refine blk_drew ?_ | refine blk_alloc ?_ _)); exact BK121.out)) : gb121 ≠ gb123)); have n8_ := Aside0.mk ((by rw [hg]; exact Nat.ne_of_gt (blk_lt (g := gb121) (o := .cells #[.bool a2_0, .int .i64 a2_1, .bool a2_2, .int .i64 a2_3, .slice A2_4 l2_4.length c2_4] 25 (0, 0)) (by (with_reducible repeat (first | refine blk_drewN ?_ _ | refine blk_drew ?_ | refine blk_alloc ?_ _)); exact BK121.out)) : gb123 ≠ gb121)); clear HO_7; clear HO_122004; clear BK121; clear HB; have HO_7 := n0_; have HO_122004 := n1_; have BK121 := n2_; have HB := n3_; have BK123 := n4_; have GW123 := n5_; have GE123 := n6_; have NB121_123 := n7_; have NB123_121 := n8_; clear n0_ n1_ n2_ n3_ n4_ n5_ n6_ n7_ n8_; clear hb hbox hg; have hnb10 := NB123_121.out; have hnc10 := NB121_123.out; have hcz11_0 : w9.cell? ⟨gb123, 0, none⟩ = some (.int .i64 0) := (blk_cell BK123.out 0).trans rfl; have hcz11_1 : w9.cell? ⟨gb123, 1, none⟩ = some (.int .i64 0) := (blk_cell BK123.out 1).trans rfl; have hcz11_2 : w9.cell? ⟨gb123, 2, none⟩ = some (.bool false) := (blk_cell BK123.out 2).trans rfl; have hcz11_3 : w9.cell? ⟨gb123, 3, none⟩ = some (.int .i64 0) := (blk_cell BK123.out 3).trans rfl; have hcz11_4 : w9.cell? ⟨gb123, 4, none⟩ = some (.int .i64 0) := (blk_cell BK123.out 4).trans rfl; have hcz11_5 : w9.cell? ⟨gb123, 5, none⟩ = some (.int .i64 0) := (blk_cell BK123.out 5).trans rfl; have hfz11_0 := blk_frozen BK123.out 0; have hfz11_1 := blk_frozen BK123.out 1; have hfz11_2 := blk_frozen BK123.out 2; have hfz11_3 := blk_frozen BK123.out 3; have hfz11_4 := blk_frozen BK123.out 4; have hfz11_5 := blk_frozen BK123.out 5))
            (try simp only [Act.put, List.setIfInBounds_toArray, List.set_cons_zero, List.set_cons_succ])
            go_cut [27] (fun v27 wc => ∃ (kq : Nat) (x27_7 : Bool), v27 = .bool x27_7 ∧ Aside0 (route_Hops.j1 kq a1 x7_1 l0 (l0.length : Int) x13_1 x27_7 a2_0 a2_1 a2_2 a2_3 l2_4 ((rd_T45 l0 x13_1).f0) ((rd_T45 l0 x13_1).f1) ((rd_T45 l0 x13_1).f2.f0) ((rd_T45 l0 x13_1).f2.f1) ((rd_T45 l0 x13_1).f2.f2) ((rd_T45 l0 x13_1).f3) = some r) ∧ Aside0 (kq ≤ k1) ∧ Aside0 (Kd.N k38 38 wc w.heap.size (fun k_ => (P2_4_ k_ ∨ w.heap.size ≤ k_) ∧ k_ ≠ gb121 ∧ k_ ≠ gb123) u7 x7_1) ∧ Aside0 (Kd.V (Kd.int .u8) 5 wc w.heap.size (fun k_ => (P2_4_ k_ ∨ w.heap.size ≤ k_) ∧ some k_ ≠ (u7 : Value).ownBlock ∧ k_ ≠ gb121 ∧ k_ ≠ gb123) (.slice A2_4 l2_4.length c2_4) l2_4) ∧ Aside0 (wc.heap[gb121]? = some (.cells #[.bool a2_0, .int .i64 a2_1, .bool a2_2, .int .i64 a2_3, (.slice A2_4 l2_4.length c2_4)] 25 (0, 0))) ∧ Aside0 (wc.heap[gb123]? = some (.cells #[.int .i64 ((rd_T45 l0 x13_1).f0), .int .i64 ((rd_T45 l0 x13_1).f1), .bool ((rd_T45 l0 x13_1).f2.f0), .int .i64 ((rd_T45 l0 x13_1).f2.f1), .int .i64 ((rd_T45 l0 x13_1).f2.f2), .int .i64 ((rd_T45 l0 x13_1).f3)] 45 (0, 0))) ∧ Aside0 (Below w.heap.size w wc))
            case first =>
              have H := HC8.out
              clear HC8
              by_cases c12 : ((rd_T45 l0 x13_1).f0) = a1
              · rw [if_pos c12] at H
                have c12b0 : (((rd_T45 l0 x13_1).f0) == a1) = true := beq_iff_eq.mpr c12
                have c12b1 : (((rd_T45 l0 x13_1).f0) != a1) = false := bne_eq_false_iff_eq.mpr c12
                clear c12
                (first | rw [c12b0] | (simp only [i64_w, i32_w]; rw [c12b0]) | skip)
                replace H := Option.bind_eq_some_iff.mp H
                obtain ⟨t124, A130, H⟩ := H
                replace H : (route_Hops.j1 k1 a1 x7_1 l0 (l0.length : Int) x13_1 (!t124) a2_0 a2_1 a2_2 a2_3 l2_4 ((rd_T45 l0 x13_1).f0) ((rd_T45 l0 x13_1).f1) ((rd_T45 l0 x13_1).f2.f0) ((rd_T45 l0 x13_1).f2.f1) ((rd_T45 l0 x13_1).f2.f2) ((rd_T45 l0 x13_1).f3)) = some r := H
                have A13 := Aside0.mk A130
                clear A130
                have H' := Aside0.mk H
                clear H
                have hnb14 := NB123_121.out
                have hnc14 := NB121_123.out
                have hcz15_0 : w9.cell? ⟨gb123, 0, none⟩ = some (.int .i64 0) := (blk_cell BK123.out 0).trans rfl
                have hcz15_1 : w9.cell? ⟨gb123, 1, none⟩ = some (.int .i64 0) := (blk_cell BK123.out 1).trans rfl
                have hcz15_2 : w9.cell? ⟨gb123, 2, none⟩ = some (.bool false) := (blk_cell BK123.out 2).trans rfl
                have hcz15_3 : w9.cell? ⟨gb123, 3, none⟩ = some (.int .i64 0) := (blk_cell BK123.out 3).trans rfl
                have hcz15_4 : w9.cell? ⟨gb123, 4, none⟩ = some (.int .i64 0) := (blk_cell BK123.out 4).trans rfl
                have hcz15_5 : w9.cell? ⟨gb123, 5, none⟩ = some (.int .i64 0) := (blk_cell BK123.out 5).trans rfl
                have hfz15_0 := blk_frozen BK123.out 0
                have hfz15_1 := blk_frozen BK123.out 1
                have hfz15_2 := blk_frozen BK123.out 2
                have hfz15_3 := blk_frozen BK123.out 3
                have hfz15_4 := blk_frozen BK123.out 4
                have hfz15_5 := blk_frozen BK123.out 5
                have hcz16_0 : w9.cell? ⟨gb121, 0, none⟩ = some (.bool a2_0) := (blk_cell BK121.out 0).trans rfl
                have hcz16_1 : w9.cell? ⟨gb121, 1, none⟩ = some (.int .i64 a2_1) := (blk_cell BK121.out 1).trans rfl
                have hcz16_2 : w9.cell? ⟨gb121, 2, none⟩ = some (.bool a2_2) := (blk_cell BK121.out 2).trans rfl
                have hcz16_3 : w9.cell? ⟨gb121, 3, none⟩ = some (.int .i64 a2_3) := (blk_cell BK121.out 3).trans rfl
                have hcz16_4 : w9.cell? ⟨gb121, 4, none⟩ = some (.slice A2_4 l2_4.length c2_4) := (blk_cell BK121.out 4).trans rfl
                have hfz16_0 := blk_frozen BK121.out 0
                have hfz16_1 := blk_frozen BK121.out 1
                have hfz16_2 := blk_frozen BK121.out 2
                have hfz16_3 := blk_frozen BK121.out 3
                have hfz16_4 := blk_frozen BK121.out 4
                go_wp2_with (first | (go_at_call 29; (with_reducible refine (filter_Takes.calls ((rd_T45 l0 x13_1).f2.f0) ((rd_T45 l0 x13_1).f2.f1) ((rd_T45 l0 x13_1).f2.f2) a2_0 a2_1 a2_2 a2_3 _ _ l2_4 t124 _ ?side1 ?side2 A13.out).mono ?_); (case side1 => refine (Kd.V_reads' (e := 5) (base := w.heap.size) (ok := fun k_ => (((P2_4_ k_ ∨ w.heap.size ≤ k_) ∧ (some k_ ≠ (u7 : Value).ownBlock ∧ k_ ≠ gb121)) ∧ k_ ≠ gb123)) (n := l2_4.length) (c := c2_4) ?_).2.2; exact (by (with_reducible repeat (first | apply Kd.V_alloc | apply Kd.V_drewN | apply Kd.V_drew)); exact (Kd.V_mono (Kd.V_far (p := ⟨gb123, 5, none⟩) (Kd.V_far (p := ⟨gb123, 4, none⟩) (Kd.V_far (p := ⟨gb123, 3, none⟩) (Kd.V_far (p := ⟨gb123, 2, none⟩) (Kd.V_far (p := ⟨gb123, 1, none⟩) (Kd.V_far (p := ⟨gb123, 0, none⟩) (Kd.V_mono HO_122004.out (fun k_ hk => (⟨hk, hk.2⟩ : _ ∧ k_ ≠ gb123))) (fun _ hk => hk.2) (.int .i64 ((rd_T45 l0 x13_1).f0))) (fun _ hk => hk.2) (.int .i64 ((rd_T45 l0 x13_1).f1))) (fun _ hk => hk.2) (.bool ((rd_T45 l0 x13_1).f2.f0))) (fun _ hk => hk.2) (.int .i64 ((rd_T45 l0 x13_1).f2.f1))) (fun _ hk => hk.2) (.int .i64 ((rd_T45 l0 x13_1).f2.f2))) (fun _ hk => hk.2) (.int .i64 ((rd_T45 l0 x13_1).f3))) (fun _ h_ => h_.1)))); (case side2 => exact (Kd.V_reads' HO_122004.out).2.1); rintro e w17 ⟨rfl, hb⟩; have n0_ := Aside0.mk (Kd.N_below (by (with_reducible repeat (first | apply Kd.N_alloc | apply Kd.N_drewN | apply Kd.N_drew)); exact (Kd.N_mono (Kd.N_far (p := ⟨gb123, 5, none⟩) (Kd.N_far (p := ⟨gb123, 4, none⟩) (Kd.N_far (p := ⟨gb123, 3, none⟩) (Kd.N_far (p := ⟨gb123, 2, none⟩) (Kd.N_far (p := ⟨gb123, 1, none⟩) (Kd.N_far (p := ⟨gb123, 0, none⟩) (Kd.N_mono HO_7.out (fun k_ hk => (⟨hk, hk.2⟩ : _ ∧ k_ ≠ gb123))) (fun _ hk => hk.2) (.int .i64 ((rd_T45 l0 x13_1).f0))) (fun _ hk => hk.2) (.int .i64 ((rd_T45 l0 x13_1).f1))) (fun _ hk => hk.2) (.bool ((rd_T45 l0 x13_1).f2.f0))) (fun _ hk => hk.2) (.int .i64 ((rd_T45 l0 x13_1).f2.f1))) (fun _ hk => hk.2) (.int .i64 ((rd_T45 l0 x13_1).f2.f2))) (fun _ hk => hk.2) (.int .i64 ((rd_T45 l0 x13_1).f3))) (fun _ h_ => h_.1))) hb); have n1_ := Aside0.mk (Kd.V_below (by (with_reducible repeat (first | apply Kd.V_alloc | apply Kd.V_drewN | apply Kd.V_drew)); exact (Kd.V_mono (Kd.V_far (p := ⟨gb123, 5, none⟩) (Kd.V_far (p := ⟨gb123, 4, none⟩) (Kd.V_far (p := ⟨gb123, 3, none⟩) (Kd.V_far (p := ⟨gb123, 2, none⟩) (Kd.V_far (p := ⟨gb123, 1, none⟩) (Kd.V_far (p := ⟨gb123, 0, none⟩) (Kd.V_mono HO_122004.out (fun k_ hk => (⟨hk, hk.2⟩ : _ ∧ k_ ≠ gb123))) (fun _ hk => hk.2) (.int .i64 ((rd_T45 l0 x13_1).f0))) (fun _ hk => hk.2) (.int .i64 ((rd_T45 l0 x13_1).f1))) (fun _ hk => hk.2) (.bool ((rd_T45 l0 x13_1).f2.f0))) (fun _ hk => hk.2) (.int .i64 ((rd_T45 l0 x13_1).f2.f1))) (fun _ hk => hk.2) (.int .i64 ((rd_T45 l0 x13_1).f2.f2))) (fun _ hk => hk.2) (.int .i64 ((rd_T45 l0 x13_1).f3))) (fun _ h_ => h_.1))) hb); have n2_ := Aside0.mk (blk_below (g := gb121) (o := .cells #[.bool a2_0, .int .i64 a2_1, .bool a2_2, .int .i64 a2_3, .slice A2_4 l2_4.length c2_4] 25 (0, 0)) (by (with_reducible repeat (first | refine blk_drewN ?_ _ | refine blk_drew ?_ | refine blk_alloc ?_ _)); refine blk_far ?_ NB121_123.out _; (with_reducible repeat (first | refine blk_drewN ?_ _ | refine blk_drew ?_ | refine blk_alloc ?_ _)); refine blk_far ?_ NB121_123.out _; (with_reducible repeat (first | refine blk_drewN ?_ _ | refine blk_drew ?_ | refine blk_alloc ?_ _)); refine blk_far ?_ NB121_123.out _; (with_reducible repeat (first | refine blk_drewN ?_ _ | refine blk_drew ?_ | refine blk_alloc ?_ _)); refine blk_far ?_ NB121_123.out _; (with_reducible repeat (first | refine blk_drewN ?_ _ | refine blk_drew ?_ | refine blk_alloc ?_ _)); refine blk_far ?_ NB121_123.out _; (with_reducible repeat (first | refine blk_drewN ?_ _ | refine blk_drew ?_ | refine blk_alloc ?_ _)); refine blk_far ?_ NB121_123.out _; (with_reducible repeat (first | refine blk_drewN ?_ _ | refine blk_drew ?_ | refine blk_alloc ?_ _)); exact BK121.out) hb); have n3_ := Aside0.mk (blk_below (g := gb123) (o := .cells #[.int .i64 ((rd_T45 l0 x13_1).f0), .int .i64 ((rd_T45 l0 x13_1).f1), .bool ((rd_T45 l0 x13_1).f2.f0), .int .i64 ((rd_T45 l0 x13_1).f2.f1), .int .i64 ((rd_T45 l0 x13_1).f2.f2), .int .i64 ((rd_T45 l0 x13_1).f3)] 45 (0, 0)) (by (with_reducible repeat (first | refine blk_drewN ?_ _ | refine blk_drew ?_ | refine blk_alloc ?_ _)); refine blk_put (cs := #[.int .i64 ((rd_T45 l0 x13_1).f0), .int .i64 ((rd_T45 l0 x13_1).f1), .bool ((rd_T45 l0 x13_1).f2.f0), .int .i64 ((rd_T45 l0 x13_1).f2.f1), .int .i64 ((rd_T45 l0 x13_1).f2.f2), .int .i64 0]) ?_ 5 _ rfl; (with_reducible repeat (first | refine blk_drewN ?_ _ | refine blk_drew ?_ | refine blk_alloc ?_ _)); refine blk_put (cs := #[.int .i64 ((rd_T45 l0 x13_1).f0), .int .i64 ((rd_T45 l0 x13_1).f1), .bool ((rd_T45 l0 x13_1).f2.f0), .int .i64 ((rd_T45 l0 x13_1).f2.f1), .int .i64 0, .int .i64 0]) ?_ 4 _ rfl; (with_reducible repeat (first | refine blk_drewN ?_ _ | refine blk_drew ?_ | refine blk_alloc ?_ _)); refine blk_put (cs := #[.int .i64 ((rd_T45 l0 x13_1).f0), .int .i64 ((rd_T45 l0 x13_1).f1), .bool ((rd_T45 l0 x13_1).f2.f0), .int .i64 0, .int .i64 0, .int .i64 0]) ?_ 3 _ rfl; (with_reducible repeat (first | refine blk_drewN ?_ _ | refine blk_drew ?_ | refine blk_alloc ?_ _)); refine blk_put (cs := #[.int .i64 ((rd_T45 l0 x13_1).f0), .int .i64 ((rd_T45 l0 x13_1).f1), .bool false, .int .i64 0, .int .i64 0, .int .i64 0]) ?_ 2 _ rfl; (with_reducible repeat (first | refine blk_drewN ?_ _ | refine blk_drew ?_ | refine blk_alloc ?_ _)); refine blk_put (cs := #[.int .i64 ((rd_T45 l0 x13_1).f0), .int .i64 0, .bool false, .int .i64 0, .int .i64 0, .int .i64 0]) ?_ 1 _ rfl; (with_reducible repeat (first | refine blk_drewN ?_ _ | refine blk_drew ?_ | refine blk_alloc ?_ _)); refine blk_put (cs := #[.int .i64 0, .int .i64 0, .bool false, .int .i64 0, .int .i64 0, .int .i64 0]) ?_ 0 _ rfl; (with_reducible repeat (first | refine blk_drewN ?_ _ | refine blk_drew ?_ | refine blk_alloc ?_ _)); exact BK123.out) hb); have n4_ := Aside0.mk (below_step (by repeat (first | (with_reducible first | exact HB.out | apply below_alloc | apply pw_below_drewN | apply below_drew1 | refine below_set ?_ GE121.out | refine below_set ?_ GE123.out) | exact HB.out)) hb); clear HO_7; clear HO_122004; clear BK121; clear BK123; clear HB; have HO_7 := n0_; have HO_122004 := n1_; have BK121 := n2_; have BK123 := n3_; have HB := n4_; clear n0_ n1_ n2_ n3_ n4_; (try clear hb); (try clear hb2); (try clear hk); (try clear hi)))
                go_meet
                case rel => exact ⟨_, (!t124), (by first | rfl | (simp; done) | (simp [*]; done)), H', ⟨by have := HK1.out; first | omega | exact Nat.le_refl _⟩, ⟨by (with_reducible repeat (first | apply Kd.N_alloc | apply Kd.N_drewN | apply Kd.N_drew)); exact Kd.N_mono HO_7.out (fun _ hk => ⟨hk.1.1, ⟨hk.1.2, hk.2⟩⟩)⟩, ⟨by (with_reducible repeat (first | apply Kd.V_alloc | apply Kd.V_drewN | apply Kd.V_drew)); exact Kd.V_mono HO_122004.out (fun _ hk => ⟨hk.1.1, ⟨hk.1.2.1, ⟨hk.1.2.2, hk.2⟩⟩⟩)⟩, ⟨by (with_reducible repeat (first | refine blk_drewN ?_ _ | refine blk_drew ?_ | refine blk_alloc ?_ _)); exact BK121.out⟩, ⟨by (with_reducible repeat (first | refine blk_drewN ?_ _ | refine blk_drew ?_ | refine blk_alloc ?_ _)); exact BK123.out⟩, ⟨by repeat (first | (with_reducible first | exact HB.out | apply below_alloc | apply pw_below_drewN | apply below_drew1 | refine below_set ?_ GE121.out | refine below_set ?_ GE123.out) | exact HB.out)⟩⟩
              · rw [if_neg c12] at H
                have c12b0 : (((rd_T45 l0 x13_1).f0) == a1) = false := beq_eq_false_iff_ne.mpr c12
                have c12b1 : (((rd_T45 l0 x13_1).f0) != a1) = true := bne_iff_ne.mpr c12
                (first | rw [c12b0] | (simp only [i64_w, i32_w]; rw [c12b0]) | skip)
                have H' := Aside0.mk H
                clear H
                have hnb18 := NB123_121.out
                have hnc18 := NB121_123.out
                have hcz19_0 : w9.cell? ⟨gb123, 0, none⟩ = some (.int .i64 0) := (blk_cell BK123.out 0).trans rfl
                have hcz19_1 : w9.cell? ⟨gb123, 1, none⟩ = some (.int .i64 0) := (blk_cell BK123.out 1).trans rfl
                have hcz19_2 : w9.cell? ⟨gb123, 2, none⟩ = some (.bool false) := (blk_cell BK123.out 2).trans rfl
                have hcz19_3 : w9.cell? ⟨gb123, 3, none⟩ = some (.int .i64 0) := (blk_cell BK123.out 3).trans rfl
                have hcz19_4 : w9.cell? ⟨gb123, 4, none⟩ = some (.int .i64 0) := (blk_cell BK123.out 4).trans rfl
                have hcz19_5 : w9.cell? ⟨gb123, 5, none⟩ = some (.int .i64 0) := (blk_cell BK123.out 5).trans rfl
                have hfz19_0 := blk_frozen BK123.out 0
                have hfz19_1 := blk_frozen BK123.out 1
                have hfz19_2 := blk_frozen BK123.out 2
                have hfz19_3 := blk_frozen BK123.out 3
                have hfz19_4 := blk_frozen BK123.out 4
                have hfz19_5 := blk_frozen BK123.out 5
                go_wp2
                go_meet
                case rel => exact ⟨_, (true), (by first | rfl | (simp; done) | (simp [*]; done)), H', ⟨by have := HK1.out; first | omega | exact Nat.le_refl _⟩, ⟨by (with_reducible repeat (first | apply Kd.N_alloc | apply Kd.N_drewN | apply Kd.N_drew)); exact Kd.N_mono (Kd.N_far (p := ⟨gb123, 5, none⟩) (Kd.N_far (p := ⟨gb123, 4, none⟩) (Kd.N_far (p := ⟨gb123, 3, none⟩) (Kd.N_far (p := ⟨gb123, 2, none⟩) (Kd.N_far (p := ⟨gb123, 1, none⟩) (Kd.N_far (p := ⟨gb123, 0, none⟩) (Kd.N_mono HO_7.out (fun k_ hk => (⟨hk, hk.2⟩ : _ ∧ k_ ≠ gb123))) (fun _ hk => hk.2) (.int .i64 ((rd_T45 l0 x13_1).f0))) (fun _ hk => hk.2) (.int .i64 ((rd_T45 l0 x13_1).f1))) (fun _ hk => hk.2) (.bool ((rd_T45 l0 x13_1).f2.f0))) (fun _ hk => hk.2) (.int .i64 ((rd_T45 l0 x13_1).f2.f1))) (fun _ hk => hk.2) (.int .i64 ((rd_T45 l0 x13_1).f2.f2))) (fun _ hk => hk.2) (.int .i64 ((rd_T45 l0 x13_1).f3))) (fun _ hk => ⟨hk.1.1.1, ⟨hk.1.1.2, hk.1.2⟩⟩)⟩, ⟨by (with_reducible repeat (first | apply Kd.V_alloc | apply Kd.V_drewN | apply Kd.V_drew)); exact Kd.V_mono (Kd.V_far (p := ⟨gb123, 5, none⟩) (Kd.V_far (p := ⟨gb123, 4, none⟩) (Kd.V_far (p := ⟨gb123, 3, none⟩) (Kd.V_far (p := ⟨gb123, 2, none⟩) (Kd.V_far (p := ⟨gb123, 1, none⟩) (Kd.V_far (p := ⟨gb123, 0, none⟩) (Kd.V_mono HO_122004.out (fun k_ hk => (⟨hk, hk.2⟩ : _ ∧ k_ ≠ gb123))) (fun _ hk => hk.2) (.int .i64 ((rd_T45 l0 x13_1).f0))) (fun _ hk => hk.2) (.int .i64 ((rd_T45 l0 x13_1).f1))) (fun _ hk => hk.2) (.bool ((rd_T45 l0 x13_1).f2.f0))) (fun _ hk => hk.2) (.int .i64 ((rd_T45 l0 x13_1).f2.f1))) (fun _ hk => hk.2) (.int .i64 ((rd_T45 l0 x13_1).f2.f2))) (fun _ hk => hk.2) (.int .i64 ((rd_T45 l0 x13_1).f3))) (fun _ hk => ⟨hk.1.1.1, ⟨hk.1.1.2.1, ⟨hk.1.1.2.2, hk.1.2⟩⟩⟩)⟩, ⟨by (with_reducible repeat (first | refine blk_drewN ?_ _ | refine blk_drew ?_ | refine blk_alloc ?_ _)); refine blk_far ?_ NB121_123.out _; (with_reducible repeat (first | refine blk_drewN ?_ _ | refine blk_drew ?_ | refine blk_alloc ?_ _)); refine blk_far ?_ NB121_123.out _; (with_reducible repeat (first | refine blk_drewN ?_ _ | refine blk_drew ?_ | refine blk_alloc ?_ _)); refine blk_far ?_ NB121_123.out _; (with_reducible repeat (first | refine blk_drewN ?_ _ | refine blk_drew ?_ | refine blk_alloc ?_ _)); refine blk_far ?_ NB121_123.out _; (with_reducible repeat (first | refine blk_drewN ?_ _ | refine blk_drew ?_ | refine blk_alloc ?_ _)); refine blk_far ?_ NB121_123.out _; (with_reducible repeat (first | refine blk_drewN ?_ _ | refine blk_drew ?_ | refine blk_alloc ?_ _)); refine blk_far ?_ NB121_123.out _; (with_reducible repeat (first | refine blk_drewN ?_ _ | refine blk_drew ?_ | refine blk_alloc ?_ _)); exact BK121.out⟩, ⟨by (with_reducible repeat (first | refine blk_drewN ?_ _ | refine blk_drew ?_ | refine blk_alloc ?_ _)); refine blk_put (cs := #[.int .i64 ((rd_T45 l0 x13_1).f0), .int .i64 ((rd_T45 l0 x13_1).f1), .bool ((rd_T45 l0 x13_1).f2.f0), .int .i64 ((rd_T45 l0 x13_1).f2.f1), .int .i64 ((rd_T45 l0 x13_1).f2.f2), .int .i64 0]) ?_ 5 _ rfl; (with_reducible repeat (first | refine blk_drewN ?_ _ | refine blk_drew ?_ | refine blk_alloc ?_ _)); refine blk_put (cs := #[.int .i64 ((rd_T45 l0 x13_1).f0), .int .i64 ((rd_T45 l0 x13_1).f1), .bool ((rd_T45 l0 x13_1).f2.f0), .int .i64 ((rd_T45 l0 x13_1).f2.f1), .int .i64 0, .int .i64 0]) ?_ 4 _ rfl; (with_reducible repeat (first | refine blk_drewN ?_ _ | refine blk_drew ?_ | refine blk_alloc ?_ _)); refine blk_put (cs := #[.int .i64 ((rd_T45 l0 x13_1).f0), .int .i64 ((rd_T45 l0 x13_1).f1), .bool ((rd_T45 l0 x13_1).f2.f0), .int .i64 0, .int .i64 0, .int .i64 0]) ?_ 3 _ rfl; (with_reducible repeat (first | refine blk_drewN ?_ _ | refine blk_drew ?_ | refine blk_alloc ?_ _)); refine blk_put (cs := #[.int .i64 ((rd_T45 l0 x13_1).f0), .int .i64 ((rd_T45 l0 x13_1).f1), .bool false, .int .i64 0, .int .i64 0, .int .i64 0]) ?_ 2 _ rfl; (with_reducible repeat (first | refine blk_drewN ?_ _ | refine blk_drew ?_ | refine blk_alloc ?_ _)); refine blk_put (cs := #[.int .i64 ((rd_T45 l0 x13_1).f0), .int .i64 0, .bool false, .int .i64 0, .int .i64 0, .int .i64 0]) ?_ 1 _ rfl; (with_reducible repeat (first | refine blk_drewN ?_ _ | refine blk_drew ?_ | refine blk_alloc ?_ _)); refine blk_put (cs := #[.int .i64 0, .int .i64 0, .bool false, .int .i64 0, .int .i64 0, .int .i64 0]) ?_ 0 _ rfl; (with_reducible repeat (first | refine blk_drewN ?_ _ | refine blk_drew ?_ | refine blk_alloc ?_ _)); exact BK123.out⟩, ⟨by repeat (first | (with_reducible first | exact HB.out | apply below_alloc | apply pw_below_drewN | apply below_drew1 | refine below_set ?_ GE121.out | refine below_set ?_ GE123.out) | exact HB.out)⟩⟩
            case rest =>
              clear HC8
              try clear c1
              try clear p1
              try clear q1
              try clear hx1
              try clear c2
              try clear p2
              try clear c5
              try clear c5b0
              try clear c6
              try clear c6b0
              try clear c7
              try clear c7b0
              try clear c10
              try clear c12
              try clear c12b0
              try clear c12b1
              try clear p12
              try clear q12
              try clear hx12
              try clear c14
              try clear c18
              try clear hcz11_0
              try clear hcz11_1
              try clear hcz11_2
              try clear hcz11_3
              try clear hcz11_4
              try clear hcz11_5
              try clear hcz15_0
              try clear hcz15_1
              try clear hcz15_2
              try clear hcz15_3
              try clear hcz15_4
              try clear hcz15_5
              try clear hcz16_0
              try clear hcz16_1
              try clear hcz16_2
              try clear hcz16_3
              try clear hcz16_4
              try clear hcz19_0
              try clear hcz19_1
              try clear hcz19_2
              try clear hcz19_3
              try clear hcz19_4
              try clear hcz19_5
              try clear hfz11_0
              try clear hfz11_1
              try clear hfz11_2
              try clear hfz11_3
              try clear hfz11_4
              try clear hfz11_5
              try clear hfz15_0
              try clear hfz15_1
              try clear hfz15_2
              try clear hfz15_3
              try clear hfz15_4
              try clear hfz15_5
              try clear hfz16_0
              try clear hfz16_1
              try clear hfz16_2
              try clear hfz16_3
              try clear hfz16_4
              try clear hfz19_0
              try clear hfz19_1
              try clear hfz19_2
              try clear hfz19_3
              try clear hfz19_4
              try clear hfz19_5
              try clear hx122_0
              try clear hx122_1
              try clear hx122_2
              try clear hx122_3
              try clear hx122_4
              try clear hx122_5
              try clear p122
              try clear p2
              try clear q122
              obtain ⟨kq, x27_7, rfl, HA, HJ7, HO_7, HO_122004, BK121, BK123, HB⟩ := hcut
              cases kq with
              | zero => exact absurd HA.out (by simp [route_Hops.j1])
              | succ kj7 =>
                have H := HA.out
                clear HA
                simp only [route_Hops.j1] at H
                by_cases c20 : x27_7 = true
                · subst c20
                  have H1 : (route_Hops.l0 kj7 a1 x7_1 l0 (l0.length : Int) (wrap64 (x13_1 + 1)) a2_0 a2_1 a2_2 a2_3 l2_4) = some r := by rw [if_pos rfl] at H; exact H
                  clear H
                  have H := H1
                  clear H1
                  have H' := Aside0.mk H
                  clear H
                  go_wp2
                  go_roundg kj7
                  case measure => have := HK1.out; have := HJ7.out; omega
                  case rel => exact ⟨(x7_1), (wrap64 (x13_1 + 1)), (by first | rfl | (simp; done) | (simp [*]; done)), H', ⟨by have := HK1.out; have := HJ7.out; omega⟩, ⟨by (with_reducible repeat (first | apply Kd.N_alloc | apply Kd.N_drewN | apply Kd.N_drew)); exact Kd.N_mono HO_7.out (fun _ hk => ⟨hk.1, hk.2.1⟩)⟩, ⟨by (with_reducible repeat (first | apply Kd.V_alloc | apply Kd.V_drewN | apply Kd.V_drew)); exact Kd.V_mono HO_122004.out (fun _ hk => ⟨hk.1, ⟨hk.2.1, hk.2.2.1⟩⟩)⟩, ⟨by (with_reducible repeat (first | refine blk_drewN ?_ _ | refine blk_drew ?_ | refine blk_alloc ?_ _)); exact BK121.out⟩, ⟨by repeat (first | (with_reducible first | exact HB.out | apply below_alloc | apply pw_below_drewN | apply below_drew1 | refine below_set ?_ GE121.out | refine below_set ?_ GE123.out) | exact HB.out)⟩⟩
                · replace c20 := Bool.eq_false_iff.mpr c20
                  subst c20
                  have H1 : (if ((rd_T45 l0 x13_1).f3) = (-1) then (if x7_1.length < 2199023255552 then (route_Hops.l0 kj7 a1 (x7_1 ++ [(⟨((rd_T45 l0 x13_1).f1), (⟨a2_0, a2_1, a2_2, a2_3, l2_4⟩ : S25)⟩ : S38)]) l0 (l0.length : Int) (wrap64 (x13_1 + 1)) a2_0 a2_1 a2_2 a2_3 l2_4) else (none)) else (if x7_1.length < 2199023255552 then (route_Hops.l0 kj7 a1 (x7_1 ++ [(⟨((rd_T45 l0 x13_1).f1), (⟨a2_0, ((rd_T45 l0 x13_1).f3), a2_2, a2_3, l2_4⟩ : S25)⟩ : S38)]) l0 (l0.length : Int) (wrap64 (x13_1 + 1)) a2_0 a2_1 a2_2 a2_3 l2_4) else (none))) = some r := by rw [if_neg (show ¬ (false = true) by decide)] at H; exact H
                  clear H
                  have H := H1
                  clear H1
                  by_cases c21 : ((rd_T45 l0 x13_1).f3) = (-1)
                  · rw [if_pos c21] at H
                    have c21b0 : (((rd_T45 l0 x13_1).f3) == (-1)) = true := beq_iff_eq.mpr c21
                    have c21b1 : (((rd_T45 l0 x13_1).f3) != (-1)) = false := bne_eq_false_iff_eq.mpr c21
                    clear c21
                    by_cases c22 : x7_1.length < 2199023255552
                    · rw [if_pos c22] at H
                      have LMc22 := Aside0.mk c22
                      clear c22
                      obtain ⟨y126, hy126⟩ : ∃ y_ : List (S38), y_ = (x7_1 ++ [(⟨((rd_T45 l0 x13_1).f1), (⟨a2_0, a2_1, a2_2, a2_3, l2_4⟩ : S25)⟩ : S38)]) := ⟨_, rfl⟩
                      replace H : (route_Hops.l0 kj7 a1 y126 l0 (l0.length : Int) (wrap64 (x13_1 + 1)) a2_0 a2_1 a2_2 a2_3 l2_4) = some r := by first | (rw [hy126]; with_reducible exact H) | (have H2_ := (Option.bind_some _ _).symm.trans H; rw [hy126]; with_reducible exact H2_) | (have H2_ := (Option.bind_some _ _).symm.trans H; with_reducible exact H2_) | with_reducible exact H | (rw [hy126]; exact H) | exact H
                      have Ny126 := Aside0.mk hy126
                      clear hy126
                      have H' := Aside0.mk H
                      clear H
                      have hnb23 := NB121_123.out
                      have hnc23 := NB123_121.out
                      have hcz24_0 : wc.cell? ⟨gb121, 0, none⟩ = some (.bool a2_0) := (blk_cell BK121.out 0).trans rfl
                      have hcz24_1 : wc.cell? ⟨gb121, 1, none⟩ = some (.int .i64 a2_1) := (blk_cell BK121.out 1).trans rfl
                      have hcz24_2 : wc.cell? ⟨gb121, 2, none⟩ = some (.bool a2_2) := (blk_cell BK121.out 2).trans rfl
                      have hcz24_3 : wc.cell? ⟨gb121, 3, none⟩ = some (.int .i64 a2_3) := (blk_cell BK121.out 3).trans rfl
                      have hcz24_4 : wc.cell? ⟨gb121, 4, none⟩ = some (.slice A2_4 l2_4.length c2_4) := (blk_cell BK121.out 4).trans rfl
                      have hfz24_0 := blk_frozen BK121.out 0
                      have hfz24_1 := blk_frozen BK121.out 1
                      have hfz24_2 := blk_frozen BK121.out 2
                      have hfz24_3 := blk_frozen BK121.out 3
                      have hfz24_4 := blk_frozen BK121.out 4
                      go_wp2_with (first | ((with_reducible refine gate_dst (N := 10) rfl ?_); refine box_event ?hg (N := 10) ?hd (cs := #[.bool false, .int .i64 0, .bool false, .int .i64 0, .slice none 0 0]) (t := 25) ?hr ?_; (case hd => rfl); (case hg => rfl); (case hr => first | (go_simp; done) | (go_simp; rfl)); intro gb125 hg w25 hbox hb; have n0_ := Aside0.mk (Kd.N_below (Kd.N_elderB (by (with_reducible repeat (first | apply Kd.N_alloc | apply Kd.N_drewN | apply Kd.N_drew)); exact HO_7.out) gb125 (Nat.le_of_eq hg.symm)) hb); have n1_ := Aside0.mk (Kd.V_below (Kd.V_elderB (by (with_reducible repeat (first | apply Kd.V_alloc | apply Kd.V_drewN | apply Kd.V_drew)); exact HO_122004.out) gb125 (Nat.le_of_eq hg.symm)) hb); have n2_ := Aside0.mk (blk_below (g := gb121) (o := .cells #[.bool a2_0, .int .i64 a2_1, .bool a2_2, .int .i64 a2_3, .slice A2_4 l2_4.length c2_4] 25 (0, 0)) (by (with_reducible repeat (first | refine blk_drewN ?_ _ | refine blk_drew ?_ | refine blk_alloc ?_ _)); exact BK121.out) hb); have n3_ := Aside0.mk (blk_below (g := gb123) (o := .cells #[.int .i64 ((rd_T45 l0 x13_1).f0), .int .i64 ((rd_T45 l0 x13_1).f1), .bool ((rd_T45 l0 x13_1).f2.f0), .int .i64 ((rd_T45 l0 x13_1).f2.f1), .int .i64 ((rd_T45 l0 x13_1).f2.f2), .int .i64 ((rd_T45 l0 x13_1).f3)] 45 (0, 0)) (by (with_reducible repeat (first | refine blk_drewN ?_ _ | refine blk_drew ?_ | refine blk_alloc ?_ _)); exact BK123.out) hb); have n4_ := Aside0.mk (below_step (by repeat (first | (with_reducible first | exact HB.out | apply below_alloc | apply pw_below_drewN | apply below_drew1 | refine below_set ?_ GE121.out | refine below_set ?_ GE123.out) | exact HB.out)) hb); have n5_ := Aside0.mk (hbox); have n6_ := Aside0.mk ((by rw [hg]; exact (below_size (by repeat (first | (with_reducible first | exact HB.out | apply below_alloc | apply pw_below_drewN | apply below_drew1 | refine below_set ?_ GE121.out | refine below_set ?_ GE123.out) | exact HB.out))) : w.heap.size ≤ gb125)); have n7_ := Aside0.mk ((by rw [hg]; exact (below_size (by repeat (first | (with_reducible first | exact HB.out | apply below_alloc | apply pw_below_drewN | apply below_drew1 | refine below_set ?_ GE121.out | refine below_set ?_ GE123.out) | exact HB.out))) : w.heap.size ≤ gb125)); have n8_ := Aside0.mk ((by rw [hg]; exact Nat.ne_of_lt (blk_lt (g := gb121) (o := .cells #[.bool a2_0, .int .i64 a2_1, .bool a2_2, .int .i64 a2_3, .slice A2_4 l2_4.length c2_4] 25 (0, 0)) (by (with_reducible repeat (first | refine blk_drewN ?_ _ | refine blk_drew ?_ | refine blk_alloc ?_ _)); exact BK121.out)) : gb121 ≠ gb125)); have n9_ := Aside0.mk ((by rw [hg]; exact Nat.ne_of_gt (blk_lt (g := gb121) (o := .cells #[.bool a2_0, .int .i64 a2_1, .bool a2_2, .int .i64 a2_3, .slice A2_4 l2_4.length c2_4] 25 (0, 0)) (by (with_reducible repeat (first | refine blk_drewN ?_ _ | refine blk_drew ?_ | refine blk_alloc ?_ _)); exact BK121.out)) : gb125 ≠ gb121)); have n10_ := Aside0.mk ((by rw [hg]; exact Nat.ne_of_lt (blk_lt (g := gb123) (o := .cells #[.int .i64 ((rd_T45 l0 x13_1).f0), .int .i64 ((rd_T45 l0 x13_1).f1), .bool ((rd_T45 l0 x13_1).f2.f0), .int .i64 ((rd_T45 l0 x13_1).f2.f1), .int .i64 ((rd_T45 l0 x13_1).f2.f2), .int .i64 ((rd_T45 l0 x13_1).f3)] 45 (0, 0)) (by (with_reducible repeat (first | refine blk_drewN ?_ _ | refine blk_drew ?_ | refine blk_alloc ?_ _)); exact BK123.out)) : gb123 ≠ gb125)); have n11_ := Aside0.mk ((by rw [hg]; exact Nat.ne_of_gt (blk_lt (g := gb123) (o := .cells #[.int .i64 ((rd_T45 l0 x13_1).f0), .int .i64 ((rd_T45 l0 x13_1).f1), .bool ((rd_T45 l0 x13_1).f2.f0), .int .i64 ((rd_T45 l0 x13_1).f2.f1), .int .i64 ((rd_T45 l0 x13_1).f2.f2), .int .i64 ((rd_T45 l0 x13_1).f3)] 45 (0, 0)) (by (with_reducible repeat (first | refine blk_drewN ?_ _ | refine blk_drew ?_ | refine blk_alloc ?_ _)); exact BK123.out)) : gb125 ≠ gb123)); clear HO_7; clear HO_122004; clear BK121; clear BK123; clear HB; have HO_7 := n0_; have HO_122004 := n1_; have BK121 := n2_; have BK123 := n3_; have HB := n4_; have BK125 := n5_; have GW125 := n6_; have GE125 := n7_; have NB121_125 := n8_; have NB125_121 := n9_; have NB123_125 := n10_; have NB125_123 := n11_; clear n0_ n1_ n2_ n3_ n4_ n5_ n6_ n7_ n8_ n9_ n10_ n11_; clear hb hbox hg; have hnb26 := NB125_121.out; have hnc26 := NB121_125.out; have hnb27 := NB125_123.out; have hnc27 := NB123_125.out; have hcz28_0 : w25.cell? ⟨gb125, 0, none⟩ = some (.bool false) := (blk_cell BK125.out 0).trans rfl; have hcz28_1 : w25.cell? ⟨gb125, 1, none⟩ = some (.int .i64 0) := (blk_cell BK125.out 1).trans rfl; have hcz28_2 : w25.cell? ⟨gb125, 2, none⟩ = some (.bool false) := (blk_cell BK125.out 2).trans rfl; have hcz28_3 : w25.cell? ⟨gb125, 3, none⟩ = some (.int .i64 0) := (blk_cell BK125.out 3).trans rfl; have hcz28_4 : w25.cell? ⟨gb125, 4, none⟩ = some (.slice none 0 0) := (blk_cell BK125.out 4).trans rfl; have hfz28_0 := blk_frozen BK125.out 0; have hfz28_1 := blk_frozen BK125.out 1; have hfz28_2 := blk_frozen BK125.out 2; have hfz28_3 := blk_frozen BK125.out 3; have hfz28_4 := blk_frozen BK125.out 4) | ((with_reducible refine gate_store (t := 25) (p := 10) rfl ?_); refine store_event (t := 25) (p := 10) (v := ?vo_w29) (w1 := (((((w25.setCell ⟨gb125, 0, none⟩ (.bool a2_0)).setCell ⟨gb125, 1, none⟩ (.int .i64 a2_1)).setCell ⟨gb125, 2, none⟩ (.bool a2_2)).setCell ⟨gb125, 3, none⟩ (.int .i64 a2_3)).setCell ⟨gb125, 4, none⟩ (.slice A2_4 l2_4.length c2_4))) ?hg ?ho ?hn ?hr ?_; (case ho => rfl); (case hg => rfl); (case hn => rfl); (case hr => first | (go_simp; done) | (go_simp; rfl)); intro w29 hw; have n0_ : Aside0 (Kd.N k38 38 w29 w.heap.size (fun k_ => (P2_4_ k_ ∨ w.heap.size ≤ k_) ∧ k_ ≠ gb121 ∧ k_ ≠ gb123 ∧ k_ ≠ gb125) u7 x7_1) := ⟨(by rw [hw]; exact (by (with_reducible repeat (first | apply Kd.N_alloc | apply Kd.N_drewN | apply Kd.N_drew)); exact Kd.N_mono (Kd.N_far (p := ⟨gb125, 4, none⟩) (Kd.N_far (p := ⟨gb125, 3, none⟩) (Kd.N_far (p := ⟨gb125, 2, none⟩) (Kd.N_far (p := ⟨gb125, 1, none⟩) (Kd.N_far (p := ⟨gb125, 0, none⟩) (Kd.N_mono HO_7.out (fun k_ hk => (⟨hk, hk.2⟩ : _ ∧ k_ ≠ gb125))) (fun _ hk => hk.2) (.bool a2_0)) (fun _ hk => hk.2) (.int .i64 a2_1)) (fun _ hk => hk.2) (.bool a2_2)) (fun _ hk => hk.2) (.int .i64 a2_3)) (fun _ hk => hk.2) (.slice A2_4 l2_4.length c2_4)) (fun _ hk => ⟨hk.1.1.1, ⟨hk.1.1.2.1, ⟨hk.1.1.2.2, hk.1.2⟩⟩⟩)))⟩; have n1_ : Aside0 (Kd.V (Kd.int .u8) 5 w29 w.heap.size (fun k_ => (P2_4_ k_ ∨ w.heap.size ≤ k_) ∧ some k_ ≠ (u7 : Value).ownBlock ∧ k_ ≠ gb121 ∧ k_ ≠ gb123 ∧ k_ ≠ gb125) (.slice A2_4 l2_4.length c2_4) l2_4) := ⟨(by rw [hw]; exact (by (with_reducible repeat (first | apply Kd.V_alloc | apply Kd.V_drewN | apply Kd.V_drew)); exact Kd.V_mono (Kd.V_far (p := ⟨gb125, 4, none⟩) (Kd.V_far (p := ⟨gb125, 3, none⟩) (Kd.V_far (p := ⟨gb125, 2, none⟩) (Kd.V_far (p := ⟨gb125, 1, none⟩) (Kd.V_far (p := ⟨gb125, 0, none⟩) (Kd.V_mono HO_122004.out (fun k_ hk => (⟨hk, hk.2⟩ : _ ∧ k_ ≠ gb125))) (fun _ hk => hk.2) (.bool a2_0)) (fun _ hk => hk.2) (.int .i64 a2_1)) (fun _ hk => hk.2) (.bool a2_2)) (fun _ hk => hk.2) (.int .i64 a2_3)) (fun _ hk => hk.2) (.slice A2_4 l2_4.length c2_4)) (fun _ hk => ⟨hk.1.1.1, ⟨hk.1.1.2.1, ⟨hk.1.1.2.2.1, ⟨hk.1.1.2.2.2, hk.1.2⟩⟩⟩⟩)))⟩; have n2_ : Aside0 (w29.heap[gb121]? = some (.cells #[.bool a2_0, .int .i64 a2_1, .bool a2_2, .int .i64 a2_3, .slice A2_4 l2_4.length c2_4] 25 (0, 0))) := ⟨(by rw [hw]; exact (by (with_reducible repeat (first | refine blk_drewN ?_ _ | refine blk_drew ?_ | refine blk_alloc ?_ _)); refine blk_far ?_ NB121_125.out _; (with_reducible repeat (first | refine blk_drewN ?_ _ | refine blk_drew ?_ | refine blk_alloc ?_ _)); refine blk_far ?_ NB121_125.out _; (with_reducible repeat (first | refine blk_drewN ?_ _ | refine blk_drew ?_ | refine blk_alloc ?_ _)); refine blk_far ?_ NB121_125.out _; (with_reducible repeat (first | refine blk_drewN ?_ _ | refine blk_drew ?_ | refine blk_alloc ?_ _)); refine blk_far ?_ NB121_125.out _; (with_reducible repeat (first | refine blk_drewN ?_ _ | refine blk_drew ?_ | refine blk_alloc ?_ _)); refine blk_far ?_ NB121_125.out _; (with_reducible repeat (first | refine blk_drewN ?_ _ | refine blk_drew ?_ | refine blk_alloc ?_ _)); exact BK121.out))⟩; have n3_ : Aside0 (w29.heap[gb123]? = some (.cells #[.int .i64 ((rd_T45 l0 x13_1).f0), .int .i64 ((rd_T45 l0 x13_1).f1), .bool ((rd_T45 l0 x13_1).f2.f0), .int .i64 ((rd_T45 l0 x13_1).f2.f1), .int .i64 ((rd_T45 l0 x13_1).f2.f2), .int .i64 ((rd_T45 l0 x13_1).f3)] 45 (0, 0))) := ⟨(by rw [hw]; exact (by (with_reducible repeat (first | refine blk_drewN ?_ _ | refine blk_drew ?_ | refine blk_alloc ?_ _)); refine blk_far ?_ NB123_125.out _; (with_reducible repeat (first | refine blk_drewN ?_ _ | refine blk_drew ?_ | refine blk_alloc ?_ _)); refine blk_far ?_ NB123_125.out _; (with_reducible repeat (first | refine blk_drewN ?_ _ | refine blk_drew ?_ | refine blk_alloc ?_ _)); refine blk_far ?_ NB123_125.out _; (with_reducible repeat (first | refine blk_drewN ?_ _ | refine blk_drew ?_ | refine blk_alloc ?_ _)); refine blk_far ?_ NB123_125.out _; (with_reducible repeat (first | refine blk_drewN ?_ _ | refine blk_drew ?_ | refine blk_alloc ?_ _)); refine blk_far ?_ NB123_125.out _; (with_reducible repeat (first | refine blk_drewN ?_ _ | refine blk_drew ?_ | refine blk_alloc ?_ _)); exact BK123.out))⟩; have n4_ : Aside0 (w29.heap[gb125]? = some (.cells #[.bool a2_0, .int .i64 a2_1, .bool a2_2, .int .i64 a2_3, .slice A2_4 l2_4.length c2_4] 25 (0, 0))) := ⟨(by rw [hw]; exact (by (with_reducible repeat (first | refine blk_drewN ?_ _ | refine blk_drew ?_ | refine blk_alloc ?_ _)); refine blk_put (cs := #[.bool a2_0, .int .i64 a2_1, .bool a2_2, .int .i64 a2_3, .slice none 0 0]) ?_ 4 _ rfl; (with_reducible repeat (first | refine blk_drewN ?_ _ | refine blk_drew ?_ | refine blk_alloc ?_ _)); refine blk_put (cs := #[.bool a2_0, .int .i64 a2_1, .bool a2_2, .int .i64 0, .slice none 0 0]) ?_ 3 _ rfl; (with_reducible repeat (first | refine blk_drewN ?_ _ | refine blk_drew ?_ | refine blk_alloc ?_ _)); refine blk_put (cs := #[.bool a2_0, .int .i64 a2_1, .bool false, .int .i64 0, .slice none 0 0]) ?_ 2 _ rfl; (with_reducible repeat (first | refine blk_drewN ?_ _ | refine blk_drew ?_ | refine blk_alloc ?_ _)); refine blk_put (cs := #[.bool a2_0, .int .i64 0, .bool false, .int .i64 0, .slice none 0 0]) ?_ 1 _ rfl; (with_reducible repeat (first | refine blk_drewN ?_ _ | refine blk_drew ?_ | refine blk_alloc ?_ _)); refine blk_put (cs := #[.bool false, .int .i64 0, .bool false, .int .i64 0, .slice none 0 0]) ?_ 0 _ rfl; (with_reducible repeat (first | refine blk_drewN ?_ _ | refine blk_drew ?_ | refine blk_alloc ?_ _)); exact BK125.out))⟩; have n5_ : Aside0 (Below w.heap.size w w29) := ⟨(by rw [hw]; exact (by repeat (first | (with_reducible first | exact HB.out | apply below_alloc | apply pw_below_drewN | apply below_drew1 | refine below_set ?_ GE121.out | refine below_set ?_ GE123.out | refine below_set ?_ GE125.out) | exact HB.out)))⟩; clear hw; clear HO_7; clear HO_122004; clear BK121; clear BK123; clear BK125; clear HB; have HO_7 := n0_; have HO_122004 := n1_; have BK121 := n2_; have BK123 := n3_; have BK125 := n4_; have HB := n5_; clear n0_ n1_ n2_ n3_ n4_ n5_; have hcz30_0 : w29.cell? ⟨gb123, 0, none⟩ = some (.int .i64 ((rd_T45 l0 x13_1).f0)) := (blk_cell BK123.out 0).trans rfl; have hcz30_1 : w29.cell? ⟨gb123, 1, none⟩ = some (.int .i64 ((rd_T45 l0 x13_1).f1)) := (blk_cell BK123.out 1).trans rfl; have hcz30_2 : w29.cell? ⟨gb123, 2, none⟩ = some (.bool ((rd_T45 l0 x13_1).f2.f0)) := (blk_cell BK123.out 2).trans rfl; have hcz30_3 : w29.cell? ⟨gb123, 3, none⟩ = some (.int .i64 ((rd_T45 l0 x13_1).f2.f1)) := (blk_cell BK123.out 3).trans rfl; have hcz30_4 : w29.cell? ⟨gb123, 4, none⟩ = some (.int .i64 ((rd_T45 l0 x13_1).f2.f2)) := (blk_cell BK123.out 4).trans rfl; have hcz30_5 : w29.cell? ⟨gb123, 5, none⟩ = some (.int .i64 ((rd_T45 l0 x13_1).f3)) := (blk_cell BK123.out 5).trans rfl; have hfz30_0 := blk_frozen BK123.out 0; have hfz30_1 := blk_frozen BK123.out 1; have hfz30_2 := blk_frozen BK123.out 2; have hfz30_3 := blk_frozen BK123.out 3; have hfz30_4 := blk_frozen BK123.out 4; have hfz30_5 := blk_frozen BK123.out 5; have hcz31_0 : w29.cell? ⟨gb125, 0, none⟩ = some (.bool a2_0) := (blk_cell BK125.out 0).trans rfl; have hcz31_1 : w29.cell? ⟨gb125, 1, none⟩ = some (.int .i64 a2_1) := (blk_cell BK125.out 1).trans rfl; have hcz31_2 : w29.cell? ⟨gb125, 2, none⟩ = some (.bool a2_2) := (blk_cell BK125.out 2).trans rfl; have hcz31_3 : w29.cell? ⟨gb125, 3, none⟩ = some (.int .i64 a2_3) := (blk_cell BK125.out 3).trans rfl; have hcz31_4 : w29.cell? ⟨gb125, 4, none⟩ = some (.slice A2_4 l2_4.length c2_4) := (blk_cell BK125.out 4).trans rfl; have hfz31_0 := blk_frozen BK125.out 0; have hfz31_1 := blk_frozen BK125.out 1; have hfz31_2 := blk_frozen BK125.out 2; have hfz31_3 := blk_frozen BK125.out 3; have hfz31_4 := blk_frozen BK125.out 4) | ((with_reducible refine gate_builtin (b := .append) (xs := #[.tmp 35, .tmp 40]) rfl ?_); at_builtin; refine Kd.N_append k38 (w0 := w) w.heap.size rfl (.tmp 35) (.tmp 40) 33 38 (.agg #[(.int .i64 0), (.bool false), (.int .i64 0), (.bool false), (.int .i64 0), (.slice none 0 0)]) 64 rfl Try.underlying33 info38 rfl (by decide) (by omega) u7 x7_1 (⟨((rd_T45 l0 x13_1).f1), (⟨a2_0, a2_1, a2_2, a2_3, l2_4⟩ : S25)⟩ : S38) [.int .i64 ((rd_T45 l0 x13_1).f1), .bool a2_0, .int .i64 a2_1, .bool a2_2, .int .i64 a2_3, .slice A2_4 l2_4.length c2_4] (fun k_ => (P2_4_ k_ ∨ w.heap.size ≤ k_) ∧ k_ ≠ gb121 ∧ k_ ≠ gb123 ∧ k_ ≠ gb125) (fun k_ => ((fun k_ => (P2_4_ k_ ∨ w.heap.size ≤ k_) ∧ k_ ≠ gb121 ∧ k_ ≠ gb123 ∧ k_ ≠ gb125)) k_ ∧ some k_ ≠ (u7 : Value).ownBlock) rfl rfl ?aP (fun _ hk => hk) ?aF ?aO ?aB ?aS ?aL ?_; (case aP => exact (k38_mkF _ _ (⟨((rd_T45 l0 x13_1).f1), (⟨a2_0, a2_1, a2_2, a2_3, l2_4⟩ : S25)⟩ : S38) (Kd.V_reads' (Kd.V_mono (ok' := (fun k_ => ((fun k_ => (P2_4_ k_ ∨ w.heap.size ≤ k_) ∧ k_ ≠ gb121 ∧ k_ ≠ gb123 ∧ k_ ≠ gb125)) k_ ∧ some k_ ≠ (u7 : Value).ownBlock)) (HO_122004.out) (fun k_ hk => ⟨⟨hk.1, ⟨hk.2.2.1, ⟨hk.2.2.2.1, hk.2.2.2.2⟩⟩⟩, hk.2.1⟩))).2.1 (Kd.V_F (Kd.V_mono (ok' := (fun k_ => ((fun k_ => (P2_4_ k_ ∨ w.heap.size ≤ k_) ∧ k_ ≠ gb121 ∧ k_ ≠ gb123 ∧ k_ ≠ gb125)) k_ ∧ some k_ ≠ (u7 : Value).ownBlock)) (HO_122004.out) (fun k_ hk => ⟨⟨hk.1, ⟨hk.2.2.1, ⟨hk.2.2.2.1, hk.2.2.2.2⟩⟩⟩, hk.2.1⟩))))); (case aB => exact (by repeat (first | (with_reducible first | exact HB.out | apply below_alloc | apply pw_below_drewN | apply below_drew1 | refine below_set ?_ GE121.out | refine below_set ?_ GE123.out | refine below_set ?_ GE125.out) | exact HB.out))); (case aF => exact (fun k_ hk => ⟨(.inr (Nat.le_trans (below_size (by repeat (first | (with_reducible first | exact HB.out | apply below_alloc | apply pw_below_drewN | apply below_drew1 | refine below_set ?_ GE121.out | refine below_set ?_ GE123.out | refine below_set ?_ GE125.out) | exact HB.out))) hk)), Kd.freshB (g := gb121) (o := .cells #[.bool a2_0, .int .i64 a2_1, .bool a2_2, .int .i64 a2_3, .slice A2_4 l2_4.length c2_4] 25 (0, 0)) (by (with_reducible repeat (first | refine blk_drewN ?_ _ | refine blk_drew ?_ | refine blk_alloc ?_ _)); exact BK121.out) k_ hk, Kd.freshB (g := gb123) (o := .cells #[.int .i64 ((rd_T45 l0 x13_1).f0), .int .i64 ((rd_T45 l0 x13_1).f1), .bool ((rd_T45 l0 x13_1).f2.f0), .int .i64 ((rd_T45 l0 x13_1).f2.f1), .int .i64 ((rd_T45 l0 x13_1).f2.f2), .int .i64 ((rd_T45 l0 x13_1).f3)] 45 (0, 0)) (by (with_reducible repeat (first | refine blk_drewN ?_ _ | refine blk_drew ?_ | refine blk_alloc ?_ _)); exact BK123.out) k_ hk, Kd.freshB (g := gb125) (o := .cells #[.bool a2_0, .int .i64 a2_1, .bool a2_2, .int .i64 a2_3, .slice A2_4 l2_4.length c2_4] 25 (0, 0)) (by (with_reducible repeat (first | refine blk_drewN ?_ _ | refine blk_drew ?_ | refine blk_alloc ?_ _)); exact BK125.out) k_ hk⟩)); (case aO => exact (by (with_reducible repeat (first | apply Kd.N_alloc | apply Kd.N_drewN | apply Kd.N_drew)); exact HO_7.out)); (case aS => exact (below_size (by repeat (first | (with_reducible first | exact HB.out | apply below_alloc | apply pw_below_drewN | apply below_drew1 | refine below_set ?_ GE121.out | refine below_set ?_ GE123.out | refine below_set ?_ GE125.out) | exact HB.out)))); (case aL => have := LMc22.out; omega); intro v127 w32 ho hb hg hat; rw [← Ny126.out] at ho; have n0_ := Aside0.mk (Kd.V_afterv (ok := (fun k_ => (P2_4_ k_ ∨ w.heap.size ≤ k_) ∧ k_ ≠ gb121 ∧ k_ ≠ gb123 ∧ k_ ≠ gb125)) (by (with_reducible repeat (first | apply Kd.V_alloc | apply Kd.V_drewN | apply Kd.V_drew)); exact Kd.V_mono HO_122004.out (fun _ hk => ⟨⟨hk.1, ⟨hk.2.2.1, ⟨hk.2.2.2.1, hk.2.2.2.2⟩⟩⟩, hk.2.1⟩)) hg hat); have n1_ := Aside0.mk (blk_grown (g := gb121) (o := .cells #[.bool a2_0, .int .i64 a2_1, .bool a2_2, .int .i64 a2_3, .slice A2_4 l2_4.length c2_4] 25 (0, 0)) (by (with_reducible repeat (first | refine blk_drewN ?_ _ | refine blk_drew ?_ | refine blk_alloc ?_ _)); exact BK121.out) hg (Kd.N_ne HO_7.out BK121.out (by decide))); have n2_ := Aside0.mk (blk_grown (g := gb123) (o := .cells #[.int .i64 ((rd_T45 l0 x13_1).f0), .int .i64 ((rd_T45 l0 x13_1).f1), .bool ((rd_T45 l0 x13_1).f2.f0), .int .i64 ((rd_T45 l0 x13_1).f2.f1), .int .i64 ((rd_T45 l0 x13_1).f2.f2), .int .i64 ((rd_T45 l0 x13_1).f3)] 45 (0, 0)) (by (with_reducible repeat (first | refine blk_drewN ?_ _ | refine blk_drew ?_ | refine blk_alloc ?_ _)); exact BK123.out) hg (Kd.N_ne HO_7.out BK123.out (by decide))); have n3_ := Aside0.mk (blk_grown (g := gb125) (o := .cells #[.bool a2_0, .int .i64 a2_1, .bool a2_2, .int .i64 a2_3, .slice A2_4 l2_4.length c2_4] 25 (0, 0)) (by (with_reducible repeat (first | refine blk_drewN ?_ _ | refine blk_drew ?_ | refine blk_alloc ?_ _)); exact BK125.out) hg (Kd.N_ne HO_7.out BK125.out (by decide))); have n4_ := Aside0.mk (hb); have n5_ := Aside0.mk (ho); clear HO_122004; clear BK121; clear BK123; clear BK125; clear HB; clear HO_7; have HO_122004 := n0_; have BK121 := n1_; have BK123 := n2_; have BK125 := n3_; have HB := n4_; have HO128 := n5_; clear n0_ n1_ n2_ n3_ n4_ n5_; clear ho hb hg hat))
                      go_roundg kj7
                      case measure => have := HK1.out; have := HJ7.out; omega
                      case rel => exact ⟨(y126), (wrap64 (x13_1 + 1)), (by first | rfl | (simp; done) | (simp [*]; done)), H', ⟨by have := HK1.out; have := HJ7.out; omega⟩, ⟨by (with_reducible repeat (first | apply Kd.N_alloc | apply Kd.N_drewN | apply Kd.N_drew)); exact Kd.N_mono HO128.out (fun _ hk => ⟨hk.1, hk.2.1⟩)⟩, ⟨by (with_reducible repeat (first | apply Kd.V_alloc | apply Kd.V_drewN | apply Kd.V_drew)); exact Kd.V_mono HO_122004.out (fun _ hk => ⟨hk.1.1, ⟨hk.2, hk.1.2.1⟩⟩)⟩, ⟨by (with_reducible repeat (first | refine blk_drewN ?_ _ | refine blk_drew ?_ | refine blk_alloc ?_ _)); exact BK121.out⟩, ⟨by repeat (first | (with_reducible first | exact HB.out | apply below_alloc | apply pw_below_drewN | apply below_drew1 | refine below_set ?_ GE121.out | refine below_set ?_ GE123.out | refine below_set ?_ GE125.out) | exact HB.out)⟩⟩
                    · rw [if_neg c22] at H
                      exact absurd H (by simp)
                  · rw [if_neg c21] at H
                    have c21b0 : (((rd_T45 l0 x13_1).f3) == (-1)) = false := beq_eq_false_iff_ne.mpr c21
                    have c21b1 : (((rd_T45 l0 x13_1).f3) != (-1)) = true := bne_iff_ne.mpr c21
                    by_cases c33 : x7_1.length < 2199023255552
                    · rw [if_pos c33] at H
                      have LMc33 := Aside0.mk c33
                      clear c33
                      obtain ⟨y129, hy129⟩ : ∃ y_ : List (S38), y_ = (x7_1 ++ [(⟨((rd_T45 l0 x13_1).f1), (⟨a2_0, ((rd_T45 l0 x13_1).f3), a2_2, a2_3, l2_4⟩ : S25)⟩ : S38)]) := ⟨_, rfl⟩
                      replace H : (route_Hops.l0 kj7 a1 y129 l0 (l0.length : Int) (wrap64 (x13_1 + 1)) a2_0 a2_1 a2_2 a2_3 l2_4) = some r := by first | (rw [hy129]; with_reducible exact H) | (have H2_ := (Option.bind_some _ _).symm.trans H; rw [hy129]; with_reducible exact H2_) | (have H2_ := (Option.bind_some _ _).symm.trans H; with_reducible exact H2_) | with_reducible exact H | (rw [hy129]; exact H) | exact H
                      have Ny129 := Aside0.mk hy129
                      clear hy129
                      have H' := Aside0.mk H
                      clear H
                      have hnb34 := NB121_123.out
                      have hnc34 := NB123_121.out
                      have hcz35_0 : wc.cell? ⟨gb121, 0, none⟩ = some (.bool a2_0) := (blk_cell BK121.out 0).trans rfl
                      have hcz35_1 : wc.cell? ⟨gb121, 1, none⟩ = some (.int .i64 a2_1) := (blk_cell BK121.out 1).trans rfl
                      have hcz35_2 : wc.cell? ⟨gb121, 2, none⟩ = some (.bool a2_2) := (blk_cell BK121.out 2).trans rfl
                      have hcz35_3 : wc.cell? ⟨gb121, 3, none⟩ = some (.int .i64 a2_3) := (blk_cell BK121.out 3).trans rfl
                      have hcz35_4 : wc.cell? ⟨gb121, 4, none⟩ = some (.slice A2_4 l2_4.length c2_4) := (blk_cell BK121.out 4).trans rfl
                      have hfz35_0 := blk_frozen BK121.out 0
                      have hfz35_1 := blk_frozen BK121.out 1
                      have hfz35_2 := blk_frozen BK121.out 2
                      have hfz35_3 := blk_frozen BK121.out 3
                      have hfz35_4 := blk_frozen BK121.out 4
                      go_wp2_with (first | ((with_reducible refine gate_dst (N := 10) rfl ?_); refine box_event ?hg (N := 10) ?hd (cs := #[.bool false, .int .i64 0, .bool false, .int .i64 0, .slice none 0 0]) (t := 25) ?hr ?_; (case hd => rfl); (case hg => rfl); (case hr => first | (go_simp; done) | (go_simp; rfl)); intro gb125 hg w36 hbox hb; have n0_ := Aside0.mk (Kd.N_below (Kd.N_elderB (by (with_reducible repeat (first | apply Kd.N_alloc | apply Kd.N_drewN | apply Kd.N_drew)); exact HO_7.out) gb125 (Nat.le_of_eq hg.symm)) hb); have n1_ := Aside0.mk (Kd.V_below (Kd.V_elderB (by (with_reducible repeat (first | apply Kd.V_alloc | apply Kd.V_drewN | apply Kd.V_drew)); exact HO_122004.out) gb125 (Nat.le_of_eq hg.symm)) hb); have n2_ := Aside0.mk (blk_below (g := gb121) (o := .cells #[.bool a2_0, .int .i64 a2_1, .bool a2_2, .int .i64 a2_3, .slice A2_4 l2_4.length c2_4] 25 (0, 0)) (by (with_reducible repeat (first | refine blk_drewN ?_ _ | refine blk_drew ?_ | refine blk_alloc ?_ _)); exact BK121.out) hb); have n3_ := Aside0.mk (blk_below (g := gb123) (o := .cells #[.int .i64 ((rd_T45 l0 x13_1).f0), .int .i64 ((rd_T45 l0 x13_1).f1), .bool ((rd_T45 l0 x13_1).f2.f0), .int .i64 ((rd_T45 l0 x13_1).f2.f1), .int .i64 ((rd_T45 l0 x13_1).f2.f2), .int .i64 ((rd_T45 l0 x13_1).f3)] 45 (0, 0)) (by (with_reducible repeat (first | refine blk_drewN ?_ _ | refine blk_drew ?_ | refine blk_alloc ?_ _)); exact BK123.out) hb); have n4_ := Aside0.mk (below_step (by repeat (first | (with_reducible first | exact HB.out | apply below_alloc | apply pw_below_drewN | apply below_drew1 | refine below_set ?_ GE121.out | refine below_set ?_ GE123.out) | exact HB.out)) hb); have n5_ := Aside0.mk (hbox); have n6_ := Aside0.mk ((by rw [hg]; exact (below_size (by repeat (first | (with_reducible first | exact HB.out | apply below_alloc | apply pw_below_drewN | apply below_drew1 | refine below_set ?_ GE121.out | refine below_set ?_ GE123.out) | exact HB.out))) : w.heap.size ≤ gb125)); have n7_ := Aside0.mk ((by rw [hg]; exact (below_size (by repeat (first | (with_reducible first | exact HB.out | apply below_alloc | apply pw_below_drewN | apply below_drew1 | refine below_set ?_ GE121.out | refine below_set ?_ GE123.out) | exact HB.out))) : w.heap.size ≤ gb125)); have n8_ := Aside0.mk ((by rw [hg]; exact Nat.ne_of_lt (blk_lt (g := gb121) (o := .cells #[.bool a2_0, .int .i64 a2_1, .bool a2_2, .int .i64 a2_3, .slice A2_4 l2_4.length c2_4] 25 (0, 0)) (by (with_reducible repeat (first | refine blk_drewN ?_ _ | refine blk_drew ?_ | refine blk_alloc ?_ _)); exact BK121.out)) : gb121 ≠ gb125)); have n9_ := Aside0.mk ((by rw [hg]; exact Nat.ne_of_gt (blk_lt (g := gb121) (o := .cells #[.bool a2_0, .int .i64 a2_1, .bool a2_2, .int .i64 a2_3, .slice A2_4 l2_4.length c2_4] 25 (0, 0)) (by (with_reducible repeat (first | refine blk_drewN ?_ _ | refine blk_drew ?_ | refine blk_alloc ?_ _)); exact BK121.out)) : gb125 ≠ gb121)); have n10_ := Aside0.mk ((by rw [hg]; exact Nat.ne_of_lt (blk_lt (g := gb123) (o := .cells #[.int .i64 ((rd_T45 l0 x13_1).f0), .int .i64 ((rd_T45 l0 x13_1).f1), .bool ((rd_T45 l0 x13_1).f2.f0), .int .i64 ((rd_T45 l0 x13_1).f2.f1), .int .i64 ((rd_T45 l0 x13_1).f2.f2), .int .i64 ((rd_T45 l0 x13_1).f3)] 45 (0, 0)) (by (with_reducible repeat (first | refine blk_drewN ?_ _ | refine blk_drew ?_ | refine blk_alloc ?_ _)); exact BK123.out)) : gb123 ≠ gb125)); have n11_ := Aside0.mk ((by rw [hg]; exact Nat.ne_of_gt (blk_lt (g := gb123) (o := .cells #[.int .i64 ((rd_T45 l0 x13_1).f0), .int .i64 ((rd_T45 l0 x13_1).f1), .bool ((rd_T45 l0 x13_1).f2.f0), .int .i64 ((rd_T45 l0 x13_1).f2.f1), .int .i64 ((rd_T45 l0 x13_1).f2.f2), .int .i64 ((rd_T45 l0 x13_1).f3)] 45 (0, 0)) (by (with_reducible repeat (first | refine blk_drewN ?_ _ | refine blk_drew ?_ | refine blk_alloc ?_ _)); exact BK123.out)) : gb125 ≠ gb123)); clear HO_7; clear HO_122004; clear BK121; clear BK123; clear HB; have HO_7 := n0_; have HO_122004 := n1_; have BK121 := n2_; have BK123 := n3_; have HB := n4_; have BK125 := n5_; have GW125 := n6_; have GE125 := n7_; have NB121_125 := n8_; have NB125_121 := n9_; have NB123_125 := n10_; have NB125_123 := n11_; clear n0_ n1_ n2_ n3_ n4_ n5_ n6_ n7_ n8_ n9_ n10_ n11_; clear hb hbox hg; have hnb37 := NB125_121.out; have hnc37 := NB121_125.out; have hnb38 := NB125_123.out; have hnc38 := NB123_125.out; have hcz39_0 : w36.cell? ⟨gb125, 0, none⟩ = some (.bool false) := (blk_cell BK125.out 0).trans rfl; have hcz39_1 : w36.cell? ⟨gb125, 1, none⟩ = some (.int .i64 0) := (blk_cell BK125.out 1).trans rfl; have hcz39_2 : w36.cell? ⟨gb125, 2, none⟩ = some (.bool false) := (blk_cell BK125.out 2).trans rfl; have hcz39_3 : w36.cell? ⟨gb125, 3, none⟩ = some (.int .i64 0) := (blk_cell BK125.out 3).trans rfl; have hcz39_4 : w36.cell? ⟨gb125, 4, none⟩ = some (.slice none 0 0) := (blk_cell BK125.out 4).trans rfl; have hfz39_0 := blk_frozen BK125.out 0; have hfz39_1 := blk_frozen BK125.out 1; have hfz39_2 := blk_frozen BK125.out 2; have hfz39_3 := blk_frozen BK125.out 3; have hfz39_4 := blk_frozen BK125.out 4) | ((with_reducible refine gate_store (t := 25) (p := 10) rfl ?_); refine store_event (t := 25) (p := 10) (v := ?vo_w40) (w1 := (((((w36.setCell ⟨gb125, 0, none⟩ (.bool a2_0)).setCell ⟨gb125, 1, none⟩ (.int .i64 a2_1)).setCell ⟨gb125, 2, none⟩ (.bool a2_2)).setCell ⟨gb125, 3, none⟩ (.int .i64 a2_3)).setCell ⟨gb125, 4, none⟩ (.slice A2_4 l2_4.length c2_4))) ?hg ?ho ?hn ?hr ?_; (case ho => rfl); (case hg => rfl); (case hn => rfl); (case hr => first | (go_simp; done) | (go_simp; rfl)); intro w40 hw; have n0_ : Aside0 (Kd.N k38 38 w40 w.heap.size (fun k_ => (P2_4_ k_ ∨ w.heap.size ≤ k_) ∧ k_ ≠ gb121 ∧ k_ ≠ gb123 ∧ k_ ≠ gb125) u7 x7_1) := ⟨(by rw [hw]; exact (by (with_reducible repeat (first | apply Kd.N_alloc | apply Kd.N_drewN | apply Kd.N_drew)); exact Kd.N_mono (Kd.N_far (p := ⟨gb125, 4, none⟩) (Kd.N_far (p := ⟨gb125, 3, none⟩) (Kd.N_far (p := ⟨gb125, 2, none⟩) (Kd.N_far (p := ⟨gb125, 1, none⟩) (Kd.N_far (p := ⟨gb125, 0, none⟩) (Kd.N_mono HO_7.out (fun k_ hk => (⟨hk, hk.2⟩ : _ ∧ k_ ≠ gb125))) (fun _ hk => hk.2) (.bool a2_0)) (fun _ hk => hk.2) (.int .i64 a2_1)) (fun _ hk => hk.2) (.bool a2_2)) (fun _ hk => hk.2) (.int .i64 a2_3)) (fun _ hk => hk.2) (.slice A2_4 l2_4.length c2_4)) (fun _ hk => ⟨hk.1.1.1, ⟨hk.1.1.2.1, ⟨hk.1.1.2.2, hk.1.2⟩⟩⟩)))⟩; have n1_ : Aside0 (Kd.V (Kd.int .u8) 5 w40 w.heap.size (fun k_ => (P2_4_ k_ ∨ w.heap.size ≤ k_) ∧ some k_ ≠ (u7 : Value).ownBlock ∧ k_ ≠ gb121 ∧ k_ ≠ gb123 ∧ k_ ≠ gb125) (.slice A2_4 l2_4.length c2_4) l2_4) := ⟨(by rw [hw]; exact (by (with_reducible repeat (first | apply Kd.V_alloc | apply Kd.V_drewN | apply Kd.V_drew)); exact Kd.V_mono (Kd.V_far (p := ⟨gb125, 4, none⟩) (Kd.V_far (p := ⟨gb125, 3, none⟩) (Kd.V_far (p := ⟨gb125, 2, none⟩) (Kd.V_far (p := ⟨gb125, 1, none⟩) (Kd.V_far (p := ⟨gb125, 0, none⟩) (Kd.V_mono HO_122004.out (fun k_ hk => (⟨hk, hk.2⟩ : _ ∧ k_ ≠ gb125))) (fun _ hk => hk.2) (.bool a2_0)) (fun _ hk => hk.2) (.int .i64 a2_1)) (fun _ hk => hk.2) (.bool a2_2)) (fun _ hk => hk.2) (.int .i64 a2_3)) (fun _ hk => hk.2) (.slice A2_4 l2_4.length c2_4)) (fun _ hk => ⟨hk.1.1.1, ⟨hk.1.1.2.1, ⟨hk.1.1.2.2.1, ⟨hk.1.1.2.2.2, hk.1.2⟩⟩⟩⟩)))⟩; have n2_ : Aside0 (w40.heap[gb121]? = some (.cells #[.bool a2_0, .int .i64 a2_1, .bool a2_2, .int .i64 a2_3, .slice A2_4 l2_4.length c2_4] 25 (0, 0))) := ⟨(by rw [hw]; exact (by (with_reducible repeat (first | refine blk_drewN ?_ _ | refine blk_drew ?_ | refine blk_alloc ?_ _)); refine blk_far ?_ NB121_125.out _; (with_reducible repeat (first | refine blk_drewN ?_ _ | refine blk_drew ?_ | refine blk_alloc ?_ _)); refine blk_far ?_ NB121_125.out _; (with_reducible repeat (first | refine blk_drewN ?_ _ | refine blk_drew ?_ | refine blk_alloc ?_ _)); refine blk_far ?_ NB121_125.out _; (with_reducible repeat (first | refine blk_drewN ?_ _ | refine blk_drew ?_ | refine blk_alloc ?_ _)); refine blk_far ?_ NB121_125.out _; (with_reducible repeat (first | refine blk_drewN ?_ _ | refine blk_drew ?_ | refine blk_alloc ?_ _)); refine blk_far ?_ NB121_125.out _; (with_reducible repeat (first | refine blk_drewN ?_ _ | refine blk_drew ?_ | refine blk_alloc ?_ _)); exact BK121.out))⟩; have n3_ : Aside0 (w40.heap[gb123]? = some (.cells #[.int .i64 ((rd_T45 l0 x13_1).f0), .int .i64 ((rd_T45 l0 x13_1).f1), .bool ((rd_T45 l0 x13_1).f2.f0), .int .i64 ((rd_T45 l0 x13_1).f2.f1), .int .i64 ((rd_T45 l0 x13_1).f2.f2), .int .i64 ((rd_T45 l0 x13_1).f3)] 45 (0, 0))) := ⟨(by rw [hw]; exact (by (with_reducible repeat (first | refine blk_drewN ?_ _ | refine blk_drew ?_ | refine blk_alloc ?_ _)); refine blk_far ?_ NB123_125.out _; (with_reducible repeat (first | refine blk_drewN ?_ _ | refine blk_drew ?_ | refine blk_alloc ?_ _)); refine blk_far ?_ NB123_125.out _; (with_reducible repeat (first | refine blk_drewN ?_ _ | refine blk_drew ?_ | refine blk_alloc ?_ _)); refine blk_far ?_ NB123_125.out _; (with_reducible repeat (first | refine blk_drewN ?_ _ | refine blk_drew ?_ | refine blk_alloc ?_ _)); refine blk_far ?_ NB123_125.out _; (with_reducible repeat (first | refine blk_drewN ?_ _ | refine blk_drew ?_ | refine blk_alloc ?_ _)); refine blk_far ?_ NB123_125.out _; (with_reducible repeat (first | refine blk_drewN ?_ _ | refine blk_drew ?_ | refine blk_alloc ?_ _)); exact BK123.out))⟩; have n4_ : Aside0 (w40.heap[gb125]? = some (.cells #[.bool a2_0, .int .i64 a2_1, .bool a2_2, .int .i64 a2_3, .slice A2_4 l2_4.length c2_4] 25 (0, 0))) := ⟨(by rw [hw]; exact (by (with_reducible repeat (first | refine blk_drewN ?_ _ | refine blk_drew ?_ | refine blk_alloc ?_ _)); refine blk_put (cs := #[.bool a2_0, .int .i64 a2_1, .bool a2_2, .int .i64 a2_3, .slice none 0 0]) ?_ 4 _ rfl; (with_reducible repeat (first | refine blk_drewN ?_ _ | refine blk_drew ?_ | refine blk_alloc ?_ _)); refine blk_put (cs := #[.bool a2_0, .int .i64 a2_1, .bool a2_2, .int .i64 0, .slice none 0 0]) ?_ 3 _ rfl; (with_reducible repeat (first | refine blk_drewN ?_ _ | refine blk_drew ?_ | refine blk_alloc ?_ _)); refine blk_put (cs := #[.bool a2_0, .int .i64 a2_1, .bool false, .int .i64 0, .slice none 0 0]) ?_ 2 _ rfl; (with_reducible repeat (first | refine blk_drewN ?_ _ | refine blk_drew ?_ | refine blk_alloc ?_ _)); refine blk_put (cs := #[.bool a2_0, .int .i64 0, .bool false, .int .i64 0, .slice none 0 0]) ?_ 1 _ rfl; (with_reducible repeat (first | refine blk_drewN ?_ _ | refine blk_drew ?_ | refine blk_alloc ?_ _)); refine blk_put (cs := #[.bool false, .int .i64 0, .bool false, .int .i64 0, .slice none 0 0]) ?_ 0 _ rfl; (with_reducible repeat (first | refine blk_drewN ?_ _ | refine blk_drew ?_ | refine blk_alloc ?_ _)); exact BK125.out))⟩; have n5_ : Aside0 (Below w.heap.size w w40) := ⟨(by rw [hw]; exact (by repeat (first | (with_reducible first | exact HB.out | apply below_alloc | apply pw_below_drewN | apply below_drew1 | refine below_set ?_ GE121.out | refine below_set ?_ GE123.out | refine below_set ?_ GE125.out) | exact HB.out)))⟩; clear hw; clear HO_7; clear HO_122004; clear BK121; clear BK123; clear BK125; clear HB; have HO_7 := n0_; have HO_122004 := n1_; have BK121 := n2_; have BK123 := n3_; have BK125 := n4_; have HB := n5_; clear n0_ n1_ n2_ n3_ n4_ n5_; have hcz41_0 : w40.cell? ⟨gb123, 0, none⟩ = some (.int .i64 ((rd_T45 l0 x13_1).f0)) := (blk_cell BK123.out 0).trans rfl; have hcz41_1 : w40.cell? ⟨gb123, 1, none⟩ = some (.int .i64 ((rd_T45 l0 x13_1).f1)) := (blk_cell BK123.out 1).trans rfl; have hcz41_2 : w40.cell? ⟨gb123, 2, none⟩ = some (.bool ((rd_T45 l0 x13_1).f2.f0)) := (blk_cell BK123.out 2).trans rfl; have hcz41_3 : w40.cell? ⟨gb123, 3, none⟩ = some (.int .i64 ((rd_T45 l0 x13_1).f2.f1)) := (blk_cell BK123.out 3).trans rfl; have hcz41_4 : w40.cell? ⟨gb123, 4, none⟩ = some (.int .i64 ((rd_T45 l0 x13_1).f2.f2)) := (blk_cell BK123.out 4).trans rfl; have hcz41_5 : w40.cell? ⟨gb123, 5, none⟩ = some (.int .i64 ((rd_T45 l0 x13_1).f3)) := (blk_cell BK123.out 5).trans rfl; have hfz41_0 := blk_frozen BK123.out 0; have hfz41_1 := blk_frozen BK123.out 1; have hfz41_2 := blk_frozen BK123.out 2; have hfz41_3 := blk_frozen BK123.out 3; have hfz41_4 := blk_frozen BK123.out 4; have hfz41_5 := blk_frozen BK123.out 5; have hcz42_0 : w40.cell? ⟨gb125, 0, none⟩ = some (.bool a2_0) := (blk_cell BK125.out 0).trans rfl; have hcz42_1 : w40.cell? ⟨gb125, 1, none⟩ = some (.int .i64 a2_1) := (blk_cell BK125.out 1).trans rfl; have hcz42_2 : w40.cell? ⟨gb125, 2, none⟩ = some (.bool a2_2) := (blk_cell BK125.out 2).trans rfl; have hcz42_3 : w40.cell? ⟨gb125, 3, none⟩ = some (.int .i64 a2_3) := (blk_cell BK125.out 3).trans rfl; have hcz42_4 : w40.cell? ⟨gb125, 4, none⟩ = some (.slice A2_4 l2_4.length c2_4) := (blk_cell BK125.out 4).trans rfl; have hfz42_0 := blk_frozen BK125.out 0; have hfz42_1 := blk_frozen BK125.out 1; have hfz42_2 := blk_frozen BK125.out 2; have hfz42_3 := blk_frozen BK125.out 3; have hfz42_4 := blk_frozen BK125.out 4) | ((with_reducible refine gate_store (t := 3) (p := 34) rfl ?_); refine store_event (t := 3) (p := 34) (v := ?vo_w43) (w1 := (w40.setCell ⟨gb125, 1, none⟩ (.int .i64 ((rd_T45 l0 x13_1).f3)))) ?hg ?ho ?hn ?hr ?_; (case ho => rfl); (case hg => rfl); (case hn => rfl); (case hr => first | (go_simp; done) | (go_simp; rfl)); intro w43 hw; have n0_ : Aside0 (Kd.N k38 38 w43 w.heap.size (fun k_ => (P2_4_ k_ ∨ w.heap.size ≤ k_) ∧ k_ ≠ gb121 ∧ k_ ≠ gb123 ∧ k_ ≠ gb125) u7 x7_1) := ⟨(by rw [hw]; exact (by (with_reducible repeat (first | apply Kd.N_alloc | apply Kd.N_drewN | apply Kd.N_drew)); exact Kd.N_mono (Kd.N_far (p := ⟨gb125, 1, none⟩) (Kd.N_mono HO_7.out (fun k_ hk => (⟨hk, hk.2.2.2⟩ : _ ∧ k_ ≠ gb125))) (fun _ hk => hk.2) (.int .i64 ((rd_T45 l0 x13_1).f3))) (fun _ hk => ⟨hk.1.1, ⟨hk.1.2.1, ⟨hk.1.2.2.1, hk.1.2.2.2⟩⟩⟩)))⟩; have n1_ : Aside0 (Kd.V (Kd.int .u8) 5 w43 w.heap.size (fun k_ => (P2_4_ k_ ∨ w.heap.size ≤ k_) ∧ some k_ ≠ (u7 : Value).ownBlock ∧ k_ ≠ gb121 ∧ k_ ≠ gb123 ∧ k_ ≠ gb125) (.slice A2_4 l2_4.length c2_4) l2_4) := ⟨(by rw [hw]; exact (by (with_reducible repeat (first | apply Kd.V_alloc | apply Kd.V_drewN | apply Kd.V_drew)); exact Kd.V_mono (Kd.V_far (p := ⟨gb125, 1, none⟩) (Kd.V_mono HO_122004.out (fun k_ hk => (⟨hk, hk.2.2.2.2⟩ : _ ∧ k_ ≠ gb125))) (fun _ hk => hk.2) (.int .i64 ((rd_T45 l0 x13_1).f3))) (fun _ hk => ⟨hk.1.1, ⟨hk.1.2.1, ⟨hk.1.2.2.1, ⟨hk.1.2.2.2.1, hk.1.2.2.2.2⟩⟩⟩⟩)))⟩; have n2_ : Aside0 (w43.heap[gb121]? = some (.cells #[.bool a2_0, .int .i64 a2_1, .bool a2_2, .int .i64 a2_3, .slice A2_4 l2_4.length c2_4] 25 (0, 0))) := ⟨(by rw [hw]; exact (by (with_reducible repeat (first | refine blk_drewN ?_ _ | refine blk_drew ?_ | refine blk_alloc ?_ _)); refine blk_far ?_ NB121_125.out _; (with_reducible repeat (first | refine blk_drewN ?_ _ | refine blk_drew ?_ | refine blk_alloc ?_ _)); exact BK121.out))⟩; have n3_ : Aside0 (w43.heap[gb123]? = some (.cells #[.int .i64 ((rd_T45 l0 x13_1).f0), .int .i64 ((rd_T45 l0 x13_1).f1), .bool ((rd_T45 l0 x13_1).f2.f0), .int .i64 ((rd_T45 l0 x13_1).f2.f1), .int .i64 ((rd_T45 l0 x13_1).f2.f2), .int .i64 ((rd_T45 l0 x13_1).f3)] 45 (0, 0))) := ⟨(by rw [hw]; exact (by (with_reducible repeat (first | refine blk_drewN ?_ _ | refine blk_drew ?_ | refine blk_alloc ?_ _)); refine blk_far ?_ NB123_125.out _; (with_reducible repeat (first | refine blk_drewN ?_ _ | refine blk_drew ?_ | refine blk_alloc ?_ _)); exact BK123.out))⟩; have n4_ : Aside0 (w43.heap[gb125]? = some (.cells #[.bool a2_0, .int .i64 ((rd_T45 l0 x13_1).f3), .bool a2_2, .int .i64 a2_3, .slice A2_4 l2_4.length c2_4] 25 (0, 0))) := ⟨(by rw [hw]; exact (by (with_reducible repeat (first | refine blk_drewN ?_ _ | refine blk_drew ?_ | refine blk_alloc ?_ _)); refine blk_put (cs := #[.bool a2_0, .int .i64 a2_1, .bool a2_2, .int .i64 a2_3, .slice A2_4 l2_4.length c2_4]) ?_ 1 _ rfl; (with_reducible repeat (first | refine blk_drewN ?_ _ | refine blk_drew ?_ | refine blk_alloc ?_ _)); exact BK125.out))⟩; have n5_ : Aside0 (Below w.heap.size w w43) := ⟨(by rw [hw]; exact (by repeat (first | (with_reducible first | exact HB.out | apply below_alloc | apply pw_below_drewN | apply below_drew1 | refine below_set ?_ GE121.out | refine below_set ?_ GE123.out | refine below_set ?_ GE125.out) | exact HB.out)))⟩; clear hw; clear HO_7; clear HO_122004; clear BK121; clear BK123; clear BK125; clear HB; have HO_7 := n0_; have HO_122004 := n1_; have BK121 := n2_; have BK123 := n3_; have BK125 := n4_; have HB := n5_; clear n0_ n1_ n2_ n3_ n4_ n5_; have hcz44_0 : w43.cell? ⟨gb123, 0, none⟩ = some (.int .i64 ((rd_T45 l0 x13_1).f0)) := (blk_cell BK123.out 0).trans rfl; have hcz44_1 : w43.cell? ⟨gb123, 1, none⟩ = some (.int .i64 ((rd_T45 l0 x13_1).f1)) := (blk_cell BK123.out 1).trans rfl; have hcz44_2 : w43.cell? ⟨gb123, 2, none⟩ = some (.bool ((rd_T45 l0 x13_1).f2.f0)) := (blk_cell BK123.out 2).trans rfl; have hcz44_3 : w43.cell? ⟨gb123, 3, none⟩ = some (.int .i64 ((rd_T45 l0 x13_1).f2.f1)) := (blk_cell BK123.out 3).trans rfl; have hcz44_4 : w43.cell? ⟨gb123, 4, none⟩ = some (.int .i64 ((rd_T45 l0 x13_1).f2.f2)) := (blk_cell BK123.out 4).trans rfl; have hcz44_5 : w43.cell? ⟨gb123, 5, none⟩ = some (.int .i64 ((rd_T45 l0 x13_1).f3)) := (blk_cell BK123.out 5).trans rfl; have hfz44_0 := blk_frozen BK123.out 0; have hfz44_1 := blk_frozen BK123.out 1; have hfz44_2 := blk_frozen BK123.out 2; have hfz44_3 := blk_frozen BK123.out 3; have hfz44_4 := blk_frozen BK123.out 4; have hfz44_5 := blk_frozen BK123.out 5; have hcz45_0 : w43.cell? ⟨gb125, 0, none⟩ = some (.bool a2_0) := (blk_cell BK125.out 0).trans rfl; have hcz45_1 : w43.cell? ⟨gb125, 1, none⟩ = some (.int .i64 ((rd_T45 l0 x13_1).f3)) := (blk_cell BK125.out 1).trans rfl; have hcz45_2 : w43.cell? ⟨gb125, 2, none⟩ = some (.bool a2_2) := (blk_cell BK125.out 2).trans rfl; have hcz45_3 : w43.cell? ⟨gb125, 3, none⟩ = some (.int .i64 a2_3) := (blk_cell BK125.out 3).trans rfl; have hcz45_4 : w43.cell? ⟨gb125, 4, none⟩ = some (.slice A2_4 l2_4.length c2_4) := (blk_cell BK125.out 4).trans rfl; have hfz45_0 := blk_frozen BK125.out 0; have hfz45_1 := blk_frozen BK125.out 1; have hfz45_2 := blk_frozen BK125.out 2; have hfz45_3 := blk_frozen BK125.out 3; have hfz45_4 := blk_frozen BK125.out 4) | ((with_reducible refine gate_builtin (b := .append) (xs := #[.tmp 35, .tmp 40]) rfl ?_); at_builtin; refine Kd.N_append k38 (w0 := w) w.heap.size rfl (.tmp 35) (.tmp 40) 33 38 (.agg #[(.int .i64 0), (.bool false), (.int .i64 0), (.bool false), (.int .i64 0), (.slice none 0 0)]) 64 rfl Try.underlying33 info38 rfl (by decide) (by omega) u7 x7_1 (⟨((rd_T45 l0 x13_1).f1), (⟨a2_0, ((rd_T45 l0 x13_1).f3), a2_2, a2_3, l2_4⟩ : S25)⟩ : S38) [.int .i64 ((rd_T45 l0 x13_1).f1), .bool a2_0, .int .i64 ((rd_T45 l0 x13_1).f3), .bool a2_2, .int .i64 a2_3, .slice A2_4 l2_4.length c2_4] (fun k_ => (P2_4_ k_ ∨ w.heap.size ≤ k_) ∧ k_ ≠ gb121 ∧ k_ ≠ gb123 ∧ k_ ≠ gb125) (fun k_ => ((fun k_ => (P2_4_ k_ ∨ w.heap.size ≤ k_) ∧ k_ ≠ gb121 ∧ k_ ≠ gb123 ∧ k_ ≠ gb125)) k_ ∧ some k_ ≠ (u7 : Value).ownBlock) rfl rfl ?aP (fun _ hk => hk) ?aF ?aO ?aB ?aS ?aL ?_; (case aP => exact (k38_mkF _ _ (⟨((rd_T45 l0 x13_1).f1), (⟨a2_0, ((rd_T45 l0 x13_1).f3), a2_2, a2_3, l2_4⟩ : S25)⟩ : S38) (Kd.V_reads' (Kd.V_mono (ok' := (fun k_ => ((fun k_ => (P2_4_ k_ ∨ w.heap.size ≤ k_) ∧ k_ ≠ gb121 ∧ k_ ≠ gb123 ∧ k_ ≠ gb125)) k_ ∧ some k_ ≠ (u7 : Value).ownBlock)) (HO_122004.out) (fun k_ hk => ⟨⟨hk.1, ⟨hk.2.2.1, ⟨hk.2.2.2.1, hk.2.2.2.2⟩⟩⟩, hk.2.1⟩))).2.1 (Kd.V_F (Kd.V_mono (ok' := (fun k_ => ((fun k_ => (P2_4_ k_ ∨ w.heap.size ≤ k_) ∧ k_ ≠ gb121 ∧ k_ ≠ gb123 ∧ k_ ≠ gb125)) k_ ∧ some k_ ≠ (u7 : Value).ownBlock)) (HO_122004.out) (fun k_ hk => ⟨⟨hk.1, ⟨hk.2.2.1, ⟨hk.2.2.2.1, hk.2.2.2.2⟩⟩⟩, hk.2.1⟩))))); (case aB => exact (by repeat (first | (with_reducible first | exact HB.out | apply below_alloc | apply pw_below_drewN | apply below_drew1 | refine below_set ?_ GE121.out | refine below_set ?_ GE123.out | refine below_set ?_ GE125.out) | exact HB.out))); (case aF => exact (fun k_ hk => ⟨(.inr (Nat.le_trans (below_size (by repeat (first | (with_reducible first | exact HB.out | apply below_alloc | apply pw_below_drewN | apply below_drew1 | refine below_set ?_ GE121.out | refine below_set ?_ GE123.out | refine below_set ?_ GE125.out) | exact HB.out))) hk)), Kd.freshB (g := gb121) (o := .cells #[.bool a2_0, .int .i64 a2_1, .bool a2_2, .int .i64 a2_3, .slice A2_4 l2_4.length c2_4] 25 (0, 0)) (by (with_reducible repeat (first | refine blk_drewN ?_ _ | refine blk_drew ?_ | refine blk_alloc ?_ _)); exact BK121.out) k_ hk, Kd.freshB (g := gb123) (o := .cells #[.int .i64 ((rd_T45 l0 x13_1).f0), .int .i64 ((rd_T45 l0 x13_1).f1), .bool ((rd_T45 l0 x13_1).f2.f0), .int .i64 ((rd_T45 l0 x13_1).f2.f1), .int .i64 ((rd_T45 l0 x13_1).f2.f2), .int .i64 ((rd_T45 l0 x13_1).f3)] 45 (0, 0)) (by (with_reducible repeat (first | refine blk_drewN ?_ _ | refine blk_drew ?_ | refine blk_alloc ?_ _)); exact BK123.out) k_ hk, Kd.freshB (g := gb125) (o := .cells #[.bool a2_0, .int .i64 ((rd_T45 l0 x13_1).f3), .bool a2_2, .int .i64 a2_3, .slice A2_4 l2_4.length c2_4] 25 (0, 0)) (by (with_reducible repeat (first | refine blk_drewN ?_ _ | refine blk_drew ?_ | refine blk_alloc ?_ _)); exact BK125.out) k_ hk⟩)); (case aO => exact (by (with_reducible repeat (first | apply Kd.N_alloc | apply Kd.N_drewN | apply Kd.N_drew)); exact HO_7.out)); (case aS => exact (below_size (by repeat (first | (with_reducible first | exact HB.out | apply below_alloc | apply pw_below_drewN | apply below_drew1 | refine below_set ?_ GE121.out | refine below_set ?_ GE123.out | refine below_set ?_ GE125.out) | exact HB.out)))); (case aL => have := LMc33.out; omega); intro v130 w46 ho hb hg hat; rw [← Ny129.out] at ho; have n0_ := Aside0.mk (Kd.V_afterv (ok := (fun k_ => (P2_4_ k_ ∨ w.heap.size ≤ k_) ∧ k_ ≠ gb121 ∧ k_ ≠ gb123 ∧ k_ ≠ gb125)) (by (with_reducible repeat (first | apply Kd.V_alloc | apply Kd.V_drewN | apply Kd.V_drew)); exact Kd.V_mono HO_122004.out (fun _ hk => ⟨⟨hk.1, ⟨hk.2.2.1, ⟨hk.2.2.2.1, hk.2.2.2.2⟩⟩⟩, hk.2.1⟩)) hg hat); have n1_ := Aside0.mk (blk_grown (g := gb121) (o := .cells #[.bool a2_0, .int .i64 a2_1, .bool a2_2, .int .i64 a2_3, .slice A2_4 l2_4.length c2_4] 25 (0, 0)) (by (with_reducible repeat (first | refine blk_drewN ?_ _ | refine blk_drew ?_ | refine blk_alloc ?_ _)); exact BK121.out) hg (Kd.N_ne HO_7.out BK121.out (by decide))); have n2_ := Aside0.mk (blk_grown (g := gb123) (o := .cells #[.int .i64 ((rd_T45 l0 x13_1).f0), .int .i64 ((rd_T45 l0 x13_1).f1), .bool ((rd_T45 l0 x13_1).f2.f0), .int .i64 ((rd_T45 l0 x13_1).f2.f1), .int .i64 ((rd_T45 l0 x13_1).f2.f2), .int .i64 ((rd_T45 l0 x13_1).f3)] 45 (0, 0)) (by (with_reducible repeat (first | refine blk_drewN ?_ _ | refine blk_drew ?_ | refine blk_alloc ?_ _)); exact BK123.out) hg (Kd.N_ne HO_7.out BK123.out (by decide))); have n3_ := Aside0.mk (blk_grown (g := gb125) (o := .cells #[.bool a2_0, .int .i64 ((rd_T45 l0 x13_1).f3), .bool a2_2, .int .i64 a2_3, .slice A2_4 l2_4.length c2_4] 25 (0, 0)) (by (with_reducible repeat (first | refine blk_drewN ?_ _ | refine blk_drew ?_ | refine blk_alloc ?_ _)); exact BK125.out) hg (Kd.N_ne HO_7.out BK125.out (by decide))); have n4_ := Aside0.mk (hb); have n5_ := Aside0.mk (ho); clear HO_122004; clear BK121; clear BK123; clear BK125; clear HB; clear HO_7; have HO_122004 := n0_; have BK121 := n1_; have BK123 := n2_; have BK125 := n3_; have HB := n4_; have HO131 := n5_; clear n0_ n1_ n2_ n3_ n4_ n5_; clear ho hb hg hat))
                      go_roundg kj7
                      case measure => have := HK1.out; have := HJ7.out; omega
                      case rel => exact ⟨(y129), (wrap64 (x13_1 + 1)), (by first | rfl | (simp; done) | (simp [*]; done)), H', ⟨by have := HK1.out; have := HJ7.out; omega⟩, ⟨by (with_reducible repeat (first | apply Kd.N_alloc | apply Kd.N_drewN | apply Kd.N_drew)); exact Kd.N_mono HO131.out (fun _ hk => ⟨hk.1, hk.2.1⟩)⟩, ⟨by (with_reducible repeat (first | apply Kd.V_alloc | apply Kd.V_drewN | apply Kd.V_drew)); exact Kd.V_mono HO_122004.out (fun _ hk => ⟨hk.1.1, ⟨hk.2, hk.1.2.1⟩⟩)⟩, ⟨by (with_reducible repeat (first | refine blk_drewN ?_ _ | refine blk_drew ?_ | refine blk_alloc ?_ _)); exact BK121.out⟩, ⟨by repeat (first | (with_reducible first | exact HB.out | apply below_alloc | apply pw_below_drewN | apply below_drew1 | refine below_set ?_ GE121.out | refine below_set ?_ GE123.out | refine below_set ?_ GE125.out) | exact HB.out)⟩⟩
                    · rw [if_neg c33] at H
                      exact absurd H (by simp)
          · rw [if_neg c7] at H
            exact absurd H (by simp)
        · rw [if_neg c6] at H
          exact absurd H (by simp)
      · rw [if_neg c5] at H
        have c5b0 : decide (x13_1 < (l0.length : Int)) = false := decide_eq_false c5
        clear c5
        obtain rfl := Option.some.inj H
        go_wp2
        go_ret
        exact ⟨_, by first | rfl | (simp [errW_none, errW_some] <;> rfl) | (simp [*, errW_none, errW_some] <;> rfl), by (with_reducible repeat (first | apply Kd.N_alloc | apply Kd.N_drewN | apply Kd.N_drew)); exact Kd.N_mono HO_7.out (fun _ hk => hk.1), by repeat (first | (with_reducible first | exact HB.out | apply below_alloc | apply pw_below_drewN | apply below_drew1 | refine below_set ?_ GE121.out) | exact HB.out)⟩

/-! ### route_ReachNext: function 31 -/
def route_ReachNext.l0 : Nat → List (S45) → List (S38) → List (S38) → Int → Int → Option ((List (S38)))
  | 0, _, _, _, _, _ => none
  | k + 1, x1, x4, x7, x8, x9 => if x9 < x8 then (if 0 ≤ x9 then (if x9 < (x7.length : Int) then ((route_Hops.f k x1 ((rd_T38 x7 x9).f0) ((rd_T38 x7 x9).f1.f0) ((rd_T38 x7 x9).f1.f1) ((rd_T38 x7 x9).f1.f2) ((rd_T38 x7 x9).f1.f3) ((rd_T38 x7 x9).f1.f4)).bind fun t134 => (if x4.length + t134.length < 2199023255552 then (route_ReachNext.l0 k x1 (x4 ++ t134) x7 x8 (wrap64 (x9 + 1))) else (none))) else (none)) else (none)) else (some x4)
def route_ReachNext.f (k : Nat) (l0 : List (S38)) (l1 : List (S45)) : Option ((List (S38))) := route_ReachNext.l0 k l1 ([] : List (S38)) l0 (l0.length : Int) 0
theorem route_ReachNext.mono_l : ∀ k, (∀ y0 y1 y2 y3 y4, LeO (route_ReachNext.l0 k y0 y1 y2 y3 y4) (route_ReachNext.l0 (k + 1) y0 y1 y2 y3 y4))
  | 0 => fun _ _ _ _ _ r h => by simp [route_ReachNext.l0] at h
  | k + 1 => by
    have ih0 := route_ReachNext.mono_l k
    · intro y0 y1 y2 y3 y4
      unfold route_ReachNext.l0
      repeat' first
      | (with_reducible exact ih0 _ _ _ _ _)
      | (with_reducible exact route_Hops.mono _ _ _ _ _ _ _ _)
      | (with_reducible exact LeO.refl _)
      | (with_reducible exact LeO.none _)
      | (with_reducible refine LeO.ite ?_ ?_)
      | (with_reducible refine LeO.bind ?_ (fun _ => ?_))
      | exact ih0 _ _ _ _ _
      | exact route_Hops.mono _ _ _ _ _ _ _ _
      | exact LeO.none _
      | refine LeO.ite ?_ ?_
      | refine LeO.bind ?_ (fun _ => ?_)
theorem route_ReachNext.mono : ∀ a0 a1 k, LeO (route_ReachNext.f k a0 a1) (route_ReachNext.f (k + 1) a0 a1) := by
  intro a0 a1 k
  have ih0 := route_ReachNext.mono_l k
  unfold route_ReachNext.f
  repeat' first
      | (with_reducible exact ih0 _ _ _ _ _)
      | (with_reducible exact route_Hops.mono _ _ _ _ _ _ _ _)
      | (with_reducible exact LeO.refl _)
      | (with_reducible exact LeO.none _)
      | (with_reducible refine LeO.ite ?_ ?_)
      | (with_reducible refine LeO.bind ?_ (fun _ => ?_))
      | exact ih0 _ _ _ _ _
      | exact route_Hops.mono _ _ _ _ _ _ _ _
      | exact LeO.none _
      | refine LeO.ite ?_ ?_
      | refine LeO.bind ?_ (fun _ => ?_)
set_option maxHeartbeats 8000000 in
set_option maxRecDepth 100000 in
theorem route_ReachNext.calls (k : Nat) (P0_ : Nat → Prop) (A0 : Option Addr) (c0 : Nat) (l0 : List (S38)) (A1 : Option Addr) (c1 : Nat) (l1 : List (S45)) (r : List (S38)) (w : World) (hs0 : Kd.V k38 38 w w.heap.size (fun k_ => P0_ k_) (.slice A0 l0.length c0) l0) (hr1 : Kd.C k45 w A1 l1.length l1) (hc1 : l1.length ≤ c1) (h : route_ReachNext.f k l0 l1 = some r) (gl : Nat) (hgl : gl < w.heap.size) (hcl : w.cell? ⟨gl, 0, none⟩ = some (.slice A1 l1.length c1)) :
    Calls Try.prog 31 #[.slice A0 l0.length c0, .pointer (some ⟨gl, 0, none⟩)] w fun e w' => ∃ v0_ : Value, e = .returned (v0_) ∧ Kd.N k38 38 w' w.heap.size (fun k_ => (P0_ k_ ∨ w.heap.size ≤ k_)) v0_ r ∧ Below w.heap.size w w' := by
  have hu38 := Try.underlying38
  have hu25 := Try.underlying25
  have HO0 := Aside0.mk (show Kd.V k38 38 w w.heap.size (fun k_ => (P0_ k_ ∨ w.heap.size ≤ k_)) (.slice A0 l0.length c0) l0 from Kd.V_mono hs0 (fun k_ hk => .inl hk))
  have HR1 := Aside0.mk hr1
  have HC1 := Aside0.mk hc1
  clear hr1 hc1
  have HB := Aside0.mk (Below.refl w.heap.size w)
  have HGL := Aside0.mk hgl
  have HCL := Aside0.mk hcl
  clear hgl hcl
  have H : (route_ReachNext.l0 k l1 ([] : List (S38)) l0 (l0.length : Int) 0) = some r := h
  clear h
  have H' := Aside0.mk H
  clear H
  go_enter Try.func31, Try.ntmps31
  go_wp2
  go_loopg [4, 9] k (fun kq v4 v9 w' => ∃ (x4_1 : List (S38)) (x9_1 : Int), v9 = .int .i64 x9_1 ∧ Aside0 (route_ReachNext.l0 kq l1 x4_1 l0 (l0.length : Int) x9_1 = some r) ∧ Aside0 (kq ≤ k) ∧ Aside0 (Kd.N k38 38 w' w.heap.size (fun k_ => (P0_ k_ ∨ w.heap.size ≤ k_)) v4 x4_1) ∧ Aside0 (Kd.V k38 38 w' w.heap.size (fun k_ => (P0_ k_ ∨ w.heap.size ≤ k_) ∧ some k_ ≠ (v4 : Value).ownBlock) (.slice A0 l0.length c0) l0) ∧ Aside0 (Below w.heap.size w w'))
  case atStart => exact ⟨(([] : List (S38))), (0), (by first | rfl | (simp; done) | (simp [*]; done)), H', ⟨Nat.le_refl _⟩, ⟨by first | exact Kd.S_nil _ _ _ _ _ | exact Kd.N_nil _ _ _ _ _ | exact Kd.V_nil _ _ _ _ _ | exact Kd.Q_nil _ _ _ _ _ | exact Kd.R_nil _ _ _ _ _⟩, ⟨by (with_reducible repeat (first | apply Kd.V_alloc | apply Kd.V_drewN | apply Kd.V_drew)); exact Kd.V_mono HO0.out (fun _ hk => ⟨hk, (by simp [Value.ownBlock])⟩)⟩, ⟨by repeat (first | (with_reducible first | exact HB.out | apply below_alloc | apply pw_below_drewN | apply below_drew1) | exact HB.out)⟩⟩
  case round =>
    clear H'
    try clear c1
    try clear p2
    obtain ⟨x4_1, x9_1, rfl, HA, HK1, HO_4, HO_7, HB⟩ := hrel
    cases gk with
    | zero => exact absurd HA.out (by simp [route_ReachNext.l0])
    | succ k1 =>
      have H := HA.out
      clear HA
      simp only [route_ReachNext.l0] at H
      by_cases c3 : x9_1 < (l0.length : Int)
      · rw [if_pos c3] at H
        have c3b0 : decide (x9_1 < (l0.length : Int)) = true := decide_eq_true c3
        clear c3
        by_cases c4 : 0 ≤ x9_1
        · rw [if_pos c4] at H
          have c4b0 : decide (0 ≤ x9_1) = true := decide_eq_true c4
          clear c4
          by_cases c5 : x9_1 < (l0.length : Int)
          · rw [if_pos c5] at H
            have c5b0 : decide (x9_1 < (l0.length : Int)) = true := decide_eq_true c5
            clear c5
            replace H := Option.bind_eq_some_iff.mp H
            obtain ⟨t134, A60, H⟩ := H
            replace H : (if x4_1.length + t134.length < 2199023255552 then (route_ReachNext.l0 k1 l1 (x4_1 ++ t134) l0 (l0.length : Int) (wrap64 (x9_1 + 1))) else (none)) = some r := H
            have A6 := Aside0.mk A60
            clear A60
            by_cases c7 : x4_1.length + t134.length < 2199023255552
            · rw [if_pos c7] at H
              have LMc7 := Aside0.mk c7
              clear c7
              obtain ⟨y137, hy137⟩ : ∃ y_ : List (S38), y_ = (x4_1 ++ t134) := ⟨_, rfl⟩
              replace H : (route_ReachNext.l0 k1 l1 y137 l0 (l0.length : Int) (wrap64 (x9_1 + 1))) = some r := by first | (rw [hy137]; with_reducible exact H) | (have H2_ := (Option.bind_some _ _).symm.trans H; rw [hy137]; with_reducible exact H2_) | (have H2_ := (Option.bind_some _ _).symm.trans H; with_reducible exact H2_) | with_reducible exact H | (rw [hy137]; exact H) | exact H
              have Ny137 := Aside0.mk hy137
              clear hy137
              have H' := Aside0.mk H
              clear H
              have p132 : 0 ≤ (x9_1 : Int) := of_decide_eq_true (by first | (with_reducible assumption) | assumption)
              have q132 : x9_1 < (l0.length : Int) := of_decide_eq_true (by first | (with_reducible assumption) | assumption)
              obtain ⟨ad132, A132_5, c132_5, e132, hx132_0, hx132_1, hx132_2, hx132_3, hx132_4, hx132_5, hl132_5, hi132_5⟩ := at_T38 (Kd.V_reads' HO_7.out).2.2 x9_1 p132 q132
              cases e132
              obtain ⟨ce132, hce132, hMe132, hcc132⟩ := Kd.V_get HO_7.out z38 x9_1 p132 (by first | exact q132 | exact of_decide_eq_true (by first | (with_reducible assumption) | assumption) | (have e_ := (Kd.V_reads' HO_7.out).1; omega))
              obtain ⟨ua132_5, uc132_5, rfl, ul132_5, ge132_5⟩ := k38_openF hMe132
              have hv132_5 := hcc132 5 _ rfl
              rw [add_field _ _ 5 (by omega)] at hv132_5
              replace hv132_5 := Option.some.inj (hv132_5.symm.trans hx132_5)
              injection hv132_5 with hva_ hvn_ hvc_
              rw [hva_] at ge132_5
              rw [hvc_] at ul132_5
              have HL132_5 := Aside0.mk (show Kd.V (Kd.int .u8) 5 _ w.heap.size _ _ ((rd_T38 l0 x9_1).f1.f4) from Kd.V_mk ul132_5 ge132_5)
              clear hva_ hvn_ hvc_ ge132_5 ul132_5
              clear hcc132 hce132
              have HR132_5 := Aside0.mk hi132_5
              have HC132_5 := Aside0.mk hl132_5
              clear hi132_5 hl132_5
              replace p132 := eq_true p132
              replace q132 := eq_true q132
              go_wp2_with (first | ((with_reducible refine gate_dst (N := 6) rfl ?_); refine box_event ?hg (N := 6) ?hd (cs := #[.int .i64 0, .bool false, .int .i64 0, .bool false, .int .i64 0, .slice none 0 0]) (t := 38) ?hr ?_; (case hd => rfl); (case hg => rfl); (case hr => first | (go_simp; done) | (go_simp; rfl)); intro gb133 hg w8 hbox hb; have n0_ := Aside0.mk (Kd.N_below (Kd.N_elderB (by (with_reducible repeat (first | apply Kd.N_alloc | apply Kd.N_drewN | apply Kd.N_drew)); exact HO_4.out) gb133 (Nat.le_of_eq hg.symm)) hb); have n1_ := Aside0.mk (Kd.V_below (Kd.V_elderB (by (with_reducible repeat (first | apply Kd.V_alloc | apply Kd.V_drewN | apply Kd.V_drew)); exact HO_7.out) gb133 (Nat.le_of_eq hg.symm)) hb); have n2_ := Aside0.mk (Kd.V_below (Kd.V_elderB (by (with_reducible repeat (first | apply Kd.V_alloc | apply Kd.V_drewN | apply Kd.V_drew)); exact HL132_5.out) gb133 (Nat.le_of_eq hg.symm)) hb); have n3_ := Aside0.mk (Kd.C_below (by repeat (first | (with_reducible exact HR132_5.out) | (with_reducible refine Kd.C_alloc ?_ _) | (with_reducible refine Kd.C_drewN ?_ _) | (with_reducible refine Kd.C_drew ?_) | exact HR132_5.out)) hb); have n4_ := Aside0.mk (below_step (by repeat (first | (with_reducible first | exact HB.out | apply below_alloc | apply pw_below_drewN | apply below_drew1) | exact HB.out)) hb); have n5_ := Aside0.mk (hbox); have n6_ := Aside0.mk ((by rw [hg]; exact (below_size (by repeat (first | (with_reducible first | exact HB.out | apply below_alloc | apply pw_below_drewN | apply below_drew1) | exact HB.out))) : w.heap.size ≤ gb133)); have n7_ := Aside0.mk ((by rw [hg]; exact (below_size (by repeat (first | (with_reducible first | exact HB.out | apply below_alloc | apply pw_below_drewN | apply below_drew1) | exact HB.out))) : w.heap.size ≤ gb133)); clear HO_4; clear HO_7; clear HL132_5; clear HR132_5; clear HB; have HO_4 := n0_; have HO_7 := n1_; have HL132_5 := n2_; have HR132_5 := n3_; have HB := n4_; have BK133 := n5_; have GW133 := n6_; have GE133 := n7_; clear n0_ n1_ n2_ n3_ n4_ n5_ n6_ n7_; clear hb hbox hg; have hcz9_0 : w8.cell? ⟨gb133, 0, none⟩ = some (.int .i64 0) := (blk_cell BK133.out 0).trans rfl; have hcz9_1 : w8.cell? ⟨gb133, 1, none⟩ = some (.bool false) := (blk_cell BK133.out 1).trans rfl; have hcz9_2 : w8.cell? ⟨gb133, 2, none⟩ = some (.int .i64 0) := (blk_cell BK133.out 2).trans rfl; have hcz9_3 : w8.cell? ⟨gb133, 3, none⟩ = some (.bool false) := (blk_cell BK133.out 3).trans rfl; have hcz9_4 : w8.cell? ⟨gb133, 4, none⟩ = some (.int .i64 0) := (blk_cell BK133.out 4).trans rfl; have hcz9_5 : w8.cell? ⟨gb133, 5, none⟩ = some (.slice none 0 0) := (blk_cell BK133.out 5).trans rfl; have hfz9_0 := blk_frozen BK133.out 0; have hfz9_1 := blk_frozen BK133.out 1; have hfz9_2 := blk_frozen BK133.out 2; have hfz9_3 := blk_frozen BK133.out 3; have hfz9_4 := blk_frozen BK133.out 4; have hfz9_5 := blk_frozen BK133.out 5; have hcl_ := (HB.out.cell (p := ⟨gl, 0, none⟩) HGL.out).trans HCL.out; have hnl_ := Nat.ne_of_lt (Nat.lt_of_lt_of_le HGL.out GE133.out); have hnm_ := hnl_.symm) | ((with_reducible refine gate_store (t := 38) (p := 6) rfl ?_); refine store_event (t := 38) (p := 6) (v := ?vo_w10) (w1 := ((((((w8.setCell ⟨gb133, 0, none⟩ (.int .i64 ((rd_T38 l0 x9_1).f0))).setCell ⟨gb133, 1, none⟩ (.bool ((rd_T38 l0 x9_1).f1.f0))).setCell ⟨gb133, 2, none⟩ (.int .i64 ((rd_T38 l0 x9_1).f1.f1))).setCell ⟨gb133, 3, none⟩ (.bool ((rd_T38 l0 x9_1).f1.f2))).setCell ⟨gb133, 4, none⟩ (.int .i64 ((rd_T38 l0 x9_1).f1.f3))).setCell ⟨gb133, 5, none⟩ (.slice A132_5 ((rd_T38 l0 x9_1).f1.f4).length c132_5))) ?hg ?ho ?hn ?hr ?_; (case ho => rfl); (case hg => rfl); (case hn => rfl); (case hr => first | (go_simp; done) | (go_simp; rfl)); intro w10 hw; have n0_ : Aside0 (Kd.N k38 38 w10 w.heap.size (fun k_ => (P0_ k_ ∨ w.heap.size ≤ k_) ∧ k_ ≠ gb133) u4 x4_1) := ⟨(by rw [hw]; exact (by (with_reducible repeat (first | apply Kd.N_alloc | apply Kd.N_drewN | apply Kd.N_drew)); exact Kd.N_mono (Kd.N_far (p := ⟨gb133, 5, none⟩) (Kd.N_far (p := ⟨gb133, 4, none⟩) (Kd.N_far (p := ⟨gb133, 3, none⟩) (Kd.N_far (p := ⟨gb133, 2, none⟩) (Kd.N_far (p := ⟨gb133, 1, none⟩) (Kd.N_far (p := ⟨gb133, 0, none⟩) (Kd.N_mono HO_4.out (fun k_ hk => (⟨hk, hk.2⟩ : _ ∧ k_ ≠ gb133))) (fun _ hk => hk.2) (.int .i64 ((rd_T38 l0 x9_1).f0))) (fun _ hk => hk.2) (.bool ((rd_T38 l0 x9_1).f1.f0))) (fun _ hk => hk.2) (.int .i64 ((rd_T38 l0 x9_1).f1.f1))) (fun _ hk => hk.2) (.bool ((rd_T38 l0 x9_1).f1.f2))) (fun _ hk => hk.2) (.int .i64 ((rd_T38 l0 x9_1).f1.f3))) (fun _ hk => hk.2) (.slice A132_5 ((rd_T38 l0 x9_1).f1.f4).length c132_5)) (fun _ hk => ⟨hk.1.1, hk.1.2⟩)))⟩; have n1_ : Aside0 (Kd.V k38 38 w10 w.heap.size (fun k_ => (P0_ k_ ∨ w.heap.size ≤ k_) ∧ some k_ ≠ (u4 : Value).ownBlock ∧ k_ ≠ gb133) (.slice (some ad132) l0.length c0) l0) := ⟨(by rw [hw]; exact (by (with_reducible repeat (first | apply Kd.V_alloc | apply Kd.V_drewN | apply Kd.V_drew)); exact Kd.V_mono (Kd.V_far (p := ⟨gb133, 5, none⟩) (Kd.V_far (p := ⟨gb133, 4, none⟩) (Kd.V_far (p := ⟨gb133, 3, none⟩) (Kd.V_far (p := ⟨gb133, 2, none⟩) (Kd.V_far (p := ⟨gb133, 1, none⟩) (Kd.V_far (p := ⟨gb133, 0, none⟩) (Kd.V_mono HO_7.out (fun k_ hk => (⟨hk, hk.2⟩ : _ ∧ k_ ≠ gb133))) (fun _ hk => hk.2) (.int .i64 ((rd_T38 l0 x9_1).f0))) (fun _ hk => hk.2) (.bool ((rd_T38 l0 x9_1).f1.f0))) (fun _ hk => hk.2) (.int .i64 ((rd_T38 l0 x9_1).f1.f1))) (fun _ hk => hk.2) (.bool ((rd_T38 l0 x9_1).f1.f2))) (fun _ hk => hk.2) (.int .i64 ((rd_T38 l0 x9_1).f1.f3))) (fun _ hk => hk.2) (.slice A132_5 ((rd_T38 l0 x9_1).f1.f4).length c132_5)) (fun _ hk => ⟨hk.1.1.1, ⟨hk.1.1.2, hk.1.2⟩⟩)))⟩; have n2_ : Aside0 (Kd.V (Kd.int .u8) 5 w10 w.heap.size (fun k_ => (P0_ k_ ∨ w.heap.size ≤ k_) ∧ some k_ ≠ (u4 : Value).ownBlock ∧ k_ ≠ gb133) (.slice A132_5 ((rd_T38 l0 x9_1).f1.f4).length c132_5) ((rd_T38 l0 x9_1).f1.f4)) := ⟨(by rw [hw]; exact (by (with_reducible repeat (first | apply Kd.V_alloc | apply Kd.V_drewN | apply Kd.V_drew)); exact Kd.V_mono (Kd.V_far (p := ⟨gb133, 5, none⟩) (Kd.V_far (p := ⟨gb133, 4, none⟩) (Kd.V_far (p := ⟨gb133, 3, none⟩) (Kd.V_far (p := ⟨gb133, 2, none⟩) (Kd.V_far (p := ⟨gb133, 1, none⟩) (Kd.V_far (p := ⟨gb133, 0, none⟩) (Kd.V_mono HL132_5.out (fun k_ hk => (⟨hk, hk.2⟩ : _ ∧ k_ ≠ gb133))) (fun _ hk => hk.2) (.int .i64 ((rd_T38 l0 x9_1).f0))) (fun _ hk => hk.2) (.bool ((rd_T38 l0 x9_1).f1.f0))) (fun _ hk => hk.2) (.int .i64 ((rd_T38 l0 x9_1).f1.f1))) (fun _ hk => hk.2) (.bool ((rd_T38 l0 x9_1).f1.f2))) (fun _ hk => hk.2) (.int .i64 ((rd_T38 l0 x9_1).f1.f3))) (fun _ hk => hk.2) (.slice A132_5 ((rd_T38 l0 x9_1).f1.f4).length c132_5)) (fun _ hk => ⟨hk.1.1.1, ⟨hk.1.1.2, hk.1.2⟩⟩)))⟩; have n3_ : Aside0 (w10.heap[gb133]? = some (.cells #[.int .i64 ((rd_T38 l0 x9_1).f0), .bool ((rd_T38 l0 x9_1).f1.f0), .int .i64 ((rd_T38 l0 x9_1).f1.f1), .bool ((rd_T38 l0 x9_1).f1.f2), .int .i64 ((rd_T38 l0 x9_1).f1.f3), .slice A132_5 ((rd_T38 l0 x9_1).f1.f4).length c132_5] 38 (0, 0))) := ⟨(by rw [hw]; exact (by (with_reducible repeat (first | refine blk_drewN ?_ _ | refine blk_drew ?_ | refine blk_alloc ?_ _)); refine blk_put (cs := #[.int .i64 ((rd_T38 l0 x9_1).f0), .bool ((rd_T38 l0 x9_1).f1.f0), .int .i64 ((rd_T38 l0 x9_1).f1.f1), .bool ((rd_T38 l0 x9_1).f1.f2), .int .i64 ((rd_T38 l0 x9_1).f1.f3), .slice none 0 0]) ?_ 5 _ rfl; (with_reducible repeat (first | refine blk_drewN ?_ _ | refine blk_drew ?_ | refine blk_alloc ?_ _)); refine blk_put (cs := #[.int .i64 ((rd_T38 l0 x9_1).f0), .bool ((rd_T38 l0 x9_1).f1.f0), .int .i64 ((rd_T38 l0 x9_1).f1.f1), .bool ((rd_T38 l0 x9_1).f1.f2), .int .i64 0, .slice none 0 0]) ?_ 4 _ rfl; (with_reducible repeat (first | refine blk_drewN ?_ _ | refine blk_drew ?_ | refine blk_alloc ?_ _)); refine blk_put (cs := #[.int .i64 ((rd_T38 l0 x9_1).f0), .bool ((rd_T38 l0 x9_1).f1.f0), .int .i64 ((rd_T38 l0 x9_1).f1.f1), .bool false, .int .i64 0, .slice none 0 0]) ?_ 3 _ rfl; (with_reducible repeat (first | refine blk_drewN ?_ _ | refine blk_drew ?_ | refine blk_alloc ?_ _)); refine blk_put (cs := #[.int .i64 ((rd_T38 l0 x9_1).f0), .bool ((rd_T38 l0 x9_1).f1.f0), .int .i64 0, .bool false, .int .i64 0, .slice none 0 0]) ?_ 2 _ rfl; (with_reducible repeat (first | refine blk_drewN ?_ _ | refine blk_drew ?_ | refine blk_alloc ?_ _)); refine blk_put (cs := #[.int .i64 ((rd_T38 l0 x9_1).f0), .bool false, .int .i64 0, .bool false, .int .i64 0, .slice none 0 0]) ?_ 1 _ rfl; (with_reducible repeat (first | refine blk_drewN ?_ _ | refine blk_drew ?_ | refine blk_alloc ?_ _)); refine blk_put (cs := #[.int .i64 0, .bool false, .int .i64 0, .bool false, .int .i64 0, .slice none 0 0]) ?_ 0 _ rfl; (with_reducible repeat (first | refine blk_drewN ?_ _ | refine blk_drew ?_ | refine blk_alloc ?_ _)); exact BK133.out))⟩; have n4_ : Aside0 (Below w.heap.size w w10) := ⟨(by rw [hw]; exact (by repeat (first | (with_reducible first | exact HB.out | apply below_alloc | apply pw_below_drewN | apply below_drew1 | refine below_set ?_ GE133.out) | exact HB.out)))⟩; clear hw; clear HO_4; clear HO_7; clear HL132_5; clear BK133; clear HB; have HO_4 := n0_; have HO_7 := n1_; have HL132_5 := n2_; have BK133 := n3_; have HB := n4_; clear n0_ n1_ n2_ n3_ n4_; have hcz11_0 : w10.cell? ⟨gb133, 0, none⟩ = some (.int .i64 ((rd_T38 l0 x9_1).f0)) := (blk_cell BK133.out 0).trans rfl; have hcz11_1 : w10.cell? ⟨gb133, 1, none⟩ = some (.bool ((rd_T38 l0 x9_1).f1.f0)) := (blk_cell BK133.out 1).trans rfl; have hcz11_2 : w10.cell? ⟨gb133, 2, none⟩ = some (.int .i64 ((rd_T38 l0 x9_1).f1.f1)) := (blk_cell BK133.out 2).trans rfl; have hcz11_3 : w10.cell? ⟨gb133, 3, none⟩ = some (.bool ((rd_T38 l0 x9_1).f1.f2)) := (blk_cell BK133.out 3).trans rfl; have hcz11_4 : w10.cell? ⟨gb133, 4, none⟩ = some (.int .i64 ((rd_T38 l0 x9_1).f1.f3)) := (blk_cell BK133.out 4).trans rfl; have hcz11_5 : w10.cell? ⟨gb133, 5, none⟩ = some (.slice A132_5 ((rd_T38 l0 x9_1).f1.f4).length c132_5) := (blk_cell BK133.out 5).trans rfl; have hfz11_0 := blk_frozen BK133.out 0; have hfz11_1 := blk_frozen BK133.out 1; have hfz11_2 := blk_frozen BK133.out 2; have hfz11_3 := blk_frozen BK133.out 3; have hfz11_4 := blk_frozen BK133.out 4; have hfz11_5 := blk_frozen BK133.out 5; (try clear hcl_); have hcl_ := (HB.out.cell (p := ⟨gl, 0, none⟩) HGL.out).trans HCL.out) | (go_at_call 18; fail))
              go_at_call 18
              (with_reducible refine (route_Hops.calls k1 _ _ l1 ((rd_T38 l0 x9_1).f0) ((rd_T38 l0 x9_1).f1.f0) ((rd_T38 l0 x9_1).f1.f1) ((rd_T38 l0 x9_1).f1.f2) ((rd_T38 l0 x9_1).f1.f3) (fun k_ => ((P0_ k_ ∨ w.heap.size ≤ k_) ∧ (some k_ ≠ (u4 : Value).ownBlock ∧ k_ ≠ gb133))) _ _ ((rd_T38 l0 x9_1).f1.f4) t134 _ ?side1 ?side2 ?side3 A6.out).mono ?_)
              (case side1 => repeat (first | exact (Kd.C_below HR1.out HB.out) | (with_reducible refine Kd.C_alloc ?_ _) | (with_reducible refine Kd.C_drewN ?_ _) | (with_reducible refine Kd.C_drew ?_)))
              (case side2 => exact HC1.out)
              (case side3 => exact HL132_5.out)
              rintro e w12 ⟨v135, rfl, ho0, hb⟩
              have n0_ := Aside0.mk (Kd.N_elder' (by (with_reducible repeat (first | apply Kd.N_alloc | apply Kd.N_drewN | apply Kd.N_drew)); exact HO_4.out) (Kd.N_base ho0) hb)
              have n1_ := Aside0.mk (Kd.V_elder' (by (with_reducible repeat (first | apply Kd.V_alloc | apply Kd.V_drewN | apply Kd.V_drew)); exact HO_7.out) (Kd.N_base ho0) hb)
              have n2_ := Aside0.mk (Kd.V_elder' (by (with_reducible repeat (first | apply Kd.V_alloc | apply Kd.V_drewN | apply Kd.V_drew)); exact HL132_5.out) (Kd.N_base ho0) hb)
              have n3_ := Aside0.mk (Kd.N_lower (Kd.N_mono (ok' := fun k_ => (P0_ k_ ∨ w.heap.size ≤ k_) ∧ some k_ ≠ (u4 : Value).ownBlock ∧ k_ ≠ gb133) ho0 (fun k_ hk_ => ⟨Or.elim hk_ (fun hs_ => hs_.1) (fun hn_ => (.inr (Nat.le_trans (below_size (by repeat (first | (with_reducible first | exact HB.out | apply below_alloc | apply pw_below_drewN | apply below_drew1 | refine below_set ?_ GE133.out) | exact HB.out))) hn_))), Or.elim hk_ (fun hs_ => hs_.2.1) (fun hn_ => (Kd.fresh' (Kd.N_lt (by (with_reducible repeat (first | apply Kd.N_alloc | apply Kd.N_drewN | apply Kd.N_drew)); exact HO_4.out)) k_ hn_)), Or.elim hk_ (fun hs_ => hs_.2.2) (fun hn_ => (Kd.freshB (g := gb133) (o := .cells #[.int .i64 ((rd_T38 l0 x9_1).f0), .bool ((rd_T38 l0 x9_1).f1.f0), .int .i64 ((rd_T38 l0 x9_1).f1.f1), .bool ((rd_T38 l0 x9_1).f1.f2), .int .i64 ((rd_T38 l0 x9_1).f1.f3), .slice A132_5 ((rd_T38 l0 x9_1).f1.f4).length c132_5] 38 (0, 0)) (by (with_reducible repeat (first | refine blk_drewN ?_ _ | refine blk_drew ?_ | refine blk_alloc ?_ _)); exact BK133.out) k_ hn_))⟩)) (below_size (by repeat (first | (with_reducible first | exact HB.out | apply below_alloc | apply pw_below_drewN | apply below_drew1 | refine below_set ?_ GE133.out) | exact HB.out))))
              have n4_ := Aside0.mk (Kd.C_below (Kd.V_reads' HL132_5.out).2.2 hb)
              have n5_ := Aside0.mk (blk_below (g := gb133) (o := .cells #[.int .i64 ((rd_T38 l0 x9_1).f0), .bool ((rd_T38 l0 x9_1).f1.f0), .int .i64 ((rd_T38 l0 x9_1).f1.f1), .bool ((rd_T38 l0 x9_1).f1.f2), .int .i64 ((rd_T38 l0 x9_1).f1.f3), .slice A132_5 ((rd_T38 l0 x9_1).f1.f4).length c132_5] 38 (0, 0)) (by (with_reducible repeat (first | refine blk_drewN ?_ _ | refine blk_drew ?_ | refine blk_alloc ?_ _)); exact BK133.out) hb)
              have n6_ := Aside0.mk (below_step (by repeat (first | (with_reducible first | exact HB.out | apply below_alloc | apply pw_below_drewN | apply below_drew1 | refine below_set ?_ GE133.out) | exact HB.out)) hb)
              clear HO_4
              clear HO_7
              clear HL132_5
              clear HR132_5
              clear BK133
              clear HB
              have HO_4 := n0_
              have HO_7 := n1_
              have HL132_5 := n2_
              have HO136 := n3_
              have HR132_5 := n4_
              have BK133 := n5_
              have HB := n6_
              clear n0_ n1_ n2_ n3_ n4_ n5_ n6_
              (try clear hb)
              (try clear hb2)
              (try clear hk)
              (try clear hi)
              (try clear ho0)
              obtain ⟨Ao14, co14, eo14⟩ := Kd.N_slice HO136.out
              subst eo14
              go_wp2_with (first | ((with_reducible refine gate_builtin (b := .append) (xs := #[.tmp 13, .tmp 19]) rfl ?_); at_builtin; refine Kd.N_append_rows k38 (w0 := w) w.heap.size rfl (.tmp 13) (.tmp 19) 33 38 (.agg #[(.int .i64 0), (.bool false), (.int .i64 0), (.bool false), (.int .i64 0), (.slice none 0 0)]) 64 rfl Try.underlying33 info38 rfl (by decide) (by omega) u4 x4_1 t134 _ _ _ (fun k_ => (P0_ k_ ∨ w.heap.size ≤ k_) ∧ k_ ≠ gb133) (fun k_ => ((fun k_ => (P0_ k_ ∨ w.heap.size ≤ k_) ∧ k_ ≠ gb133)) k_ ∧ some k_ ≠ (u4 : Value).ownBlock) rfl rfl ?aO ?aR (fun _ hk => hk) ?aF ?aB ?aS ?aL ?_; (case aR => exact (by skip; exact Kd.N_F (Kd.N_mono (ok' := (fun k_ => ((fun k_ => (P0_ k_ ∨ w.heap.size ≤ k_) ∧ k_ ≠ gb133)) k_ ∧ some k_ ≠ (u4 : Value).ownBlock)) (HO136.out) (fun k_ hk => ⟨⟨hk.1, hk.2.2⟩, hk.2.1⟩)))); (case aB => exact (by repeat (first | (with_reducible first | exact HB.out | apply below_alloc | apply pw_below_drewN | apply below_drew1 | refine below_set ?_ GE133.out) | exact HB.out))); (case aF => exact (fun k_ hk => ⟨(.inr (Nat.le_trans (below_size (by repeat (first | (with_reducible first | exact HB.out | apply below_alloc | apply pw_below_drewN | apply below_drew1 | refine below_set ?_ GE133.out) | exact HB.out))) hk)), Kd.freshB (g := gb133) (o := .cells #[.int .i64 ((rd_T38 l0 x9_1).f0), .bool ((rd_T38 l0 x9_1).f1.f0), .int .i64 ((rd_T38 l0 x9_1).f1.f1), .bool ((rd_T38 l0 x9_1).f1.f2), .int .i64 ((rd_T38 l0 x9_1).f1.f3), .slice A132_5 ((rd_T38 l0 x9_1).f1.f4).length c132_5] 38 (0, 0)) (by (with_reducible repeat (first | refine blk_drewN ?_ _ | refine blk_drew ?_ | refine blk_alloc ?_ _)); exact BK133.out) k_ hk⟩)); (case aO => exact (by (with_reducible repeat (first | apply Kd.N_alloc | apply Kd.N_drewN | apply Kd.N_drew)); exact Kd.N_mono HO_4.out (fun _ hk => ⟨hk.1.1, hk.1.2⟩))); (case aS => exact (below_size (by repeat (first | (with_reducible first | exact HB.out | apply below_alloc | apply pw_below_drewN | apply below_drew1 | refine below_set ?_ GE133.out) | exact HB.out)))); (case aL => have := LMc7.out; omega); intro v138 w13 ho hb hg hat; rw [← Ny137.out] at ho; have n0_ := Aside0.mk (Kd.V_afterv (ok := (fun k_ => (P0_ k_ ∨ w.heap.size ≤ k_) ∧ some k_ ≠ (.slice Ao14 t134.length co14 : Value).ownBlock ∧ k_ ≠ gb133)) (by (with_reducible repeat (first | apply Kd.V_alloc | apply Kd.V_drewN | apply Kd.V_drew)); exact Kd.V_mono HO_7.out (fun _ hk => ⟨⟨hk.1.1, ⟨hk.2, hk.1.2.2⟩⟩, hk.1.2.1⟩)) hg hat); have n1_ := Aside0.mk (Kd.V_afterv (ok := (fun k_ => (P0_ k_ ∨ w.heap.size ≤ k_) ∧ some k_ ≠ (.slice Ao14 t134.length co14 : Value).ownBlock ∧ k_ ≠ gb133)) (by (with_reducible repeat (first | apply Kd.V_alloc | apply Kd.V_drewN | apply Kd.V_drew)); exact Kd.V_mono HL132_5.out (fun _ hk => ⟨⟨hk.1.1, ⟨hk.2, hk.1.2.2⟩⟩, hk.1.2.1⟩)) hg hat); have n2_ := Aside0.mk (blk_grown (g := gb133) (o := .cells #[.int .i64 ((rd_T38 l0 x9_1).f0), .bool ((rd_T38 l0 x9_1).f1.f0), .int .i64 ((rd_T38 l0 x9_1).f1.f1), .bool ((rd_T38 l0 x9_1).f1.f2), .int .i64 ((rd_T38 l0 x9_1).f1.f3), .slice A132_5 ((rd_T38 l0 x9_1).f1.f4).length c132_5] 38 (0, 0)) (by (with_reducible repeat (first | refine blk_drewN ?_ _ | refine blk_drew ?_ | refine blk_alloc ?_ _)); exact BK133.out) hg (Kd.N_away HO_4.out (fun _ hk => hk.1.2))); have n3_ := Aside0.mk (Kd.N_afterv (ok := (fun k_ => (P0_ k_ ∨ w.heap.size ≤ k_) ∧ k_ ≠ gb133)) (by (with_reducible repeat (first | apply Kd.N_alloc | apply Kd.N_drewN | apply Kd.N_drew)); exact Kd.N_mono HO136.out (fun _ hk => ⟨⟨hk.1, hk.2.2⟩, hk.2.1⟩)) hg hat); have n4_ := Aside0.mk (hb); have n5_ := Aside0.mk (ho); clear HO_7; clear HL132_5; clear BK133; clear HO136; clear HB; clear HO_4; have HO_7 := n0_; have HL132_5 := n1_; have BK133 := n2_; have HO136 := n3_; have HB := n4_; have HO139 := n5_; clear n0_ n1_ n2_ n3_ n4_ n5_; clear ho hb hg hat))
              go_roundg k1
              case measure => have := HK1.out; omega
              case rel => exact ⟨(y137), (wrap64 (x9_1 + 1)), (by first | rfl | (simp; done) | (simp [*]; done)), H', ⟨by have := HK1.out; omega⟩, ⟨by (with_reducible repeat (first | apply Kd.N_alloc | apply Kd.N_drewN | apply Kd.N_drew)); exact Kd.N_mono HO139.out (fun _ hk => hk.1)⟩, ⟨by (with_reducible repeat (first | apply Kd.V_alloc | apply Kd.V_drewN | apply Kd.V_drew)); exact Kd.V_mono HO_7.out (fun _ hk => ⟨hk.1.1, hk.2⟩)⟩, ⟨by repeat (first | (with_reducible first | exact HB.out | apply below_alloc | apply pw_below_drewN | apply below_drew1 | refine below_set ?_ GE133.out) | exact HB.out)⟩⟩
            · rw [if_neg c7] at H
              exact absurd H (by simp)
          · rw [if_neg c5] at H
            exact absurd H (by simp)
        · rw [if_neg c4] at H
          exact absurd H (by simp)
      · rw [if_neg c3] at H
        have c3b0 : decide (x9_1 < (l0.length : Int)) = false := decide_eq_false c3
        clear c3
        obtain rfl := Option.some.inj H
        go_wp2
        go_ret
        exact ⟨_, by first | rfl | (simp [errW_none, errW_some] <;> rfl) | (simp [*, errW_none, errW_some] <;> rfl), by (with_reducible repeat (first | apply Kd.N_alloc | apply Kd.N_drewN | apply Kd.N_drew)); exact HO_4.out, by repeat (first | (with_reducible first | exact HB.out | apply below_alloc | apply pw_below_drewN | apply below_drew1) | exact HB.out)⟩

/-! ### route_Reach: function 20 -/
def route_Reach.l0 : Nat → List (S38) → List (S38) → List (S45) → Option ((List (S38)))
  | 0, _, _, _ => none
  | k + 1, x9, x11, x141000 => if (x11.length : Int) > 0 then (if x9.length + x11.length < 2199023255552 then ((route_ReachNext.f k x11 x141000).bind fun t149 => (route_Reach.l0 k (x9 ++ x11) t149 x141000)) else (none)) else (some x9)
def route_Reach.f (k : Nat) (l0 : List (S45)) (a1 : Int) (a2 : Int) (a3_0 : Bool) (a3_1 : Int) (a3_2 : Bool) (a3_3 : Int) (l3_4 : List Int) : Option ((List (S38))) := (route_Loopless.f k l0 a1).bind fun t142 => (if t142 = true then ((route_Hops.f k l0 a2 a3_0 a3_1 a3_2 a3_3 l3_4).bind fun t143 => (route_Reach.l0 k ([] : List (S38)) t143 l0)) else (some ([] : List (S38))))
theorem route_Reach.mono_l : ∀ k, (∀ y0 y1 y2, LeO (route_Reach.l0 k y0 y1 y2) (route_Reach.l0 (k + 1) y0 y1 y2))
  | 0 => fun _ _ _ r h => by simp [route_Reach.l0] at h
  | k + 1 => by
    have ih0 := route_Reach.mono_l k
    · intro y0 y1 y2
      unfold route_Reach.l0
      repeat' first
      | (with_reducible exact ih0 _ _ _)
      | (with_reducible exact route_Hops.mono _ _ _ _ _ _ _ _)
      | (with_reducible exact route_Loopless.mono _ _ _)
      | (with_reducible exact route_ReachNext.mono _ _ _)
      | (with_reducible exact LeO.refl _)
      | (with_reducible exact LeO.none _)
      | (with_reducible refine LeO.ite ?_ ?_)
      | (with_reducible refine LeO.bind ?_ (fun _ => ?_))
      | exact ih0 _ _ _
      | exact route_Hops.mono _ _ _ _ _ _ _ _
      | exact route_Loopless.mono _ _ _
      | exact route_ReachNext.mono _ _ _
      | exact LeO.none _
      | refine LeO.ite ?_ ?_
      | refine LeO.bind ?_ (fun _ => ?_)
theorem route_Reach.mono : ∀ a0 a1 a2 a3 a4 a5 a6 a7 k, LeO (route_Reach.f k a0 a1 a2 a3 a4 a5 a6 a7) (route_Reach.f (k + 1) a0 a1 a2 a3 a4 a5 a6 a7) := by
  intro a0 a1 a2 a3 a4 a5 a6 a7 k
  have ih0 := route_Reach.mono_l k
  unfold route_Reach.f
  repeat' first
      | (with_reducible exact ih0 _ _ _)
      | (with_reducible exact route_Hops.mono _ _ _ _ _ _ _ _)
      | (with_reducible exact route_Loopless.mono _ _ _)
      | (with_reducible exact route_ReachNext.mono _ _ _)
      | (with_reducible exact LeO.refl _)
      | (with_reducible exact LeO.none _)
      | (with_reducible refine LeO.ite ?_ ?_)
      | (with_reducible refine LeO.bind ?_ (fun _ => ?_))
      | exact ih0 _ _ _
      | exact route_Hops.mono _ _ _ _ _ _ _ _
      | exact route_Loopless.mono _ _ _
      | exact route_ReachNext.mono _ _ _
      | exact LeO.none _
      | refine LeO.ite ?_ ?_
      | refine LeO.bind ?_ (fun _ => ?_)
set_option maxHeartbeats 8000000 in
set_option maxRecDepth 100000 in
theorem route_Reach.calls (k : Nat) (A0 : Option Addr) (c0 : Nat) (l0 : List (S45)) (a1 : Int) (a2 : Int) (a3_0 : Bool) (a3_1 : Int) (a3_2 : Bool) (a3_3 : Int) (P3_4_ : Nat → Prop) (A3_4 : Option Addr) (c3_4 : Nat) (l3_4 : List Int) (r : List (S38)) (w : World) (hr0 : Kd.C k45 w A0 l0.length l0) (hc0 : l0.length ≤ c0) (hs3_4 : Kd.V (Kd.int .u8) 5 w w.heap.size (fun k_ => P3_4_ k_) (.slice A3_4 l3_4.length c3_4) l3_4) (h : route_Reach.f k l0 a1 a2 a3_0 a3_1 a3_2 a3_3 l3_4 = some r) :
    Calls Try.prog 20 #[.slice A0 l0.length c0, .int .i64 a1, .int .i64 a2, .agg #[.bool a3_0, .int .i64 a3_1, .bool a3_2, .int .i64 a3_3, .slice A3_4 l3_4.length c3_4]] w fun e w' => ∃ v0_ : Value, e = .returned (v0_) ∧ Kd.N k38 38 w' w.heap.size (fun k_ => (P3_4_ k_ ∨ w.heap.size ≤ k_)) v0_ r ∧ Below w.heap.size w w' := by
  have hu25 := Try.underlying25
  have HR0 := Aside0.mk hr0
  have HC0 := Aside0.mk hc0
  clear hr0 hc0
  have HO3_4 := Aside0.mk (show Kd.V (Kd.int .u8) 5 w w.heap.size (fun k_ => (P3_4_ k_ ∨ w.heap.size ≤ k_)) (.slice A3_4 l3_4.length c3_4) l3_4 from Kd.V_mono hs3_4 (fun k_ hk => .inl hk))
  have HB := Aside0.mk (Below.refl w.heap.size w)
  have H : ((route_Loopless.f k l0 a1).bind fun t142 => (if t142 = true then ((route_Hops.f k l0 a2 a3_0 a3_1 a3_2 a3_3 l3_4).bind fun t143 => (route_Reach.l0 k ([] : List (S38)) t143 l0)) else (some ([] : List (S38))))) = some r := h
  clear h
  replace H := Option.bind_eq_some_iff.mp H
  obtain ⟨t142, A50, H⟩ := H
  replace H : (if t142 = true then ((route_Hops.f k l0 a2 a3_0 a3_1 a3_2 a3_3 l3_4).bind fun t143 => (route_Reach.l0 k ([] : List (S38)) t143 l0)) else (some ([] : List (S38)))) = some r := H
  have A5 := Aside0.mk A50
  clear A50
  by_cases c6 : t142 = true
  · subst c6
    have H1 : ((route_Hops.f k l0 a2 a3_0 a3_1 a3_2 a3_3 l3_4).bind fun t143 => (route_Reach.l0 k ([] : List (S38)) t143 l0)) = some r := by rw [if_pos rfl] at H; exact H
    clear H
    have H := H1
    clear H1
    replace H := Option.bind_eq_some_iff.mp H
    obtain ⟨t143, A70, H⟩ := H
    replace H : (route_Reach.l0 k ([] : List (S38)) t143 l0) = some r := H
    have A7 := Aside0.mk A70
    clear A70
    have H' := Aside0.mk H
    clear H
    go_enter Try.func20, Try.ntmps20
    go_wp2_with (first | ((with_reducible refine gate_dst (N := 4) rfl ?_); refine box_event ?hg (N := 4) ?hd (cs := #[.slice A0 l0.length c0]) (t := 22) ?hr ?_; (case hd => rfl); (case hg => rfl); (case hr => first | (go_simp; done) | (go_simp; rfl)); intro gb140 hg w8 hbox hb; have n0_ := Aside0.mk (Kd.V_below (Kd.V_elderB (by (with_reducible repeat (first | apply Kd.V_alloc | apply Kd.V_drewN | apply Kd.V_drew)); exact HO3_4.out) gb140 (Nat.le_of_eq hg.symm)) hb); have n1_ := Aside0.mk (below_step (by repeat (first | (with_reducible first | exact HB.out | apply below_alloc | apply pw_below_drewN | apply below_drew1) | exact HB.out)) hb); have n2_ := Aside0.mk (hbox); have n3_ := Aside0.mk ((by rw [hg]; exact (below_size (by repeat (first | (with_reducible first | exact HB.out | apply below_alloc | apply pw_below_drewN | apply below_drew1) | exact HB.out))) : w.heap.size ≤ gb140)); have n4_ := Aside0.mk ((by rw [hg]; exact (below_size (by repeat (first | (with_reducible first | exact HB.out | apply below_alloc | apply pw_below_drewN | apply below_drew1) | exact HB.out))) : w.heap.size ≤ gb140)); clear HO3_4; clear HB; have HO3_4 := n0_; have HB := n1_; have BK140 := n2_; have GW140 := n3_; have GE140 := n4_; clear n0_ n1_ n2_ n3_ n4_; clear hb hbox hg) | ((with_reducible refine gate_dst (N := 7) rfl ?_); refine box_event ?hg (N := 7) ?hd (cs := #[.bool a3_0, .int .i64 a3_1, .bool a3_2, .int .i64 a3_3, .slice A3_4 l3_4.length c3_4]) (t := 25) ?hr ?_; (case hd => rfl); (case hg => rfl); (case hr => first | (go_simp; done) | (go_simp; rfl)); intro gb141 hg w9 hbox hb; have n0_ := Aside0.mk (Kd.V_below (Kd.V_elderB (by (with_reducible repeat (first | apply Kd.V_alloc | apply Kd.V_drewN | apply Kd.V_drew)); exact HO3_4.out) gb141 (Nat.le_of_eq hg.symm)) hb); have n1_ := Aside0.mk (blk_below (g := gb140) (o := .cells #[.slice A0 l0.length c0] 22 (0, 0)) (by (with_reducible repeat (first | refine blk_drewN ?_ _ | refine blk_drew ?_ | refine blk_alloc ?_ _)); exact BK140.out) hb); have n2_ := Aside0.mk (below_step (by repeat (first | (with_reducible first | exact HB.out | apply below_alloc | apply pw_below_drewN | apply below_drew1 | refine below_set ?_ GE140.out) | exact HB.out)) hb); have n3_ := Aside0.mk (hbox); have n4_ := Aside0.mk ((by rw [hg]; exact (below_size (by repeat (first | (with_reducible first | exact HB.out | apply below_alloc | apply pw_below_drewN | apply below_drew1 | refine below_set ?_ GE140.out) | exact HB.out))) : w.heap.size ≤ gb141)); have n5_ := Aside0.mk ((by rw [hg]; exact (below_size (by repeat (first | (with_reducible first | exact HB.out | apply below_alloc | apply pw_below_drewN | apply below_drew1 | refine below_set ?_ GE140.out) | exact HB.out))) : w.heap.size ≤ gb141)); have n6_ := Aside0.mk ((by rw [hg]; exact Nat.ne_of_lt (blk_lt (g := gb140) (o := .cells #[.slice A0 l0.length c0] 22 (0, 0)) (by (with_reducible repeat (first | refine blk_drewN ?_ _ | refine blk_drew ?_ | refine blk_alloc ?_ _)); exact BK140.out)) : gb140 ≠ gb141)); have n7_ := Aside0.mk ((by rw [hg]; exact Nat.ne_of_gt (blk_lt (g := gb140) (o := .cells #[.slice A0 l0.length c0] 22 (0, 0)) (by (with_reducible repeat (first | refine blk_drewN ?_ _ | refine blk_drew ?_ | refine blk_alloc ?_ _)); exact BK140.out)) : gb141 ≠ gb140)); clear HO3_4; clear BK140; clear HB; have HO3_4 := n0_; have BK140 := n1_; have HB := n2_; have BK141 := n3_; have GW141 := n4_; have GE141 := n5_; have NB140_141 := n6_; have NB141_140 := n7_; clear n0_ n1_ n2_ n3_ n4_ n5_ n6_ n7_; clear hb hbox hg; have hnb10 := NB140_141.out; have hnc10 := NB141_140.out; have hcz11_0 : w9.cell? ⟨gb140, 0, none⟩ = some (.slice A0 l0.length c0) := (blk_cell BK140.out 0).trans rfl; have hfz11_0 := blk_frozen BK140.out 0) | ((with_reducible refine gate_callee (f := 14) rfl ?_); refine goesL_ (some 14) rfl rfl Try.func14 (by kernel_rfl) rfl #[.slice A0 l0.length c0, .int .i64 a1] rfl (by (try simp only [List.map_toArray, List.map_cons, List.map_nil]); first | done | rfl | (simp only [List.length_drop, List.length_take]; rfl)) ?_; (with_reducible refine (route_Loopless.calls k _ _ l0 a1 true _ ?side1 ?side2 A5.out).mono ?_); (case side1 => repeat (first | exact (Kd.C_below HR0.out HB.out) | (with_reducible refine Kd.C_alloc ?_ _) | (with_reducible refine Kd.C_drewN ?_ _) | (with_reducible refine Kd.C_drew ?_))); (case side2 => exact HC0.out); rintro e w12 ⟨rfl, hb⟩; refine ⟨_, rfl, ?_⟩; have n0_ := Aside0.mk (Kd.V_below (by (with_reducible repeat (first | apply Kd.V_alloc | apply Kd.V_drewN | apply Kd.V_drew)); exact HO3_4.out) hb); have n1_ := Aside0.mk (blk_below (g := gb140) (o := .cells #[.slice A0 l0.length c0] 22 (0, 0)) (by (with_reducible repeat (first | refine blk_drewN ?_ _ | refine blk_drew ?_ | refine blk_alloc ?_ _)); exact BK140.out) hb); have n2_ := Aside0.mk (blk_below (g := gb141) (o := .cells #[.bool a3_0, .int .i64 a3_1, .bool a3_2, .int .i64 a3_3, .slice A3_4 l3_4.length c3_4] 25 (0, 0)) (by (with_reducible repeat (first | refine blk_drewN ?_ _ | refine blk_drew ?_ | refine blk_alloc ?_ _)); exact BK141.out) hb); have n3_ := Aside0.mk (below_step (by repeat (first | (with_reducible first | exact HB.out | apply below_alloc | apply pw_below_drewN | apply below_drew1 | refine below_set ?_ GE140.out | refine below_set ?_ GE141.out) | exact HB.out)) hb); clear HO3_4; clear BK140; clear BK141; clear HB; have HO3_4 := n0_; have BK140 := n1_; have BK141 := n2_; have HB := n3_; clear n0_ n1_ n2_ n3_; (try clear hb); (try clear hb2); (try clear hk); (try clear hi); have hcz13_0 : w12.cell? ⟨gb140, 0, none⟩ = some (.slice A0 l0.length c0) := (blk_cell BK140.out 0).trans rfl; have hfz13_0 := blk_frozen BK140.out 0; have hcz14_0 : w12.cell? ⟨gb141, 0, none⟩ = some (.bool a3_0) := (blk_cell BK141.out 0).trans rfl; have hcz14_1 : w12.cell? ⟨gb141, 1, none⟩ = some (.int .i64 a3_1) := (blk_cell BK141.out 1).trans rfl; have hcz14_2 : w12.cell? ⟨gb141, 2, none⟩ = some (.bool a3_2) := (blk_cell BK141.out 2).trans rfl; have hcz14_3 : w12.cell? ⟨gb141, 3, none⟩ = some (.int .i64 a3_3) := (blk_cell BK141.out 3).trans rfl; have hcz14_4 : w12.cell? ⟨gb141, 4, none⟩ = some (.slice A3_4 l3_4.length c3_4) := (blk_cell BK141.out 4).trans rfl; have hfz14_0 := blk_frozen BK141.out 0; have hfz14_1 := blk_frozen BK141.out 1; have hfz14_2 := blk_frozen BK141.out 2; have hfz14_3 := blk_frozen BK141.out 3; have hfz14_4 := blk_frozen BK141.out 4) | ((with_reducible refine gate_callee (f := 18) rfl ?_); refine goesL_ (some 20) rfl rfl Try.func18 (by kernel_rfl) rfl #[.slice A0 l0.length c0, .int .i64 a2, .agg #[.bool a3_0, .int .i64 a3_1, .bool a3_2, .int .i64 a3_3, .slice A3_4 l3_4.length c3_4]] rfl (by (try simp only [List.map_toArray, List.map_cons, List.map_nil]); first | done | rfl | (simp only [List.length_drop, List.length_take]; rfl)) ?_; (with_reducible refine (route_Hops.calls k _ _ l0 a2 a3_0 a3_1 a3_2 a3_3 (fun k_ => (((P3_4_ k_ ∨ w.heap.size ≤ k_) ∧ k_ ≠ gb140) ∧ k_ ≠ gb141)) _ _ l3_4 t143 _ ?side1 ?side2 ?side3 A7.out).mono ?_); (case side1 => repeat (first | exact (Kd.C_below HR0.out HB.out) | (with_reducible refine Kd.C_alloc ?_ _) | (with_reducible refine Kd.C_drewN ?_ _) | (with_reducible refine Kd.C_drew ?_))); (case side2 => exact HC0.out); (case side3 => exact HO3_4.out); rintro e w15 ⟨v144, rfl, ho0, hb⟩; refine ⟨_, rfl, ?_⟩; have n0_ := Aside0.mk (Kd.V_elder' (by (with_reducible repeat (first | apply Kd.V_alloc | apply Kd.V_drewN | apply Kd.V_drew)); exact HO3_4.out) (Kd.N_base ho0) hb); have n1_ := Aside0.mk (Kd.N_lower (Kd.N_mono (ok' := fun k_ => (P3_4_ k_ ∨ w.heap.size ≤ k_) ∧ k_ ≠ gb140 ∧ k_ ≠ gb141) ho0 (fun k_ hk_ => ⟨Or.elim hk_ (fun hs_ => hs_.1.1) (fun hn_ => (.inr (Nat.le_trans (below_size (by repeat (first | (with_reducible first | exact HB.out | apply below_alloc | apply pw_below_drewN | apply below_drew1 | refine below_set ?_ GE140.out | refine below_set ?_ GE141.out) | exact HB.out))) hn_))), Or.elim hk_ (fun hs_ => hs_.1.2) (fun hn_ => (Kd.freshB (g := gb140) (o := .cells #[.slice A0 l0.length c0] 22 (0, 0)) (by (with_reducible repeat (first | refine blk_drewN ?_ _ | refine blk_drew ?_ | refine blk_alloc ?_ _)); exact BK140.out) k_ hn_)), Or.elim hk_ (fun hs_ => hs_.2) (fun hn_ => (Kd.freshB (g := gb141) (o := .cells #[.bool a3_0, .int .i64 a3_1, .bool a3_2, .int .i64 a3_3, .slice A3_4 l3_4.length c3_4] 25 (0, 0)) (by (with_reducible repeat (first | refine blk_drewN ?_ _ | refine blk_drew ?_ | refine blk_alloc ?_ _)); exact BK141.out) k_ hn_))⟩)) (below_size (by repeat (first | (with_reducible first | exact HB.out | apply below_alloc | apply pw_below_drewN | apply below_drew1 | refine below_set ?_ GE140.out | refine below_set ?_ GE141.out) | exact HB.out)))); have n2_ := Aside0.mk (blk_below (g := gb140) (o := .cells #[.slice A0 l0.length c0] 22 (0, 0)) (by (with_reducible repeat (first | refine blk_drewN ?_ _ | refine blk_drew ?_ | refine blk_alloc ?_ _)); exact BK140.out) hb); have n3_ := Aside0.mk (blk_below (g := gb141) (o := .cells #[.bool a3_0, .int .i64 a3_1, .bool a3_2, .int .i64 a3_3, .slice A3_4 l3_4.length c3_4] 25 (0, 0)) (by (with_reducible repeat (first | refine blk_drewN ?_ _ | refine blk_drew ?_ | refine blk_alloc ?_ _)); exact BK141.out) hb); have n4_ := Aside0.mk (below_step (by repeat (first | (with_reducible first | exact HB.out | apply below_alloc | apply pw_below_drewN | apply below_drew1 | refine below_set ?_ GE140.out | refine below_set ?_ GE141.out) | exact HB.out)) hb); clear HO3_4; clear BK140; clear BK141; clear HB; have HO3_4 := n0_; have HO145 := n1_; have BK140 := n2_; have BK141 := n3_; have HB := n4_; clear n0_ n1_ n2_ n3_ n4_; (try clear hb); (try clear hb2); (try clear hk); (try clear hi); (try clear ho0)))
    go_loopg [9, 11] k (fun kq v9 v11 w' => ∃ (x9_1 : List (S38)) (x11_1 : List (S38)), Aside0 (route_Reach.l0 kq x9_1 x11_1 l0 = some r) ∧ Aside0 (kq ≤ k) ∧ Aside0 (Kd.N k38 38 w' w.heap.size (fun k_ => (P3_4_ k_ ∨ w.heap.size ≤ k_) ∧ some k_ ≠ (v11 : Value).ownBlock ∧ k_ ≠ gb140 ∧ k_ ≠ gb141) v9 x9_1) ∧ Aside0 (Kd.N k38 38 w' w.heap.size (fun k_ => (P3_4_ k_ ∨ w.heap.size ≤ k_) ∧ some k_ ≠ (v9 : Value).ownBlock ∧ k_ ≠ gb140 ∧ k_ ≠ gb141) v11 x11_1) ∧ Aside0 (Kd.V (Kd.int .u8) 5 w' w.heap.size (fun k_ => (P3_4_ k_ ∨ w.heap.size ≤ k_) ∧ some k_ ≠ (v9 : Value).ownBlock ∧ some k_ ≠ (v11 : Value).ownBlock ∧ k_ ≠ gb140 ∧ k_ ≠ gb141) (.slice A3_4 l3_4.length c3_4) l3_4) ∧ Aside0 (w'.heap[gb140]? = some (.cells #[(.slice A0 l0.length c0)] 22 (0, 0))) ∧ Aside0 (w'.heap[gb141]? = some (.cells #[.bool a3_0, .int .i64 a3_1, .bool a3_2, .int .i64 a3_3, (.slice A3_4 l3_4.length c3_4)] 25 (0, 0))) ∧ Aside0 (Below w.heap.size w w'))
    case atStart => exact ⟨(([] : List (S38))), (t143), H', ⟨Nat.le_refl _⟩, ⟨by first | exact Kd.S_nil _ _ _ _ _ | exact Kd.N_nil _ _ _ _ _ | exact Kd.V_nil _ _ _ _ _ | exact Kd.Q_nil _ _ _ _ _ | exact Kd.R_nil _ _ _ _ _⟩, ⟨by (with_reducible repeat (first | apply Kd.N_alloc | apply Kd.N_drewN | apply Kd.N_drew)); exact Kd.N_mono HO145.out (fun _ hk => ⟨hk.1, ⟨(by simp [Value.ownBlock]), ⟨hk.2.1, hk.2.2⟩⟩⟩)⟩, ⟨by (with_reducible repeat (first | apply Kd.V_alloc | apply Kd.V_drewN | apply Kd.V_drew)); exact Kd.V_mono HO3_4.out (fun _ hk => ⟨hk.1.1.1, ⟨(by simp [Value.ownBlock]), ⟨hk.2, ⟨hk.1.1.2, hk.1.2⟩⟩⟩⟩)⟩, ⟨by (with_reducible repeat (first | refine blk_drewN ?_ _ | refine blk_drew ?_ | refine blk_alloc ?_ _)); exact BK140.out⟩, ⟨by (with_reducible repeat (first | refine blk_drewN ?_ _ | refine blk_drew ?_ | refine blk_alloc ?_ _)); exact BK141.out⟩, ⟨by repeat (first | (with_reducible first | exact HB.out | apply below_alloc | apply pw_below_drewN | apply below_drew1 | refine below_set ?_ GE140.out | refine below_set ?_ GE141.out) | exact HB.out)⟩⟩
    case round =>
      clear H'
      try clear c1
      try clear c2
      try clear p2
      try clear c3
      try clear c6
      try clear c10
      try clear c14
      try clear hcz11_0
      try clear hcz13_0
      try clear hcz14_0
      try clear hcz14_1
      try clear hcz14_2
      try clear hcz14_3
      try clear hcz14_4
      try clear hfz11_0
      try clear hfz13_0
      try clear hfz14_0
      try clear hfz14_1
      try clear hfz14_2
      try clear hfz14_3
      try clear hfz14_4
      obtain ⟨x9_1, x11_1, HA, HK1, HO_9, HO_11, HO_142004, BK140, BK141, HB⟩ := hrel
      cases gk with
      | zero => exact absurd HA.out (by simp [route_Reach.l0])
      | succ k1 =>
        have H := HA.out
        clear HA
        simp only [route_Reach.l0] at H
        by_cases c16 : (x11_1.length : Int) > 0
        · rw [if_pos c16] at H
          have c16b0 : decide (0 < (x11_1.length : Int)) = true := decide_eq_true c16
          have c16b1 : decide (0 < x11_1.length) = true := decide_eq_true (by omega)
          clear c16
          by_cases c17 : x9_1.length + x11_1.length < 2199023255552
          · rw [if_pos c17] at H
            have LMc17 := Aside0.mk c17
            clear c17
            obtain ⟨y146, hy146⟩ : ∃ y_ : List (S38), y_ = (x9_1 ++ x11_1) := ⟨_, rfl⟩
            replace H : ((route_ReachNext.f k1 x11_1 l0).bind fun t149 => (route_Reach.l0 k1 y146 t149 l0)) = some r := by first | (rw [hy146]; with_reducible exact H) | (have H2_ := (Option.bind_some _ _).symm.trans H; rw [hy146]; with_reducible exact H2_) | (have H2_ := (Option.bind_some _ _).symm.trans H; with_reducible exact H2_) | with_reducible exact H | (rw [hy146]; exact H) | exact H
            have Ny146 := Aside0.mk hy146
            clear hy146
            replace H := Option.bind_eq_some_iff.mp H
            obtain ⟨t149, A180, H⟩ := H
            replace H : (route_Reach.l0 k1 y146 t149 l0) = some r := H
            have A18 := Aside0.mk A180
            clear A180
            have H' := Aside0.mk H
            clear H
            obtain ⟨Ao19, co19, eo19⟩ := Kd.N_slice HO_11.out
            subst eo19
            go_wp2_with (first | ((with_reducible refine gate_builtin (b := .append) (xs := #[.tmp 27, .tmp 28]) rfl ?_); at_builtin; refine Kd.N_append_rows k38 (w0 := w) w.heap.size rfl (.tmp 27) (.tmp 28) 33 38 (.agg #[(.int .i64 0), (.bool false), (.int .i64 0), (.bool false), (.int .i64 0), (.slice none 0 0)]) 64 rfl Try.underlying33 info38 rfl (by decide) (by omega) u9 x9_1 x11_1 _ _ _ (fun k_ => (P3_4_ k_ ∨ w.heap.size ≤ k_) ∧ k_ ≠ gb140 ∧ k_ ≠ gb141) (fun k_ => ((fun k_ => (P3_4_ k_ ∨ w.heap.size ≤ k_) ∧ k_ ≠ gb140 ∧ k_ ≠ gb141)) k_ ∧ some k_ ≠ (u9 : Value).ownBlock) rfl rfl ?aO ?aR (fun _ hk => hk) ?aF ?aB ?aS ?aL ?_; (case aR => exact (by skip; exact Kd.N_F (Kd.N_mono (ok' := (fun k_ => ((fun k_ => (P3_4_ k_ ∨ w.heap.size ≤ k_) ∧ k_ ≠ gb140 ∧ k_ ≠ gb141)) k_ ∧ some k_ ≠ (u9 : Value).ownBlock)) (HO_11.out) (fun k_ hk => ⟨⟨hk.1, ⟨hk.2.2.1, hk.2.2.2⟩⟩, hk.2.1⟩)))); (case aB => exact (by repeat (first | (with_reducible first | exact HB.out | apply below_alloc | apply pw_below_drewN | apply below_drew1 | refine below_set ?_ GE140.out | refine below_set ?_ GE141.out) | exact HB.out))); (case aF => exact (fun k_ hk => ⟨(.inr (Nat.le_trans (below_size (by repeat (first | (with_reducible first | exact HB.out | apply below_alloc | apply pw_below_drewN | apply below_drew1 | refine below_set ?_ GE140.out | refine below_set ?_ GE141.out) | exact HB.out))) hk)), Kd.freshB (g := gb140) (o := .cells #[.slice A0 l0.length c0] 22 (0, 0)) (by (with_reducible repeat (first | refine blk_drewN ?_ _ | refine blk_drew ?_ | refine blk_alloc ?_ _)); exact BK140.out) k_ hk, Kd.freshB (g := gb141) (o := .cells #[.bool a3_0, .int .i64 a3_1, .bool a3_2, .int .i64 a3_3, .slice A3_4 l3_4.length c3_4] 25 (0, 0)) (by (with_reducible repeat (first | refine blk_drewN ?_ _ | refine blk_drew ?_ | refine blk_alloc ?_ _)); exact BK141.out) k_ hk⟩)); (case aO => exact (by (with_reducible repeat (first | apply Kd.N_alloc | apply Kd.N_drewN | apply Kd.N_drew)); exact Kd.N_mono HO_9.out (fun _ hk => ⟨hk.1, ⟨hk.2.2.1, hk.2.2.2⟩⟩))); (case aS => exact (below_size (by repeat (first | (with_reducible first | exact HB.out | apply below_alloc | apply pw_below_drewN | apply below_drew1 | refine below_set ?_ GE140.out | refine below_set ?_ GE141.out) | exact HB.out)))); (case aL => have := LMc17.out; omega); intro v147 w20 ho hb hg hat; rw [← Ny146.out] at ho; have n0_ := Aside0.mk (Kd.N_afterv (ok := (fun k_ => (P3_4_ k_ ∨ w.heap.size ≤ k_) ∧ k_ ≠ gb140 ∧ k_ ≠ gb141)) (by (with_reducible repeat (first | apply Kd.N_alloc | apply Kd.N_drewN | apply Kd.N_drew)); exact Kd.N_mono HO_11.out (fun _ hk => ⟨⟨hk.1, ⟨hk.2.2.1, hk.2.2.2⟩⟩, hk.2.1⟩)) hg hat); have n1_ := Aside0.mk (Kd.V_afterv (ok := (fun k_ => (P3_4_ k_ ∨ w.heap.size ≤ k_) ∧ some k_ ≠ (.slice Ao19 x11_1.length co19 : Value).ownBlock ∧ k_ ≠ gb140 ∧ k_ ≠ gb141)) (by (with_reducible repeat (first | apply Kd.V_alloc | apply Kd.V_drewN | apply Kd.V_drew)); exact Kd.V_mono HO_142004.out (fun _ hk => ⟨⟨hk.1, ⟨hk.2.2.1, ⟨hk.2.2.2.1, hk.2.2.2.2⟩⟩⟩, hk.2.1⟩)) hg hat); have n2_ := Aside0.mk (blk_grown (g := gb140) (o := .cells #[.slice A0 l0.length c0] 22 (0, 0)) (by (with_reducible repeat (first | refine blk_drewN ?_ _ | refine blk_drew ?_ | refine blk_alloc ?_ _)); exact BK140.out) hg (Kd.N_ne HO_9.out BK140.out (by decide))); have n3_ := Aside0.mk (blk_grown (g := gb141) (o := .cells #[.bool a3_0, .int .i64 a3_1, .bool a3_2, .int .i64 a3_3, .slice A3_4 l3_4.length c3_4] 25 (0, 0)) (by (with_reducible repeat (first | refine blk_drewN ?_ _ | refine blk_drew ?_ | refine blk_alloc ?_ _)); exact BK141.out) hg (Kd.N_ne HO_9.out BK141.out (by decide))); have n4_ := Aside0.mk (hb); have n5_ := Aside0.mk (ho); clear HO_11; clear HO_142004; clear BK140; clear BK141; clear HB; clear HO_9; have HO_11 := n0_; have HO_142004 := n1_; have BK140 := n2_; have BK141 := n3_; have HB := n4_; have HO148 := n5_; clear n0_ n1_ n2_ n3_ n4_ n5_; clear ho hb hg hat; have hnb21 := NB140_141.out; have hnc21 := NB141_140.out; have hcz22_0 : w20.cell? ⟨gb140, 0, none⟩ = some (.slice A0 l0.length c0) := (blk_cell BK140.out 0).trans rfl; have hfz22_0 := blk_frozen BK140.out 0) | (go_at_fn 31; fail))
            (with_reducible refine (route_ReachNext.calls k1 (fun k_ => (((P3_4_ k_ ∨ w.heap.size ≤ k_) ∧ (k_ ≠ gb140 ∧ k_ ≠ gb141)) ∧ some k_ ≠ (v147 : Value).ownBlock)) _ _ x11_1 A0 c0 l0 t149 _ ?side1 ?side2 ?side3 A18.out gb140 ?side4 ?side5).mono ?_)
            (case side1 => exact Kd.N_V (HO_11.out))
            (case side2 => repeat (first | exact (Kd.C_below HR0.out HB.out) | (with_reducible refine Kd.C_alloc ?_ _) | (with_reducible refine Kd.C_drewN ?_ _) | (with_reducible refine Kd.C_drew ?_)))
            (case side3 => exact HC0.out)
            (case side4 => exact blk_lt (by (with_reducible repeat (first | refine blk_drewN ?_ _ | refine blk_drew ?_ | refine blk_alloc ?_ _)); exact BK140.out))
            (case side5 => exact (blk_cell (by (with_reducible repeat (first | refine blk_drewN ?_ _ | refine blk_drew ?_ | refine blk_alloc ?_ _)); exact BK140.out) 0).trans rfl)
            rintro e w23 ⟨v150, rfl, ho0, hb⟩
            have n0_ := Aside0.mk (Kd.N_elder' (by (with_reducible repeat (first | apply Kd.N_alloc | apply Kd.N_drewN | apply Kd.N_drew)); exact HO_11.out) (Kd.N_base ho0) hb)
            have n1_ := Aside0.mk (Kd.V_elder' (by (with_reducible repeat (first | apply Kd.V_alloc | apply Kd.V_drewN | apply Kd.V_drew)); exact HO_142004.out) (Kd.N_base ho0) hb)
            have n2_ := Aside0.mk (Kd.N_elder' (by (with_reducible repeat (first | apply Kd.N_alloc | apply Kd.N_drewN | apply Kd.N_drew)); exact HO148.out) (Kd.N_base ho0) hb)
            have n3_ := Aside0.mk (Kd.N_lower (Kd.N_mono (ok' := fun k_ => (P3_4_ k_ ∨ w.heap.size ≤ k_) ∧ some k_ ≠ (v147 : Value).ownBlock ∧ k_ ≠ gb140 ∧ k_ ≠ gb141) ho0 (fun k_ hk_ => ⟨Or.elim hk_ (fun hs_ => hs_.1.1) (fun hn_ => (.inr (Nat.le_trans (below_size (by repeat (first | (with_reducible first | exact HB.out | apply below_alloc | apply pw_below_drewN | apply below_drew1 | refine below_set ?_ GE140.out | refine below_set ?_ GE141.out) | exact HB.out))) hn_))), Or.elim hk_ (fun hs_ => hs_.2) (fun hn_ => (Kd.fresh' (Kd.N_lt (by (with_reducible repeat (first | apply Kd.N_alloc | apply Kd.N_drewN | apply Kd.N_drew)); exact HO148.out)) k_ hn_)), Or.elim hk_ (fun hs_ => hs_.1.2.1) (fun hn_ => (Kd.freshB (g := gb140) (o := .cells #[.slice A0 l0.length c0] 22 (0, 0)) (by (with_reducible repeat (first | refine blk_drewN ?_ _ | refine blk_drew ?_ | refine blk_alloc ?_ _)); exact BK140.out) k_ hn_)), Or.elim hk_ (fun hs_ => hs_.1.2.2) (fun hn_ => (Kd.freshB (g := gb141) (o := .cells #[.bool a3_0, .int .i64 a3_1, .bool a3_2, .int .i64 a3_3, .slice A3_4 l3_4.length c3_4] 25 (0, 0)) (by (with_reducible repeat (first | refine blk_drewN ?_ _ | refine blk_drew ?_ | refine blk_alloc ?_ _)); exact BK141.out) k_ hn_))⟩)) (below_size (by repeat (first | (with_reducible first | exact HB.out | apply below_alloc | apply pw_below_drewN | apply below_drew1 | refine below_set ?_ GE140.out | refine below_set ?_ GE141.out) | exact HB.out))))
            have n4_ := Aside0.mk (blk_below (g := gb140) (o := .cells #[.slice A0 l0.length c0] 22 (0, 0)) (by (with_reducible repeat (first | refine blk_drewN ?_ _ | refine blk_drew ?_ | refine blk_alloc ?_ _)); exact BK140.out) hb)
            have n5_ := Aside0.mk (blk_below (g := gb141) (o := .cells #[.bool a3_0, .int .i64 a3_1, .bool a3_2, .int .i64 a3_3, .slice A3_4 l3_4.length c3_4] 25 (0, 0)) (by (with_reducible repeat (first | refine blk_drewN ?_ _ | refine blk_drew ?_ | refine blk_alloc ?_ _)); exact BK141.out) hb)
            have n6_ := Aside0.mk (below_step (by repeat (first | (with_reducible first | exact HB.out | apply below_alloc | apply pw_below_drewN | apply below_drew1 | refine below_set ?_ GE140.out | refine below_set ?_ GE141.out) | exact HB.out)) hb)
            clear HO_11
            clear HO_142004
            clear HO148
            clear BK140
            clear BK141
            clear HB
            have HO_11 := n0_
            have HO_142004 := n1_
            have HO148 := n2_
            have HO151 := n3_
            have BK140 := n4_
            have BK141 := n5_
            have HB := n6_
            clear n0_ n1_ n2_ n3_ n4_ n5_ n6_
            (try clear hb)
            (try clear hb2)
            (try clear hk)
            (try clear hi)
            (try clear ho0)
            go_wp2
            go_roundg k1
            case measure => have := HK1.out; omega
            case rel => exact ⟨(y146), (t149), H', ⟨by have := HK1.out; omega⟩, ⟨by (with_reducible repeat (first | apply Kd.N_alloc | apply Kd.N_drewN | apply Kd.N_drew)); exact Kd.N_mono HO148.out (fun _ hk => ⟨hk.1.1, ⟨hk.2, ⟨hk.1.2.1, hk.1.2.2⟩⟩⟩)⟩, ⟨by (with_reducible repeat (first | apply Kd.N_alloc | apply Kd.N_drewN | apply Kd.N_drew)); exact HO151.out⟩, ⟨by (with_reducible repeat (first | apply Kd.V_alloc | apply Kd.V_drewN | apply Kd.V_drew)); exact Kd.V_mono HO_142004.out (fun _ hk => ⟨hk.1.1.1, ⟨hk.1.2, ⟨hk.2, ⟨hk.1.1.2.2.1, hk.1.1.2.2.2⟩⟩⟩⟩)⟩, ⟨by (with_reducible repeat (first | refine blk_drewN ?_ _ | refine blk_drew ?_ | refine blk_alloc ?_ _)); exact BK140.out⟩, ⟨by (with_reducible repeat (first | refine blk_drewN ?_ _ | refine blk_drew ?_ | refine blk_alloc ?_ _)); exact BK141.out⟩, ⟨by repeat (first | (with_reducible first | exact HB.out | apply below_alloc | apply pw_below_drewN | apply below_drew1 | refine below_set ?_ GE140.out | refine below_set ?_ GE141.out) | exact HB.out)⟩⟩
          · rw [if_neg c17] at H
            exact absurd H (by simp)
        · rw [if_neg c16] at H
          have c16b0 : decide (0 < (x11_1.length : Int)) = false := decide_eq_false c16
          have c16b1 : decide (0 < x11_1.length) = false := decide_eq_false (by omega)
          clear c16
          obtain rfl := Option.some.inj H
          obtain ⟨Ao24, co24, eo24⟩ := Kd.N_slice HO_11.out
          subst eo24
          go_wp2
          go_ret
          exact ⟨_, by first | rfl | (simp [errW_none, errW_some] <;> rfl) | (simp [*, errW_none, errW_some] <;> rfl), by (with_reducible repeat (first | apply Kd.N_alloc | apply Kd.N_drewN | apply Kd.N_drew)); exact Kd.N_mono HO_9.out (fun _ hk => hk.1), by repeat (first | (with_reducible first | exact HB.out | apply below_alloc | apply pw_below_drewN | apply below_drew1 | refine below_set ?_ GE140.out | refine below_set ?_ GE141.out) | exact HB.out)⟩
  · replace c6 := Bool.eq_false_iff.mpr c6
    subst c6
    have H1 : (some ([] : List (S38))) = some r := by rw [if_neg (show ¬ (false = true) by decide)] at H; exact H
    clear H
    have H := H1
    clear H1
    obtain rfl := Option.some.inj H
    go_enter Try.func20, Try.ntmps20
    go_wp2_with (first | ((with_reducible refine gate_dst (N := 4) rfl ?_); refine box_event ?hg (N := 4) ?hd (cs := #[.slice A0 l0.length c0]) (t := 22) ?hr ?_; (case hd => rfl); (case hg => rfl); (case hr => first | (go_simp; done) | (go_simp; rfl)); intro gb140 hg w25 hbox hb; have n0_ := Aside0.mk (Kd.V_below (Kd.V_elderB (by (with_reducible repeat (first | apply Kd.V_alloc | apply Kd.V_drewN | apply Kd.V_drew)); exact HO3_4.out) gb140 (Nat.le_of_eq hg.symm)) hb); have n1_ := Aside0.mk (below_step (by repeat (first | (with_reducible first | exact HB.out | apply below_alloc | apply pw_below_drewN | apply below_drew1) | exact HB.out)) hb); have n2_ := Aside0.mk (hbox); have n3_ := Aside0.mk ((by rw [hg]; exact (below_size (by repeat (first | (with_reducible first | exact HB.out | apply below_alloc | apply pw_below_drewN | apply below_drew1) | exact HB.out))) : w.heap.size ≤ gb140)); have n4_ := Aside0.mk ((by rw [hg]; exact (below_size (by repeat (first | (with_reducible first | exact HB.out | apply below_alloc | apply pw_below_drewN | apply below_drew1) | exact HB.out))) : w.heap.size ≤ gb140)); clear HO3_4; clear HB; have HO3_4 := n0_; have HB := n1_; have BK140 := n2_; have GW140 := n3_; have GE140 := n4_; clear n0_ n1_ n2_ n3_ n4_; clear hb hbox hg) | ((with_reducible refine gate_dst (N := 7) rfl ?_); refine box_event ?hg (N := 7) ?hd (cs := #[.bool a3_0, .int .i64 a3_1, .bool a3_2, .int .i64 a3_3, .slice A3_4 l3_4.length c3_4]) (t := 25) ?hr ?_; (case hd => rfl); (case hg => rfl); (case hr => first | (go_simp; done) | (go_simp; rfl)); intro gb141 hg w26 hbox hb; have n0_ := Aside0.mk (Kd.V_below (Kd.V_elderB (by (with_reducible repeat (first | apply Kd.V_alloc | apply Kd.V_drewN | apply Kd.V_drew)); exact HO3_4.out) gb141 (Nat.le_of_eq hg.symm)) hb); have n1_ := Aside0.mk (blk_below (g := gb140) (o := .cells #[.slice A0 l0.length c0] 22 (0, 0)) (by (with_reducible repeat (first | refine blk_drewN ?_ _ | refine blk_drew ?_ | refine blk_alloc ?_ _)); exact BK140.out) hb); have n2_ := Aside0.mk (below_step (by repeat (first | (with_reducible first | exact HB.out | apply below_alloc | apply pw_below_drewN | apply below_drew1 | refine below_set ?_ GE140.out) | exact HB.out)) hb); have n3_ := Aside0.mk (hbox); have n4_ := Aside0.mk ((by rw [hg]; exact (below_size (by repeat (first | (with_reducible first | exact HB.out | apply below_alloc | apply pw_below_drewN | apply below_drew1 | refine below_set ?_ GE140.out) | exact HB.out))) : w.heap.size ≤ gb141)); have n5_ := Aside0.mk ((by rw [hg]; exact (below_size (by repeat (first | (with_reducible first | exact HB.out | apply below_alloc | apply pw_below_drewN | apply below_drew1 | refine below_set ?_ GE140.out) | exact HB.out))) : w.heap.size ≤ gb141)); have n6_ := Aside0.mk ((by rw [hg]; exact Nat.ne_of_lt (blk_lt (g := gb140) (o := .cells #[.slice A0 l0.length c0] 22 (0, 0)) (by (with_reducible repeat (first | refine blk_drewN ?_ _ | refine blk_drew ?_ | refine blk_alloc ?_ _)); exact BK140.out)) : gb140 ≠ gb141)); have n7_ := Aside0.mk ((by rw [hg]; exact Nat.ne_of_gt (blk_lt (g := gb140) (o := .cells #[.slice A0 l0.length c0] 22 (0, 0)) (by (with_reducible repeat (first | refine blk_drewN ?_ _ | refine blk_drew ?_ | refine blk_alloc ?_ _)); exact BK140.out)) : gb141 ≠ gb140)); clear HO3_4; clear BK140; clear HB; have HO3_4 := n0_; have BK140 := n1_; have HB := n2_; have BK141 := n3_; have GW141 := n4_; have GE141 := n5_; have NB140_141 := n6_; have NB141_140 := n7_; clear n0_ n1_ n2_ n3_ n4_ n5_ n6_ n7_; clear hb hbox hg; have hnb27 := NB140_141.out; have hnc27 := NB141_140.out; have hcz28_0 : w26.cell? ⟨gb140, 0, none⟩ = some (.slice A0 l0.length c0) := (blk_cell BK140.out 0).trans rfl; have hfz28_0 := blk_frozen BK140.out 0) | ((with_reducible refine gate_callee (f := 14) rfl ?_); refine goesL_ (some 14) rfl rfl Try.func14 (by kernel_rfl) rfl #[.slice A0 l0.length c0, .int .i64 a1] rfl (by (try simp only [List.map_toArray, List.map_cons, List.map_nil]); first | done | rfl | (simp only [List.length_drop, List.length_take]; rfl)) ?_; (with_reducible refine (route_Loopless.calls k _ _ l0 a1 false _ ?side1 ?side2 A5.out).mono ?_); (case side1 => repeat (first | exact (Kd.C_below HR0.out HB.out) | (with_reducible refine Kd.C_alloc ?_ _) | (with_reducible refine Kd.C_drewN ?_ _) | (with_reducible refine Kd.C_drew ?_))); (case side2 => exact HC0.out); rintro e w29 ⟨rfl, hb⟩; refine ⟨_, rfl, ?_⟩; have n0_ := Aside0.mk (Kd.V_below (by (with_reducible repeat (first | apply Kd.V_alloc | apply Kd.V_drewN | apply Kd.V_drew)); exact HO3_4.out) hb); have n1_ := Aside0.mk (blk_below (g := gb140) (o := .cells #[.slice A0 l0.length c0] 22 (0, 0)) (by (with_reducible repeat (first | refine blk_drewN ?_ _ | refine blk_drew ?_ | refine blk_alloc ?_ _)); exact BK140.out) hb); have n2_ := Aside0.mk (blk_below (g := gb141) (o := .cells #[.bool a3_0, .int .i64 a3_1, .bool a3_2, .int .i64 a3_3, .slice A3_4 l3_4.length c3_4] 25 (0, 0)) (by (with_reducible repeat (first | refine blk_drewN ?_ _ | refine blk_drew ?_ | refine blk_alloc ?_ _)); exact BK141.out) hb); have n3_ := Aside0.mk (below_step (by repeat (first | (with_reducible first | exact HB.out | apply below_alloc | apply pw_below_drewN | apply below_drew1 | refine below_set ?_ GE140.out | refine below_set ?_ GE141.out) | exact HB.out)) hb); clear HO3_4; clear BK140; clear BK141; clear HB; have HO3_4 := n0_; have BK140 := n1_; have BK141 := n2_; have HB := n3_; clear n0_ n1_ n2_ n3_; (try clear hb); (try clear hb2); (try clear hk); (try clear hi)))
    go_ret
    exact ⟨_, by first | rfl | (simp [errW_none, errW_some] <;> rfl) | (simp [*, errW_none, errW_some] <;> rfl), by first | exact Kd.S_nil _ _ _ _ _ | exact Kd.N_nil _ _ _ _ _ | exact Kd.V_nil _ _ _ _ _ | exact Kd.Q_nil _ _ _ _ _ | exact Kd.R_nil _ _ _ _ _, by repeat (first | (with_reducible first | exact HB.out | apply below_alloc | apply pw_below_drewN | apply below_drew1 | refine below_set ?_ GE140.out | refine below_set ?_ GE141.out) | exact HB.out)⟩

end Go.Proofs.Ytpcabeefahldlaa.P

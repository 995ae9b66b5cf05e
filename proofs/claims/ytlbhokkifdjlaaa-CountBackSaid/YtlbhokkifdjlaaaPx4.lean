/- Go functions that the laws of this seat reach, each as a Lean function, and a proof that a call of the Go code comes to its answers; written by a program (the kit's print, turned in a few places). Conditions: each theorem's own premises. -/
import Derived.Test.YtlbhokkifdjlaaaPx0
import Derived.Test.YtlbhokkifdjlaaaPx1
import Derived.Test.YtlbhokkifdjlaaaPx3
import Derived.Test.YtlbhokkifdjlaaaGCount
namespace Go.Proofs.Ytlbhokkifdjlaaa.P
open Go.RowKit Go.Proofs.YtlbhokkifdjlaaaW.PrintWords Go.Proofs.YtlbhokkifdjlaaaW.PrintLast Go.Proofs.YtlbhokkifdjlaaaW.PrintMore
attribute [local go_sem] max2_int min2_int max_two min_two max_three min_three max_four min_four   -- for this text's walks alone
set_option linter.unusedVariables false
set_option linter.unusedSimpArgs false

attribute [local go_sem high] eqA23
-- GIVEN: function 15 (count_Step)

/-! ### count_Steps: function 17 -/
def count_Steps.l0 : Nat → List Int → Int → Int → Int → Int → Int → Int → Option (Int × Int × Int × Int)
  | 0, _, _, _, _, _, _, _ => none
  | k + 1, x7, x8, x9, x109000, x109001, x109002, x109003 => if x9 < x8 then (if 0 ≤ x9 then (if x9 < (x7.length : Int) then ((count_Step.f x109000 x109001 x109002 x109003 (rd x7 x9)).bind fun bt111 => (count_Steps.l0 k x7 x8 (wrap64 (x9 + 1)) bt111.1 bt111.2.1 bt111.2.2.1 bt111.2.2.2)) else (none)) else (none)) else (some (x109000, x109001, x109002, x109003))
def count_Steps.f (k : Nat) (a0_0 : Int) (a0_1 : Int) (a0_2 : Int) (a0_3 : Int) (l1 : List Int) : Option (Int × Int × Int × Int) := count_Steps.l0 k l1 (l1.length : Int) 0 a0_0 a0_1 a0_2 a0_3
theorem count_Steps.mono_l : ∀ k, (∀ y0 y1 y2 y3 y4 y5 y6, LeO (count_Steps.l0 k y0 y1 y2 y3 y4 y5 y6) (count_Steps.l0 (k + 1) y0 y1 y2 y3 y4 y5 y6))
  | 0 => fun _ _ _ _ _ _ _ r h => by simp [count_Steps.l0] at h
  | k + 1 => by
    have ih0 := count_Steps.mono_l k
    · intro y0 y1 y2 y3 y4 y5 y6
      unfold count_Steps.l0
      repeat' first
      | (with_reducible exact ih0 _ _ _ _ _ _ _)
      | (with_reducible exact LeO.refl _)
      | (with_reducible exact LeO.none _)
      | (with_reducible refine LeO.ite ?_ ?_)
      | (with_reducible refine LeO.bind ?_ (fun _ => ?_))
      | exact ih0 _ _ _ _ _ _ _
      | exact LeO.none _
      | refine LeO.ite ?_ ?_
      | refine LeO.bind ?_ (fun _ => ?_)
theorem count_Steps.mono : ∀ a0 a1 a2 a3 a4 k, LeO (count_Steps.f k a0 a1 a2 a3 a4) (count_Steps.f (k + 1) a0 a1 a2 a3 a4) := by
  intro a0 a1 a2 a3 a4 k
  have ih0 := count_Steps.mono_l k
  unfold count_Steps.f
  repeat' first
      | (with_reducible exact ih0 _ _ _ _ _ _ _)
      | (with_reducible exact LeO.refl _)
      | (with_reducible exact LeO.none _)
      | (with_reducible refine LeO.ite ?_ ?_)
      | (with_reducible refine LeO.bind ?_ (fun _ => ?_))
      | exact ih0 _ _ _ _ _ _ _
      | exact LeO.none _
      | refine LeO.ite ?_ ?_
      | refine LeO.bind ?_ (fun _ => ?_)
set_option maxHeartbeats 8000000 in
set_option maxRecDepth 100000 in
theorem count_Steps.calls (k : Nat) (a0_0 : Int) (a0_1 : Int) (a0_2 : Int) (a0_3 : Int) (A1 : Option Addr) (c1 : Nat) (l1 : List Int) (r1 : Int) (r2 : Int) (r3 : Int) (r4 : Int) (w : World) (hr1 : Kd.C (Kd.int .i64) w A1 l1.length l1) (hc1 : l1.length ≤ c1) (h : count_Steps.f k a0_0 a0_1 a0_2 a0_3 l1 = some (r1, r2, r3, r4)) :
    Calls Try.prog 17 #[.agg #[.int .i64 a0_0, .int .i64 a0_1, .int .i64 a0_2, .int .i64 a0_3], .slice A1 l1.length c1] w fun e w' => e = .returned (.agg #[.int .i64 r1, .int .i64 r2, .int .i64 r3, .int .i64 r4]) ∧ Below w.heap.size w w' := by
  have hu23 := Try.underlying23
  have HR1 := Aside0.mk hr1
  have HC1 := Aside0.mk hc1
  clear hr1 hc1
  have HB := Aside0.mk (Below.refl w.heap.size w)
  have H : (count_Steps.l0 k l1 (l1.length : Int) 0 a0_0 a0_1 a0_2 a0_3) = some (r1, r2, r3, r4) := h
  clear h
  have H' := Aside0.mk H
  clear H
  go_enter Try.func17, Try.ntmps17
  go_wp2_with (first | ((with_reducible refine gate_dst (N := 2) rfl ?_); refine box_event ?hg (N := 2) ?hd (cs := #[.int .i64 a0_0, .int .i64 a0_1, .int .i64 a0_2, .int .i64 a0_3]) (t := 23) ?hr ?_; (case hd => rfl); (case hg => rfl); (case hr => first | (go_simp; done) | (go_simp; rfl)); intro gb108 hg w3 hbox hb; have n0_ := Aside0.mk (below_step (by repeat (first | (with_reducible first | exact HB.out | apply below_alloc | apply pw_below_drewN | apply below_drew1) | exact HB.out)) hb); have n1_ := Aside0.mk (hbox); have n2_ := Aside0.mk ((by rw [hg]; exact (below_size (by repeat (first | (with_reducible first | exact HB.out | apply below_alloc | apply pw_below_drewN | apply below_drew1) | exact HB.out))) : w.heap.size ≤ gb108)); have n3_ := Aside0.mk ((by rw [hg]; exact (below_size (by repeat (first | (with_reducible first | exact HB.out | apply below_alloc | apply pw_below_drewN | apply below_drew1) | exact HB.out))) : w.heap.size ≤ gb108)); clear HB; have HB := n0_; have BK108 := n1_; have GW108 := n2_; have GE108 := n3_; clear n0_ n1_ n2_ n3_; clear hb hbox hg) | ((with_reducible refine gate_dst (N := 4) rfl ?_); refine box_event ?hg (N := 4) ?hd (cs := #[.int .i64 0, .int .i64 0, .int .i64 0, .int .i64 0]) (t := 23) ?hr ?_; (case hd => rfl); (case hg => rfl); (case hr => first | (go_simp; done) | (go_simp; rfl)); intro gb109 hg w4 hbox hb; have n0_ := Aside0.mk (blk_below (g := gb108) (o := .cells #[.int .i64 a0_0, .int .i64 a0_1, .int .i64 a0_2, .int .i64 a0_3] 23 (0, 0)) (by (with_reducible repeat (first | refine blk_drewN ?_ _ | refine blk_drew ?_ | refine blk_alloc ?_ _)); exact BK108.out) hb); have n1_ := Aside0.mk (below_step (by repeat (first | (with_reducible first | exact HB.out | apply below_alloc | apply pw_below_drewN | apply below_drew1 | refine below_set ?_ GE108.out) | exact HB.out)) hb); have n2_ := Aside0.mk (hbox); have n3_ := Aside0.mk ((by rw [hg]; exact (below_size (by repeat (first | (with_reducible first | exact HB.out | apply below_alloc | apply pw_below_drewN | apply below_drew1 | refine below_set ?_ GE108.out) | exact HB.out))) : w.heap.size ≤ gb109)); have n4_ := Aside0.mk ((by rw [hg]; exact (below_size (by repeat (first | (with_reducible first | exact HB.out | apply below_alloc | apply pw_below_drewN | apply below_drew1 | refine below_set ?_ GE108.out) | exact HB.out))) : w.heap.size ≤ gb109)); have n5_ := Aside0.mk ((by rw [hg]; exact Nat.ne_of_lt (blk_lt (g := gb108) (o := .cells #[.int .i64 a0_0, .int .i64 a0_1, .int .i64 a0_2, .int .i64 a0_3] 23 (0, 0)) (by (with_reducible repeat (first | refine blk_drewN ?_ _ | refine blk_drew ?_ | refine blk_alloc ?_ _)); exact BK108.out)) : gb108 ≠ gb109)); have n6_ := Aside0.mk ((by rw [hg]; exact Nat.ne_of_gt (blk_lt (g := gb108) (o := .cells #[.int .i64 a0_0, .int .i64 a0_1, .int .i64 a0_2, .int .i64 a0_3] 23 (0, 0)) (by (with_reducible repeat (first | refine blk_drewN ?_ _ | refine blk_drew ?_ | refine blk_alloc ?_ _)); exact BK108.out)) : gb109 ≠ gb108)); clear BK108; clear HB; have BK108 := n0_; have HB := n1_; have BK109 := n2_; have GW109 := n3_; have GE109 := n4_; have NB108_109 := n5_; have NB109_108 := n6_; clear n0_ n1_ n2_ n3_ n4_ n5_ n6_; clear hb hbox hg))
  go_loopg [9] k (fun kq v9 w' => ∃ (x9_1 : Int) (x109000_1 : Int) (x109001_1 : Int) (x109002_1 : Int) (x109003_1 : Int), v9 = .int .i64 x9_1 ∧ Aside0 (count_Steps.l0 kq l1 (l1.length : Int) x9_1 x109000_1 x109001_1 x109002_1 x109003_1 = some (r1, r2, r3, r4)) ∧ Aside0 (kq ≤ k) ∧ Aside0 (w'.heap[gb108]? = some (.cells #[.int .i64 x109000_1, .int .i64 x109001_1, .int .i64 x109002_1, .int .i64 x109003_1] 23 (0, 0))) ∧ Aside0 (w'.heap[gb109]? = some (.cells #[.int .i64 0, .int .i64 0, .int .i64 0, .int .i64 0] 23 (0, 0))) ∧ Aside0 (Below w.heap.size w w'))
  case atStart => exact ⟨(0), (a0_0), (a0_1), (a0_2), (a0_3), (by first | rfl | (simp; done) | (simp [*]; done)), H', ⟨Nat.le_refl _⟩, ⟨by (with_reducible repeat (first | refine blk_drewN ?_ _ | refine blk_drew ?_ | refine blk_alloc ?_ _)); exact BK108.out⟩, ⟨by (with_reducible repeat (first | refine blk_drewN ?_ _ | refine blk_drew ?_ | refine blk_alloc ?_ _)); exact BK109.out⟩, ⟨by repeat (first | (with_reducible first | exact HB.out | apply below_alloc | apply pw_below_drewN | apply below_drew1 | refine below_set ?_ GE108.out | refine below_set ?_ GE109.out) | exact HB.out)⟩⟩
  case round =>
    clear H'
    try clear c1
    try clear p2
    obtain ⟨x9_1, x109000_1, x109001_1, x109002_1, x109003_1, rfl, HA, HK1, BK108, BK109, HB⟩ := hrel
    cases gk with
    | zero => exact absurd HA.out (by simp [count_Steps.l0])
    | succ k1 =>
      have H := HA.out
      clear HA
      simp only [count_Steps.l0] at H
      by_cases c5 : x9_1 < (l1.length : Int)
      · rw [if_pos c5] at H
        have c5b0 : decide (x9_1 < (l1.length : Int)) = true := decide_eq_true c5
        clear c5
        by_cases c6 : 0 ≤ x9_1
        · rw [if_pos c6] at H
          have c6b0 : decide (0 ≤ x9_1) = true := decide_eq_true c6
          clear c6
          by_cases c7 : x9_1 < (l1.length : Int)
          · rw [if_pos c7] at H
            have c7b0 : decide (x9_1 < (l1.length : Int)) = true := decide_eq_true c7
            clear c7
            replace H := Option.bind_eq_some_iff.mp H
            obtain ⟨⟨t111, t112, t113, t114⟩, A80, H⟩ := H
            replace H : (count_Steps.l0 k1 l1 (l1.length : Int) (wrap64 (x9_1 + 1)) t111 t112 t113 t114) = some (r1, r2, r3, r4) := H
            have A8 := Aside0.mk A80
            clear A80
            have H' := Aside0.mk H
            clear H
            have p110 : 0 ≤ (x9_1 : Int) := of_decide_eq_true (by first | (with_reducible assumption) | assumption)
            have q110 : x9_1 < (l1.length : Int) := of_decide_eq_true (by first | (with_reducible assumption) | assumption)
            obtain ⟨ad110, e110, hx110_0⟩ := Kd.at_int HR1.out x9_1 p110 q110
            cases e110
            replace hx110_0 := (HB.out.cell (World.block_lt_of_cell? w _ hx110_0)).trans hx110_0
            replace p110 := eq_true p110
            replace q110 := eq_true q110
            have hnb9 := NB108_109.out
            have hnc9 := NB109_108.out
            have hcz10_0 : wr.cell? ⟨gb108, 0, none⟩ = some (.int .i64 x109000_1) := (blk_cell BK108.out 0).trans rfl
            have hcz10_1 : wr.cell? ⟨gb108, 1, none⟩ = some (.int .i64 x109001_1) := (blk_cell BK108.out 1).trans rfl
            have hcz10_2 : wr.cell? ⟨gb108, 2, none⟩ = some (.int .i64 x109002_1) := (blk_cell BK108.out 2).trans rfl
            have hcz10_3 : wr.cell? ⟨gb108, 3, none⟩ = some (.int .i64 x109003_1) := (blk_cell BK108.out 3).trans rfl
            have hfz10_0 := blk_frozen BK108.out 0
            have hfz10_1 := blk_frozen BK108.out 1
            have hfz10_2 := blk_frozen BK108.out 2
            have hfz10_3 := blk_frozen BK108.out 3
            go_wp2_with (first | ((with_reducible refine gate_callee (f := 15) rfl ?_); refine goesL_ (some 15) rfl rfl Try.func15 (by kernel_rfl) rfl #[.agg #[.int .i64 x109000_1, .int .i64 x109001_1, .int .i64 x109002_1, .int .i64 x109003_1], .int .i64 (rd l1 x9_1)] rfl (by (try simp only [List.map_toArray, List.map_cons, List.map_nil]); first | done | rfl | (simp only [List.length_drop, List.length_take]; rfl)) ?_; (with_reducible refine (count_Step.calls x109000_1 x109001_1 x109002_1 x109003_1 (rd l1 x9_1) t111 t112 t113 t114 _ A8.out).mono ?_); rintro e w11 ⟨rfl, hb⟩; refine ⟨_, rfl, ?_⟩; have n0_ := Aside0.mk (blk_below (g := gb108) (o := .cells #[.int .i64 x109000_1, .int .i64 x109001_1, .int .i64 x109002_1, .int .i64 x109003_1] 23 (0, 0)) (by (with_reducible repeat (first | refine blk_drewN ?_ _ | refine blk_drew ?_ | refine blk_alloc ?_ _)); exact BK108.out) hb); have n1_ := Aside0.mk (blk_below (g := gb109) (o := .cells #[.int .i64 0, .int .i64 0, .int .i64 0, .int .i64 0] 23 (0, 0)) (by (with_reducible repeat (first | refine blk_drewN ?_ _ | refine blk_drew ?_ | refine blk_alloc ?_ _)); exact BK109.out) hb); have n2_ := Aside0.mk (below_step (by repeat (first | (with_reducible first | exact HB.out | apply below_alloc | apply pw_below_drewN | apply below_drew1 | refine below_set ?_ GE108.out | refine below_set ?_ GE109.out) | exact HB.out)) hb); clear BK108; clear BK109; clear HB; have BK108 := n0_; have BK109 := n1_; have HB := n2_; clear n0_ n1_ n2_; (try clear hb); (try clear hb2); (try clear hk); (try clear hi); have hcz12_0 : w11.cell? ⟨gb108, 0, none⟩ = some (.int .i64 x109000_1) := (blk_cell BK108.out 0).trans rfl; have hcz12_1 : w11.cell? ⟨gb108, 1, none⟩ = some (.int .i64 x109001_1) := (blk_cell BK108.out 1).trans rfl; have hcz12_2 : w11.cell? ⟨gb108, 2, none⟩ = some (.int .i64 x109002_1) := (blk_cell BK108.out 2).trans rfl; have hcz12_3 : w11.cell? ⟨gb108, 3, none⟩ = some (.int .i64 x109003_1) := (blk_cell BK108.out 3).trans rfl; have hfz12_0 := blk_frozen BK108.out 0; have hfz12_1 := blk_frozen BK108.out 1; have hfz12_2 := blk_frozen BK108.out 2; have hfz12_3 := blk_frozen BK108.out 3))
            go_roundg k1
            case measure => have := HK1.out; omega
            case rel => exact ⟨(wrap64 (x9_1 + 1)), (t111), (t112), (t113), (t114), (by first | rfl | (simp; done) | (simp [*]; done)), H', ⟨by have := HK1.out; omega⟩, ⟨by (with_reducible repeat (first | refine blk_drewN ?_ _ | refine blk_drew ?_ | refine blk_alloc ?_ _)); refine blk_put (cs := #[.int .i64 t111, .int .i64 t112, .int .i64 t113, .int .i64 x109003_1]) ?_ 3 _ rfl; (with_reducible repeat (first | refine blk_drewN ?_ _ | refine blk_drew ?_ | refine blk_alloc ?_ _)); refine blk_put (cs := #[.int .i64 t111, .int .i64 t112, .int .i64 x109002_1, .int .i64 x109003_1]) ?_ 2 _ rfl; (with_reducible repeat (first | refine blk_drewN ?_ _ | refine blk_drew ?_ | refine blk_alloc ?_ _)); refine blk_put (cs := #[.int .i64 t111, .int .i64 x109001_1, .int .i64 x109002_1, .int .i64 x109003_1]) ?_ 1 _ rfl; (with_reducible repeat (first | refine blk_drewN ?_ _ | refine blk_drew ?_ | refine blk_alloc ?_ _)); refine blk_put (cs := #[.int .i64 x109000_1, .int .i64 x109001_1, .int .i64 x109002_1, .int .i64 x109003_1]) ?_ 0 _ rfl; (with_reducible repeat (first | refine blk_drewN ?_ _ | refine blk_drew ?_ | refine blk_alloc ?_ _)); exact BK108.out⟩, ⟨by (with_reducible repeat (first | refine blk_drewN ?_ _ | refine blk_drew ?_ | refine blk_alloc ?_ _)); refine blk_far ?_ NB109_108.out _; (with_reducible repeat (first | refine blk_drewN ?_ _ | refine blk_drew ?_ | refine blk_alloc ?_ _)); refine blk_far ?_ NB109_108.out _; (with_reducible repeat (first | refine blk_drewN ?_ _ | refine blk_drew ?_ | refine blk_alloc ?_ _)); refine blk_far ?_ NB109_108.out _; (with_reducible repeat (first | refine blk_drewN ?_ _ | refine blk_drew ?_ | refine blk_alloc ?_ _)); refine blk_far ?_ NB109_108.out _; (with_reducible repeat (first | refine blk_drewN ?_ _ | refine blk_drew ?_ | refine blk_alloc ?_ _)); exact BK109.out⟩, ⟨by repeat (first | (with_reducible first | exact HB.out | apply below_alloc | apply pw_below_drewN | apply below_drew1 | refine below_set ?_ GE108.out | refine below_set ?_ GE109.out) | exact HB.out)⟩⟩
          · rw [if_neg c7] at H
            exact absurd H (by simp)
        · rw [if_neg c6] at H
          exact absurd H (by simp)
      · rw [if_neg c5] at H
        have c5b0 : decide (x9_1 < (l1.length : Int)) = false := decide_eq_false c5
        clear c5
        simp only [Option.some.injEq, Prod.mk.injEq] at H
        obtain ⟨rfl, rfl, rfl, rfl⟩ := H
        have hnb13 := NB108_109.out
        have hnc13 := NB109_108.out
        have hcz14_0 : wr.cell? ⟨gb108, 0, none⟩ = some (.int .i64 x109000_1) := (blk_cell BK108.out 0).trans rfl
        have hcz14_1 : wr.cell? ⟨gb108, 1, none⟩ = some (.int .i64 x109001_1) := (blk_cell BK108.out 1).trans rfl
        have hcz14_2 : wr.cell? ⟨gb108, 2, none⟩ = some (.int .i64 x109002_1) := (blk_cell BK108.out 2).trans rfl
        have hcz14_3 : wr.cell? ⟨gb108, 3, none⟩ = some (.int .i64 x109003_1) := (blk_cell BK108.out 3).trans rfl
        have hfz14_0 := blk_frozen BK108.out 0
        have hfz14_1 := blk_frozen BK108.out 1
        have hfz14_2 := blk_frozen BK108.out 2
        have hfz14_3 := blk_frozen BK108.out 3
        have hcz15_0 : wr.cell? ⟨gb109, 0, none⟩ = some (.int .i64 0) := (blk_cell BK109.out 0).trans rfl
        have hcz15_1 : wr.cell? ⟨gb109, 1, none⟩ = some (.int .i64 0) := (blk_cell BK109.out 1).trans rfl
        have hcz15_2 : wr.cell? ⟨gb109, 2, none⟩ = some (.int .i64 0) := (blk_cell BK109.out 2).trans rfl
        have hcz15_3 : wr.cell? ⟨gb109, 3, none⟩ = some (.int .i64 0) := (blk_cell BK109.out 3).trans rfl
        have hfz15_0 := blk_frozen BK109.out 0
        have hfz15_1 := blk_frozen BK109.out 1
        have hfz15_2 := blk_frozen BK109.out 2
        have hfz15_3 := blk_frozen BK109.out 3
        go_wp2
        refine bodyPost_ret (results_cell_row rfl _ _ gb109 23 #[.int .i64 x109000_1, .int .i64 x109001_1, .int .i64 x109002_1, .int .i64 x109003_1] (0, 0) _ rfl (by (with_reducible repeat (first | refine blk_drewN ?_ _ | refine blk_drew ?_ | refine blk_alloc ?_ _)); refine blk_put (cs := #[.int .i64 x109000_1, .int .i64 x109001_1, .int .i64 x109002_1, .int .i64 0]) ?_ 3 _ rfl; (with_reducible repeat (first | refine blk_drewN ?_ _ | refine blk_drew ?_ | refine blk_alloc ?_ _)); refine blk_put (cs := #[.int .i64 x109000_1, .int .i64 x109001_1, .int .i64 0, .int .i64 0]) ?_ 2 _ rfl; (with_reducible repeat (first | refine blk_drewN ?_ _ | refine blk_drew ?_ | refine blk_alloc ?_ _)); refine blk_put (cs := #[.int .i64 x109000_1, .int .i64 0, .int .i64 0, .int .i64 0]) ?_ 1 _ rfl; (with_reducible repeat (first | refine blk_drewN ?_ _ | refine blk_drew ?_ | refine blk_alloc ?_ _)); refine blk_put (cs := #[.int .i64 0, .int .i64 0, .int .i64 0, .int .i64 0]) ?_ 0 _ rfl; (with_reducible repeat (first | refine blk_drewN ?_ _ | refine blk_drew ?_ | refine blk_alloc ?_ _)); exact BK109.out) Try.underlying23 rfl (by kernel_rfl)) rfl ?_
        exact ⟨by first | rfl | (simp [errW_none, errW_some] <;> rfl) | (simp [*, errW_none, errW_some] <;> rfl), by repeat (first | (with_reducible first | exact HB.out | apply below_alloc | apply pw_below_drewN | apply below_drew1 | refine below_set ?_ GE108.out | refine below_set ?_ GE109.out) | exact HB.out)⟩

/-! ### phaetonlaw08_times: function 19 -/
def phaetonlaw08_times.l0 : Nat → Int → Int → List Int → Int → Option (List Int)
  | 0, _, _, _, _ => none
  | k + 1, x0, x1, x5, x6 => if x6 < x1 then (if x5.length < 17592186044416 then (phaetonlaw08_times.l0 k x0 x1 (x5 ++ [x0]) (wrap64 (x6 + 1))) else (none)) else (some x5)
def phaetonlaw08_times.f (k : Nat) (a0 : Int) (a1 : Int) : Option (List Int) := phaetonlaw08_times.l0 k a0 a1 ([] : List Int) 0
theorem phaetonlaw08_times.mono_l : ∀ k, (∀ y0 y1 y2 y3, LeO (phaetonlaw08_times.l0 k y0 y1 y2 y3) (phaetonlaw08_times.l0 (k + 1) y0 y1 y2 y3))
  | 0 => fun _ _ _ _ r h => by simp [phaetonlaw08_times.l0] at h
  | k + 1 => by
    have ih0 := phaetonlaw08_times.mono_l k
    · intro y0 y1 y2 y3
      unfold phaetonlaw08_times.l0
      repeat' first
      | (with_reducible exact ih0 _ _ _ _)
      | (with_reducible exact LeO.refl _)
      | (with_reducible exact LeO.none _)
      | (with_reducible refine LeO.ite ?_ ?_)
      | (with_reducible refine LeO.bind ?_ (fun _ => ?_))
      | exact ih0 _ _ _ _
      | exact LeO.none _
      | refine LeO.ite ?_ ?_
      | refine LeO.bind ?_ (fun _ => ?_)
theorem phaetonlaw08_times.mono : ∀ a0 a1 k, LeO (phaetonlaw08_times.f k a0 a1) (phaetonlaw08_times.f (k + 1) a0 a1) := by
  intro a0 a1 k
  have ih0 := phaetonlaw08_times.mono_l k
  unfold phaetonlaw08_times.f
  repeat' first
      | (with_reducible exact ih0 _ _ _ _)
      | (with_reducible exact LeO.refl _)
      | (with_reducible exact LeO.none _)
      | (with_reducible refine LeO.ite ?_ ?_)
      | (with_reducible refine LeO.bind ?_ (fun _ => ?_))
      | exact ih0 _ _ _ _
      | exact LeO.none _
      | refine LeO.ite ?_ ?_
      | refine LeO.bind ?_ (fun _ => ?_)
set_option maxHeartbeats 8000000 in
set_option maxRecDepth 100000 in
theorem phaetonlaw08_times.calls (k : Nat) (a0 : Int) (a1 : Int) (r : List Int) (w : World) (h : phaetonlaw08_times.f k a0 a1 = some r) :
    Calls Try.prog 19 #[.int .i64 a0, .int .i64 a1] w fun e w' => ∃ v0_ : Value, e = .returned (v0_) ∧ Kd.R (Kd.int .i64) 3 w' w.heap.size (fun _ => True) v0_ r ∧ Below w.heap.size w w' := by
  have HB := Aside0.mk (Below.refl w.heap.size w)
  have H : (phaetonlaw08_times.l0 k a0 a1 ([] : List Int) 0) = some r := h
  clear h
  have H' := Aside0.mk H
  clear H
  go_enter Try.func19, Try.ntmps19
  go_wp2
  go_loopg [5, 6] k (fun kq v5 v6 w' => ∃ (x5_1 : List Int) (x6_1 : Int), v6 = .int .i64 x6_1 ∧ Aside0 (phaetonlaw08_times.l0 kq a0 a1 x5_1 x6_1 = some r) ∧ Aside0 (kq ≤ k) ∧ Aside0 (Kd.R (Kd.int .i64) 3 w' w.heap.size (fun _ => True) v5 x5_1) ∧ Aside0 (Below w.heap.size w w'))
  case atStart => exact ⟨(([] : List Int)), (0), (by first | rfl | (simp; done) | (simp [*]; done)), H', ⟨Nat.le_refl _⟩, ⟨by first | exact Kd.R_nil _ _ _ _ _ | exact Kd.N_nil _ _ _ _ _ | exact Kd.V_nil _ _ _ _ _ | exact Kd.Q_nil _ _ _ _ _ | exact Kd.S_nil _ _ _ _ _⟩, ⟨by repeat (first | (with_reducible first | exact HB.out | apply below_alloc | apply pw_below_drewN | apply below_drew1) | exact HB.out)⟩⟩
  case round =>
    clear H'
    try clear c1
    try clear p2
    obtain ⟨x5_1, x6_1, rfl, HA, HK1, HO_5, HB⟩ := hrel
    cases gk with
    | zero => exact absurd HA.out (by simp [phaetonlaw08_times.l0])
    | succ k1 =>
      have H := HA.out
      clear HA
      simp only [phaetonlaw08_times.l0] at H
      by_cases c3 : x6_1 < a1
      · rw [if_pos c3] at H
        have c3b0 : decide (x6_1 < a1) = true := decide_eq_true c3
        clear c3
        by_cases c4 : x5_1.length < 17592186044416
        · rw [if_pos c4] at H
          have LMc4 := Aside0.mk c4
          clear c4
          obtain ⟨y115, hy115⟩ : ∃ y_ : List Int, y_ = (x5_1 ++ [a0]) := ⟨_, rfl⟩
          replace H : (phaetonlaw08_times.l0 k1 a0 a1 y115 (wrap64 (x6_1 + 1))) = some r := by first | (rw [hy115]; with_reducible exact H) | (have H2_ := (Option.bind_some _ _).symm.trans H; rw [hy115]; with_reducible exact H2_) | (have H2_ := (Option.bind_some _ _).symm.trans H; with_reducible exact H2_) | with_reducible exact H | (rw [hy115]; exact H) | exact H
          have Ny115 := Aside0.mk hy115
          clear hy115
          have H' := Aside0.mk H
          clear H
          go_wp2_with (first | ((with_reducible refine gate_builtin (b := .append) (xs := #[.tmp 12, .tmp 14]) rfl ?_); at_builtin; refine Kd.R_append (Kd.int .i64) (w0 := w) w.heap.size rfl (.tmp 12) (.tmp 14) 24 3 (.int .i64 0) 8 rfl Try.underlying24 info3 rfl (by decide) (by omega) u5 x5_1 a0 [.int .i64 a0] (fun _ => True) (fun _ => False) rfl rfl ?aP (fun _ hk => hk.elim) ?aF ?aO ?aB ?aS ?aL ?_; (case aP => exact rfl); (case aB => exact (by repeat (first | (with_reducible first | exact HB.out | apply below_alloc | apply pw_below_drewN | apply below_drew1) | exact HB.out))); (case aF => exact (fun _ _ => trivial)); (case aO => exact (by (with_reducible repeat (first | apply Kd.R_alloc | apply Kd.R_drewN | apply Kd.R_drew)); exact HO_5.out)); (case aS => exact (below_size (by repeat (first | (with_reducible first | exact HB.out | apply below_alloc | apply pw_below_drewN | apply below_drew1) | exact HB.out)))); (case aL => have := LMc4.out; omega); intro v116 w5 ho hb hg hat; rw [← Ny115.out] at ho; have n0_ := Aside0.mk (hb); have n1_ := Aside0.mk (ho); clear HB; clear HO_5; have HB := n0_; have HO117 := n1_; clear n0_ n1_; clear ho hb hg hat))
          go_roundg k1
          case measure => have := HK1.out; omega
          case rel => exact ⟨(y115), (wrap64 (x6_1 + 1)), (by first | rfl | (simp; done) | (simp [*]; done)), H', ⟨by have := HK1.out; omega⟩, ⟨by (with_reducible repeat (first | apply Kd.R_alloc | apply Kd.R_drewN | apply Kd.R_drew)); exact HO117.out⟩, ⟨by repeat (first | (with_reducible first | exact HB.out | apply below_alloc | apply pw_below_drewN | apply below_drew1) | exact HB.out)⟩⟩
        · rw [if_neg c4] at H
          exact absurd H (by simp)
      · rw [if_neg c3] at H
        have c3b0 : decide (x6_1 < a1) = false := decide_eq_false c3
        clear c3
        obtain rfl := Option.some.inj H
        go_wp2
        go_ret
        exact ⟨_, by first | rfl | (simp [errW_none, errW_some] <;> rfl) | (simp [*, errW_none, errW_some] <;> rfl), by (with_reducible repeat (first | apply Kd.R_alloc | apply Kd.R_drewN | apply Kd.R_drew)); exact HO_5.out, by repeat (first | (with_reducible first | exact HB.out | apply below_alloc | apply pw_below_drewN | apply below_drew1) | exact HB.out)⟩

/-! ### phaetonlaw08_head: function 10 -/
def phaetonlaw08_head.f (k : Nat)  : Option (Bool) := (count_New.f).bind fun bt118 => ((phaetonlaw08_times.f k 3 32).bind fun t122 => ((count_Steps.f k bt118.1 bt118.2.1 bt118.2.2.1 bt118.2.2.2 t122).bind fun bt125 => ((phaetonlaw08_times.f k 6 127).bind fun t130 => ((count_Steps.f k bt125.1 bt125.2.1 bt125.2.2.1 bt125.2.2.2 t130).bind fun bt133 => ((count_New.f).bind fun bt138 => ((count_Right.f bt138.1 bt138.2.1 bt138.2.2.1 bt138.2.2.2).bind fun t142 => (if t142 = true then (if (bt125.1 == 256 && (bt125.2.1 == 0 && (bt125.2.2.1 == 3 && (bt125.2.2.2 == 0)))) = true then (if bt133.2.2.1 = 3 then ((count_Step.f bt133.1 bt133.2.1 bt133.2.2.1 bt133.2.2.2 6).bind fun bt143 => ((count_New.f).bind fun bt147 => (if (bt143.1 == bt147.1 && (bt143.2.1 == bt147.2.1 && (bt143.2.2.1 == bt147.2.2.1 && (bt143.2.2.2 == bt147.2.2.2)))) = true then ((count_New.f).bind fun bt151 => ((count_Step.f bt151.1 bt151.2.1 bt151.2.2.1 bt151.2.2.2 5).bind fun bt155 => (if (bt155.1 == 0 && (bt155.2.1 == 8 && (bt155.2.2.1 == 1 && (bt155.2.2.2 == 0)))) = true then ((count_New.f).bind fun bt159 => ((phaetonlaw08_times.f k 3 16).bind fun t163 => ((count_Steps.f k bt159.1 bt159.2.1 bt159.2.2.1 bt159.2.2.2 t163).bind fun bt166 => (if (bt166.1 == 128 && (bt166.2.1 == 0 && (bt166.2.2.1 == 2 && (bt166.2.2.2 == 0)))) = true then ((count_Right.f 0 0 0 0).bind fun t170 => (some (!t170))) else (none))))) else (none)))) else (none)))) else (none)) else (none)) else (none))))))))
theorem phaetonlaw08_head.mono : ∀ k, LeO (phaetonlaw08_head.f k ) (phaetonlaw08_head.f (k + 1) ) := by
  intro  k
  unfold phaetonlaw08_head.f
  repeat' first
      | (with_reducible exact count_Steps.mono _ _ _ _ _ _)
      | (with_reducible exact phaetonlaw08_times.mono _ _ _)
      | (with_reducible exact LeO.refl _)
      | (with_reducible exact LeO.none _)
      | (with_reducible refine LeO.ite ?_ ?_)
      | (with_reducible refine LeO.bind ?_ (fun _ => ?_))
      | exact count_Steps.mono _ _ _ _ _ _
      | exact phaetonlaw08_times.mono _ _ _
      | exact LeO.none _
      | refine LeO.ite ?_ ?_
      | refine LeO.bind ?_ (fun _ => ?_)
set_option maxHeartbeats 8000000 in
set_option maxRecDepth 100000 in
theorem phaetonlaw08_head.calls (k : Nat)  (r : Bool) (w : World) (h : phaetonlaw08_head.f k  = some r) :
    Calls Try.prog 10 #[] w fun e w' => e = .returned (.bool r) ∧ Below w.heap.size w w' := by
  have hu23 := Try.underlying23
  have HB := Aside0.mk (Below.refl w.heap.size w)
  have H : ((count_New.f).bind fun bt118 => ((phaetonlaw08_times.f k 3 32).bind fun t122 => ((count_Steps.f k bt118.1 bt118.2.1 bt118.2.2.1 bt118.2.2.2 t122).bind fun bt125 => ((phaetonlaw08_times.f k 6 127).bind fun t130 => ((count_Steps.f k bt125.1 bt125.2.1 bt125.2.2.1 bt125.2.2.2 t130).bind fun bt133 => ((count_New.f).bind fun bt138 => ((count_Right.f bt138.1 bt138.2.1 bt138.2.2.1 bt138.2.2.2).bind fun t142 => (if t142 = true then (if (bt125.1 == 256 && (bt125.2.1 == 0 && (bt125.2.2.1 == 3 && (bt125.2.2.2 == 0)))) = true then (if bt133.2.2.1 = 3 then ((count_Step.f bt133.1 bt133.2.1 bt133.2.2.1 bt133.2.2.2 6).bind fun bt143 => ((count_New.f).bind fun bt147 => (if (bt143.1 == bt147.1 && (bt143.2.1 == bt147.2.1 && (bt143.2.2.1 == bt147.2.2.1 && (bt143.2.2.2 == bt147.2.2.2)))) = true then ((count_New.f).bind fun bt151 => ((count_Step.f bt151.1 bt151.2.1 bt151.2.2.1 bt151.2.2.2 5).bind fun bt155 => (if (bt155.1 == 0 && (bt155.2.1 == 8 && (bt155.2.2.1 == 1 && (bt155.2.2.2 == 0)))) = true then ((count_New.f).bind fun bt159 => ((phaetonlaw08_times.f k 3 16).bind fun t163 => ((count_Steps.f k bt159.1 bt159.2.1 bt159.2.2.1 bt159.2.2.2 t163).bind fun bt166 => (if (bt166.1 == 128 && (bt166.2.1 == 0 && (bt166.2.2.1 == 2 && (bt166.2.2.2 == 0)))) = true then ((count_Right.f 0 0 0 0).bind fun t170 => (some (!t170))) else (none))))) else (none)))) else (none)))) else (none)) else (none)) else (none))))))))) = some r := h
  clear h
  replace H := Option.bind_eq_some_iff.mp H
  obtain ⟨⟨t118, t119, t120, t121⟩, A10, H⟩ := H
  replace H : ((phaetonlaw08_times.f k 3 32).bind fun t122 => ((count_Steps.f k t118 t119 t120 t121 t122).bind fun bt125 => ((phaetonlaw08_times.f k 6 127).bind fun t130 => ((count_Steps.f k bt125.1 bt125.2.1 bt125.2.2.1 bt125.2.2.2 t130).bind fun bt133 => ((count_New.f).bind fun bt138 => ((count_Right.f bt138.1 bt138.2.1 bt138.2.2.1 bt138.2.2.2).bind fun t142 => (if t142 = true then (if (bt125.1 == 256 && (bt125.2.1 == 0 && (bt125.2.2.1 == 3 && (bt125.2.2.2 == 0)))) = true then (if bt133.2.2.1 = 3 then ((count_Step.f bt133.1 bt133.2.1 bt133.2.2.1 bt133.2.2.2 6).bind fun bt143 => ((count_New.f).bind fun bt147 => (if (bt143.1 == bt147.1 && (bt143.2.1 == bt147.2.1 && (bt143.2.2.1 == bt147.2.2.1 && (bt143.2.2.2 == bt147.2.2.2)))) = true then ((count_New.f).bind fun bt151 => ((count_Step.f bt151.1 bt151.2.1 bt151.2.2.1 bt151.2.2.2 5).bind fun bt155 => (if (bt155.1 == 0 && (bt155.2.1 == 8 && (bt155.2.2.1 == 1 && (bt155.2.2.2 == 0)))) = true then ((count_New.f).bind fun bt159 => ((phaetonlaw08_times.f k 3 16).bind fun t163 => ((count_Steps.f k bt159.1 bt159.2.1 bt159.2.2.1 bt159.2.2.2 t163).bind fun bt166 => (if (bt166.1 == 128 && (bt166.2.1 == 0 && (bt166.2.2.1 == 2 && (bt166.2.2.2 == 0)))) = true then ((count_Right.f 0 0 0 0).bind fun t170 => (some (!t170))) else (none))))) else (none)))) else (none)))) else (none)) else (none)) else (none)))))))) = some r := H
  have A1 := Aside0.mk A10
  clear A10
  replace H := Option.bind_eq_some_iff.mp H
  obtain ⟨t122, A20, H⟩ := H
  replace H : ((count_Steps.f k t118 t119 t120 t121 t122).bind fun bt125 => ((phaetonlaw08_times.f k 6 127).bind fun t130 => ((count_Steps.f k bt125.1 bt125.2.1 bt125.2.2.1 bt125.2.2.2 t130).bind fun bt133 => ((count_New.f).bind fun bt138 => ((count_Right.f bt138.1 bt138.2.1 bt138.2.2.1 bt138.2.2.2).bind fun t142 => (if t142 = true then (if (bt125.1 == 256 && (bt125.2.1 == 0 && (bt125.2.2.1 == 3 && (bt125.2.2.2 == 0)))) = true then (if bt133.2.2.1 = 3 then ((count_Step.f bt133.1 bt133.2.1 bt133.2.2.1 bt133.2.2.2 6).bind fun bt143 => ((count_New.f).bind fun bt147 => (if (bt143.1 == bt147.1 && (bt143.2.1 == bt147.2.1 && (bt143.2.2.1 == bt147.2.2.1 && (bt143.2.2.2 == bt147.2.2.2)))) = true then ((count_New.f).bind fun bt151 => ((count_Step.f bt151.1 bt151.2.1 bt151.2.2.1 bt151.2.2.2 5).bind fun bt155 => (if (bt155.1 == 0 && (bt155.2.1 == 8 && (bt155.2.2.1 == 1 && (bt155.2.2.2 == 0)))) = true then ((count_New.f).bind fun bt159 => ((phaetonlaw08_times.f k 3 16).bind fun t163 => ((count_Steps.f k bt159.1 bt159.2.1 bt159.2.2.1 bt159.2.2.2 t163).bind fun bt166 => (if (bt166.1 == 128 && (bt166.2.1 == 0 && (bt166.2.2.1 == 2 && (bt166.2.2.2 == 0)))) = true then ((count_Right.f 0 0 0 0).bind fun t170 => (some (!t170))) else (none))))) else (none)))) else (none)))) else (none)) else (none)) else (none))))))) = some r := H
  have A2 := Aside0.mk A20
  clear A20
  replace H := Option.bind_eq_some_iff.mp H
  obtain ⟨⟨t125, t126, t127, t128⟩, A30, H⟩ := H
  replace H : ((phaetonlaw08_times.f k 6 127).bind fun t130 => ((count_Steps.f k t125 t126 t127 t128 t130).bind fun bt133 => ((count_New.f).bind fun bt138 => ((count_Right.f bt138.1 bt138.2.1 bt138.2.2.1 bt138.2.2.2).bind fun t142 => (if t142 = true then (if (t125 == 256 && (t126 == 0 && (t127 == 3 && (t128 == 0)))) = true then (if bt133.2.2.1 = 3 then ((count_Step.f bt133.1 bt133.2.1 bt133.2.2.1 bt133.2.2.2 6).bind fun bt143 => ((count_New.f).bind fun bt147 => (if (bt143.1 == bt147.1 && (bt143.2.1 == bt147.2.1 && (bt143.2.2.1 == bt147.2.2.1 && (bt143.2.2.2 == bt147.2.2.2)))) = true then ((count_New.f).bind fun bt151 => ((count_Step.f bt151.1 bt151.2.1 bt151.2.2.1 bt151.2.2.2 5).bind fun bt155 => (if (bt155.1 == 0 && (bt155.2.1 == 8 && (bt155.2.2.1 == 1 && (bt155.2.2.2 == 0)))) = true then ((count_New.f).bind fun bt159 => ((phaetonlaw08_times.f k 3 16).bind fun t163 => ((count_Steps.f k bt159.1 bt159.2.1 bt159.2.2.1 bt159.2.2.2 t163).bind fun bt166 => (if (bt166.1 == 128 && (bt166.2.1 == 0 && (bt166.2.2.1 == 2 && (bt166.2.2.2 == 0)))) = true then ((count_Right.f 0 0 0 0).bind fun t170 => (some (!t170))) else (none))))) else (none)))) else (none)))) else (none)) else (none)) else (none)))))) = some r := H
  have A3 := Aside0.mk A30
  clear A30
  replace H := Option.bind_eq_some_iff.mp H
  obtain ⟨t130, A40, H⟩ := H
  replace H : ((count_Steps.f k t125 t126 t127 t128 t130).bind fun bt133 => ((count_New.f).bind fun bt138 => ((count_Right.f bt138.1 bt138.2.1 bt138.2.2.1 bt138.2.2.2).bind fun t142 => (if t142 = true then (if (t125 == 256 && (t126 == 0 && (t127 == 3 && (t128 == 0)))) = true then (if bt133.2.2.1 = 3 then ((count_Step.f bt133.1 bt133.2.1 bt133.2.2.1 bt133.2.2.2 6).bind fun bt143 => ((count_New.f).bind fun bt147 => (if (bt143.1 == bt147.1 && (bt143.2.1 == bt147.2.1 && (bt143.2.2.1 == bt147.2.2.1 && (bt143.2.2.2 == bt147.2.2.2)))) = true then ((count_New.f).bind fun bt151 => ((count_Step.f bt151.1 bt151.2.1 bt151.2.2.1 bt151.2.2.2 5).bind fun bt155 => (if (bt155.1 == 0 && (bt155.2.1 == 8 && (bt155.2.2.1 == 1 && (bt155.2.2.2 == 0)))) = true then ((count_New.f).bind fun bt159 => ((phaetonlaw08_times.f k 3 16).bind fun t163 => ((count_Steps.f k bt159.1 bt159.2.1 bt159.2.2.1 bt159.2.2.2 t163).bind fun bt166 => (if (bt166.1 == 128 && (bt166.2.1 == 0 && (bt166.2.2.1 == 2 && (bt166.2.2.2 == 0)))) = true then ((count_Right.f 0 0 0 0).bind fun t170 => (some (!t170))) else (none))))) else (none)))) else (none)))) else (none)) else (none)) else (none))))) = some r := H
  have A4 := Aside0.mk A40
  clear A40
  replace H := Option.bind_eq_some_iff.mp H
  obtain ⟨⟨t133, t134, t135, t136⟩, A50, H⟩ := H
  replace H : ((count_New.f).bind fun bt138 => ((count_Right.f bt138.1 bt138.2.1 bt138.2.2.1 bt138.2.2.2).bind fun t142 => (if t142 = true then (if (t125 == 256 && (t126 == 0 && (t127 == 3 && (t128 == 0)))) = true then (if t135 = 3 then ((count_Step.f t133 t134 t135 t136 6).bind fun bt143 => ((count_New.f).bind fun bt147 => (if (bt143.1 == bt147.1 && (bt143.2.1 == bt147.2.1 && (bt143.2.2.1 == bt147.2.2.1 && (bt143.2.2.2 == bt147.2.2.2)))) = true then ((count_New.f).bind fun bt151 => ((count_Step.f bt151.1 bt151.2.1 bt151.2.2.1 bt151.2.2.2 5).bind fun bt155 => (if (bt155.1 == 0 && (bt155.2.1 == 8 && (bt155.2.2.1 == 1 && (bt155.2.2.2 == 0)))) = true then ((count_New.f).bind fun bt159 => ((phaetonlaw08_times.f k 3 16).bind fun t163 => ((count_Steps.f k bt159.1 bt159.2.1 bt159.2.2.1 bt159.2.2.2 t163).bind fun bt166 => (if (bt166.1 == 128 && (bt166.2.1 == 0 && (bt166.2.2.1 == 2 && (bt166.2.2.2 == 0)))) = true then ((count_Right.f 0 0 0 0).bind fun t170 => (some (!t170))) else (none))))) else (none)))) else (none)))) else (none)) else (none)) else (none)))) = some r := H
  have A5 := Aside0.mk A50
  clear A50
  replace H := Option.bind_eq_some_iff.mp H
  obtain ⟨⟨t138, t139, t140, t141⟩, A60, H⟩ := H
  replace H : ((count_Right.f t138 t139 t140 t141).bind fun t142 => (if t142 = true then (if (t125 == 256 && (t126 == 0 && (t127 == 3 && (t128 == 0)))) = true then (if t135 = 3 then ((count_Step.f t133 t134 t135 t136 6).bind fun bt143 => ((count_New.f).bind fun bt147 => (if (bt143.1 == bt147.1 && (bt143.2.1 == bt147.2.1 && (bt143.2.2.1 == bt147.2.2.1 && (bt143.2.2.2 == bt147.2.2.2)))) = true then ((count_New.f).bind fun bt151 => ((count_Step.f bt151.1 bt151.2.1 bt151.2.2.1 bt151.2.2.2 5).bind fun bt155 => (if (bt155.1 == 0 && (bt155.2.1 == 8 && (bt155.2.2.1 == 1 && (bt155.2.2.2 == 0)))) = true then ((count_New.f).bind fun bt159 => ((phaetonlaw08_times.f k 3 16).bind fun t163 => ((count_Steps.f k bt159.1 bt159.2.1 bt159.2.2.1 bt159.2.2.2 t163).bind fun bt166 => (if (bt166.1 == 128 && (bt166.2.1 == 0 && (bt166.2.2.1 == 2 && (bt166.2.2.2 == 0)))) = true then ((count_Right.f 0 0 0 0).bind fun t170 => (some (!t170))) else (none))))) else (none)))) else (none)))) else (none)) else (none)) else (none))) = some r := H
  have A6 := Aside0.mk A60
  clear A60
  replace H := Option.bind_eq_some_iff.mp H
  obtain ⟨t142, A70, H⟩ := H
  replace H : (if t142 = true then (if (t125 == 256 && (t126 == 0 && (t127 == 3 && (t128 == 0)))) = true then (if t135 = 3 then ((count_Step.f t133 t134 t135 t136 6).bind fun bt143 => ((count_New.f).bind fun bt147 => (if (bt143.1 == bt147.1 && (bt143.2.1 == bt147.2.1 && (bt143.2.2.1 == bt147.2.2.1 && (bt143.2.2.2 == bt147.2.2.2)))) = true then ((count_New.f).bind fun bt151 => ((count_Step.f bt151.1 bt151.2.1 bt151.2.2.1 bt151.2.2.2 5).bind fun bt155 => (if (bt155.1 == 0 && (bt155.2.1 == 8 && (bt155.2.2.1 == 1 && (bt155.2.2.2 == 0)))) = true then ((count_New.f).bind fun bt159 => ((phaetonlaw08_times.f k 3 16).bind fun t163 => ((count_Steps.f k bt159.1 bt159.2.1 bt159.2.2.1 bt159.2.2.2 t163).bind fun bt166 => (if (bt166.1 == 128 && (bt166.2.1 == 0 && (bt166.2.2.1 == 2 && (bt166.2.2.2 == 0)))) = true then ((count_Right.f 0 0 0 0).bind fun t170 => (some (!t170))) else (none))))) else (none)))) else (none)))) else (none)) else (none)) else (none)) = some r := H
  have A7 := Aside0.mk A70
  clear A70
  by_cases c8 : t142 = true
  · subst c8
    have H1 : (if (t125 == 256 && (t126 == 0 && (t127 == 3 && (t128 == 0)))) = true then (if t135 = 3 then ((count_Step.f t133 t134 t135 t136 6).bind fun bt143 => ((count_New.f).bind fun bt147 => (if (bt143.1 == bt147.1 && (bt143.2.1 == bt147.2.1 && (bt143.2.2.1 == bt147.2.2.1 && (bt143.2.2.2 == bt147.2.2.2)))) = true then ((count_New.f).bind fun bt151 => ((count_Step.f bt151.1 bt151.2.1 bt151.2.2.1 bt151.2.2.2 5).bind fun bt155 => (if (bt155.1 == 0 && (bt155.2.1 == 8 && (bt155.2.2.1 == 1 && (bt155.2.2.2 == 0)))) = true then ((count_New.f).bind fun bt159 => ((phaetonlaw08_times.f k 3 16).bind fun t163 => ((count_Steps.f k bt159.1 bt159.2.1 bt159.2.2.1 bt159.2.2.2 t163).bind fun bt166 => (if (bt166.1 == 128 && (bt166.2.1 == 0 && (bt166.2.2.1 == 2 && (bt166.2.2.2 == 0)))) = true then ((count_Right.f 0 0 0 0).bind fun t170 => (some (!t170))) else (none))))) else (none)))) else (none)))) else (none)) else (none)) = some r := by rw [if_pos rfl] at H; exact H
    clear H
    have H := H1
    clear H1
    by_cases c9 : (t125 == 256 && (t126 == 0 && (t127 == 3 && (t128 == 0)))) = true
    · rw [if_pos c9] at H
      have c9b0 : (t125 == 256 && (t126 == 0 && (t127 == 3 && (t128 == 0)))) = true := c9
      (try (have c9b1 : decide (t125 = 256 && (t126 == 0 && (t127 == 3 && (t128 == 0)))) = true := by simpa using c9))
      (try (have c9b2 : (t125 == 256 && (t126 == 0 && (t127 == 3 && (t128 == 0)))) = true := by simpa using c9))
      clear c9
      by_cases c10 : t135 = 3
      · rw [if_pos c10] at H
        have c10b0 : (t135 == 3) = true := beq_iff_eq.mpr c10
        have c10b1 : (t135 != 3) = false := bne_eq_false_iff_eq.mpr c10
        clear c10
        replace H := Option.bind_eq_some_iff.mp H
        obtain ⟨⟨t143, t144, t145, t146⟩, A110, H⟩ := H
        replace H : ((count_New.f).bind fun bt147 => (if (t143 == bt147.1 && (t144 == bt147.2.1 && (t145 == bt147.2.2.1 && (t146 == bt147.2.2.2)))) = true then ((count_New.f).bind fun bt151 => ((count_Step.f bt151.1 bt151.2.1 bt151.2.2.1 bt151.2.2.2 5).bind fun bt155 => (if (bt155.1 == 0 && (bt155.2.1 == 8 && (bt155.2.2.1 == 1 && (bt155.2.2.2 == 0)))) = true then ((count_New.f).bind fun bt159 => ((phaetonlaw08_times.f k 3 16).bind fun t163 => ((count_Steps.f k bt159.1 bt159.2.1 bt159.2.2.1 bt159.2.2.2 t163).bind fun bt166 => (if (bt166.1 == 128 && (bt166.2.1 == 0 && (bt166.2.2.1 == 2 && (bt166.2.2.2 == 0)))) = true then ((count_Right.f 0 0 0 0).bind fun t170 => (some (!t170))) else (none))))) else (none)))) else (none))) = some r := H
        have A11 := Aside0.mk A110
        clear A110
        replace H := Option.bind_eq_some_iff.mp H
        obtain ⟨⟨t147, t148, t149, t150⟩, A120, H⟩ := H
        replace H : (if (t143 == t147 && (t144 == t148 && (t145 == t149 && (t146 == t150)))) = true then ((count_New.f).bind fun bt151 => ((count_Step.f bt151.1 bt151.2.1 bt151.2.2.1 bt151.2.2.2 5).bind fun bt155 => (if (bt155.1 == 0 && (bt155.2.1 == 8 && (bt155.2.2.1 == 1 && (bt155.2.2.2 == 0)))) = true then ((count_New.f).bind fun bt159 => ((phaetonlaw08_times.f k 3 16).bind fun t163 => ((count_Steps.f k bt159.1 bt159.2.1 bt159.2.2.1 bt159.2.2.2 t163).bind fun bt166 => (if (bt166.1 == 128 && (bt166.2.1 == 0 && (bt166.2.2.1 == 2 && (bt166.2.2.2 == 0)))) = true then ((count_Right.f 0 0 0 0).bind fun t170 => (some (!t170))) else (none))))) else (none)))) else (none)) = some r := H
        have A12 := Aside0.mk A120
        clear A120
        by_cases c13 : (t143 == t147 && (t144 == t148 && (t145 == t149 && (t146 == t150)))) = true
        · rw [if_pos c13] at H
          have c13b0 : (t143 == t147 && (t144 == t148 && (t145 == t149 && (t146 == t150)))) = true := c13
          (try (have c13b1 : decide (t143 = t147 && (t144 == t148 && (t145 == t149 && (t146 == t150)))) = true := by simpa using c13))
          (try (have c13b2 : (t143 == t147 && (t144 == t148 && (t145 == t149 && (t146 == t150)))) = true := by simpa using c13))
          clear c13
          replace H := Option.bind_eq_some_iff.mp H
          obtain ⟨⟨t151, t152, t153, t154⟩, A140, H⟩ := H
          replace H : ((count_Step.f t151 t152 t153 t154 5).bind fun bt155 => (if (bt155.1 == 0 && (bt155.2.1 == 8 && (bt155.2.2.1 == 1 && (bt155.2.2.2 == 0)))) = true then ((count_New.f).bind fun bt159 => ((phaetonlaw08_times.f k 3 16).bind fun t163 => ((count_Steps.f k bt159.1 bt159.2.1 bt159.2.2.1 bt159.2.2.2 t163).bind fun bt166 => (if (bt166.1 == 128 && (bt166.2.1 == 0 && (bt166.2.2.1 == 2 && (bt166.2.2.2 == 0)))) = true then ((count_Right.f 0 0 0 0).bind fun t170 => (some (!t170))) else (none))))) else (none))) = some r := H
          have A14 := Aside0.mk A140
          clear A140
          replace H := Option.bind_eq_some_iff.mp H
          obtain ⟨⟨t155, t156, t157, t158⟩, A150, H⟩ := H
          replace H : (if (t155 == 0 && (t156 == 8 && (t157 == 1 && (t158 == 0)))) = true then ((count_New.f).bind fun bt159 => ((phaetonlaw08_times.f k 3 16).bind fun t163 => ((count_Steps.f k bt159.1 bt159.2.1 bt159.2.2.1 bt159.2.2.2 t163).bind fun bt166 => (if (bt166.1 == 128 && (bt166.2.1 == 0 && (bt166.2.2.1 == 2 && (bt166.2.2.2 == 0)))) = true then ((count_Right.f 0 0 0 0).bind fun t170 => (some (!t170))) else (none))))) else (none)) = some r := H
          have A15 := Aside0.mk A150
          clear A150
          by_cases c16 : (t155 == 0 && (t156 == 8 && (t157 == 1 && (t158 == 0)))) = true
          · rw [if_pos c16] at H
            have c16b0 : (t155 == 0 && (t156 == 8 && (t157 == 1 && (t158 == 0)))) = true := c16
            (try (have c16b1 : decide (t155 = 0 && (t156 == 8 && (t157 == 1 && (t158 == 0)))) = true := by simpa using c16))
            (try (have c16b2 : (t155 == 0 && (t156 == 8 && (t157 == 1 && (t158 == 0)))) = true := by simpa using c16))
            clear c16
            replace H := Option.bind_eq_some_iff.mp H
            obtain ⟨⟨t159, t160, t161, t162⟩, A170, H⟩ := H
            replace H : ((phaetonlaw08_times.f k 3 16).bind fun t163 => ((count_Steps.f k t159 t160 t161 t162 t163).bind fun bt166 => (if (bt166.1 == 128 && (bt166.2.1 == 0 && (bt166.2.2.1 == 2 && (bt166.2.2.2 == 0)))) = true then ((count_Right.f 0 0 0 0).bind fun t170 => (some (!t170))) else (none)))) = some r := H
            have A17 := Aside0.mk A170
            clear A170
            replace H := Option.bind_eq_some_iff.mp H
            obtain ⟨t163, A180, H⟩ := H
            replace H : ((count_Steps.f k t159 t160 t161 t162 t163).bind fun bt166 => (if (bt166.1 == 128 && (bt166.2.1 == 0 && (bt166.2.2.1 == 2 && (bt166.2.2.2 == 0)))) = true then ((count_Right.f 0 0 0 0).bind fun t170 => (some (!t170))) else (none))) = some r := H
            have A18 := Aside0.mk A180
            clear A180
            replace H := Option.bind_eq_some_iff.mp H
            obtain ⟨⟨t166, t167, t168, t169⟩, A190, H⟩ := H
            replace H : (if (t166 == 128 && (t167 == 0 && (t168 == 2 && (t169 == 0)))) = true then ((count_Right.f 0 0 0 0).bind fun t170 => (some (!t170))) else (none)) = some r := H
            have A19 := Aside0.mk A190
            clear A190
            by_cases c20 : (t166 == 128 && (t167 == 0 && (t168 == 2 && (t169 == 0)))) = true
            · rw [if_pos c20] at H
              have c20b0 : (t166 == 128 && (t167 == 0 && (t168 == 2 && (t169 == 0)))) = true := c20
              (try (have c20b1 : decide (t166 = 128 && (t167 == 0 && (t168 == 2 && (t169 == 0)))) = true := by simpa using c20))
              (try (have c20b2 : (t166 == 128 && (t167 == 0 && (t168 == 2 && (t169 == 0)))) = true := by simpa using c20))
              clear c20
              replace H := Option.bind_eq_some_iff.mp H
              obtain ⟨t170, A210, H⟩ := H
              replace H : (some (!t170)) = some r := H
              have A21 := Aside0.mk A210
              clear A210
              obtain rfl := Option.some.inj H
              go_enter Try.func10, Try.ntmps10
              try go_wp2_with (first | (go_at_call 13; (with_reducible refine Go.Proofs.YtlbhokkifdjlaaaOwn.gate_args (#[] : Array Value) rfl ?_); (with_reducible refine (count_New.calls  t118 t119 t120 t121 _ A1.out).mono ?_); (try clear A1); rintro e w22 ⟨rfl, hb⟩; have n0_ := Aside0.mk (below_step (by repeat (first | (with_reducible first | exact HB.out | apply below_alloc | apply pw_below_drewN | apply below_drew1) | exact HB.out)) hb); clear HB; have HB := n0_; clear n0_; (try clear hb); (try clear hb2); (try clear hk); (try clear hi)) | (go_at_call 19; (with_reducible refine Go.Proofs.YtlbhokkifdjlaaaOwn.gate_args (#[.int .i64 3, .int .i64 32] : Array Value) rfl ?_); (with_reducible refine (phaetonlaw08_times.calls k 3 32 t122 _ A2.out).mono ?_); (try clear A2); rintro e w23 ⟨v123, rfl, ho0, hb⟩; have n0_ := Aside0.mk (Kd.R_lower ho0 (below_size (by repeat (first | (with_reducible first | exact HB.out | apply below_alloc | apply pw_below_drewN | apply below_drew1) | exact HB.out)))); have n1_ := Aside0.mk (below_step (by repeat (first | (with_reducible first | exact HB.out | apply below_alloc | apply pw_below_drewN | apply below_drew1) | exact HB.out)) hb); clear HB; have HO124 := n0_; have HB := n1_; clear n0_ n1_; (try clear hb); (try clear hb2); (try clear hk); (try clear hi); (try clear ho0); obtain ⟨Ao24, co24, eo24⟩ := Kd.R_slice HO124.out; subst eo24) | (go_at_call 17; (with_reducible refine Go.Proofs.YtlbhokkifdjlaaaOwn.gate_args (#[.agg #[.int .i64 t118, .int .i64 t119, .int .i64 t120, .int .i64 t121], _] : Array Value) rfl ?_); (with_reducible refine (count_Steps.calls k t118 t119 t120 t121 _ _ t122 t125 t126 t127 t128 _ ?side1 ?side2 A3.out).mono ?_); (case side1 => repeat (first | exact (Kd.R_reads' HO124.out).2.2 | (with_reducible refine Kd.C_alloc ?_ _) | (with_reducible refine Kd.C_drewN ?_ _) | (with_reducible refine Kd.C_drew ?_))); (case side2 => exact (Kd.R_reads' HO124.out).2.1); rintro e w25 ⟨rfl, hb⟩; have n0_ := Aside0.mk (Kd.R_below (by (with_reducible repeat (first | apply Kd.R_alloc | apply Kd.R_drewN | apply Kd.R_drew)); exact HO124.out) hb); have n1_ := Aside0.mk (below_step (by repeat (first | (with_reducible first | exact HB.out | apply below_alloc | apply pw_below_drewN | apply below_drew1) | exact HB.out)) hb); clear HO124; clear HB; have HO124 := n0_; have HB := n1_; clear n0_ n1_; (try clear hb); (try clear hb2); (try clear hk); (try clear hi)) | ((with_reducible refine gate_dst (N := 1) rfl ?_); refine box_event ?hg (N := 1) ?hd (cs := #[.int .i64 0, .int .i64 0, .int .i64 0, .int .i64 0]) (t := 23) ?hr ?_; (case hd => rfl); (case hg => rfl); (case hr => first | (go_simp; done) | (go_simp; rfl)); intro gb129 hg w26 hbox hb; have n0_ := Aside0.mk (Kd.R_below (by (with_reducible repeat (first | apply Kd.R_alloc | apply Kd.R_drewN | apply Kd.R_drew)); exact HO124.out) hb); have n1_ := Aside0.mk (below_step (by repeat (first | (with_reducible first | exact HB.out | apply below_alloc | apply pw_below_drewN | apply below_drew1) | exact HB.out)) hb); have n2_ := Aside0.mk (hbox); have n3_ := Aside0.mk ((by rw [hg]; exact (below_size (by repeat (first | (with_reducible first | exact HB.out | apply below_alloc | apply pw_below_drewN | apply below_drew1) | exact HB.out))) : w.heap.size ≤ gb129)); have n4_ := Aside0.mk ((by rw [hg]; exact (below_size (by repeat (first | (with_reducible first | exact HB.out | apply below_alloc | apply pw_below_drewN | apply below_drew1) | exact HB.out))) : w.heap.size ≤ gb129)); clear HO124; clear HB; have HO124 := n0_; have HB := n1_; have BK129 := n2_; have GW129 := n3_; have GE129 := n4_; clear n0_ n1_ n2_ n3_ n4_; clear hb hbox hg; have hcz27_0 : w26.cell? ⟨gb129, 0, none⟩ = some (.int .i64 0) := (blk_cell BK129.out 0).trans rfl; have hcz27_1 : w26.cell? ⟨gb129, 1, none⟩ = some (.int .i64 0) := (blk_cell BK129.out 1).trans rfl; have hcz27_2 : w26.cell? ⟨gb129, 2, none⟩ = some (.int .i64 0) := (blk_cell BK129.out 2).trans rfl; have hcz27_3 : w26.cell? ⟨gb129, 3, none⟩ = some (.int .i64 0) := (blk_cell BK129.out 3).trans rfl; have hfz27_0 := blk_frozen BK129.out 0; have hfz27_1 := blk_frozen BK129.out 1; have hfz27_2 := blk_frozen BK129.out 2; have hfz27_3 := blk_frozen BK129.out 3))
              have n0_ : Aside0 (Kd.R (Kd.int .i64) 3 ((((w26.setCell ⟨gb129, 0, none⟩ (.int .i64 t125)).setCell ⟨gb129, 1, none⟩ (.int .i64 t126)).setCell ⟨gb129, 2, none⟩ (.int .i64 t127)).setCell ⟨gb129, 3, none⟩ (.int .i64 t128)) w.heap.size (fun _ => True) (.slice Ao24 t122.length co24) t122) := ⟨by (with_reducible repeat (first | apply Kd.R_alloc | apply Kd.R_drewN | apply Kd.R_drew)); exact Kd.R_mono (Kd.R_far (p := ⟨gb129, 3, none⟩) (Kd.R_far (p := ⟨gb129, 2, none⟩) (Kd.R_far (p := ⟨gb129, 1, none⟩) (Kd.R_far (p := ⟨gb129, 0, none⟩) (Kd.R_types HO124.out BK129.out (by decide)) (fun _ hk => hk.2) (.int .i64 t125)) (fun _ hk => hk.2) (.int .i64 t126)) (fun _ hk => hk.2) (.int .i64 t127)) (fun _ hk => hk.2) (.int .i64 t128)) (fun _ hk => trivial)⟩
              have n1_ : Aside0 (((((w26.setCell ⟨gb129, 0, none⟩ (.int .i64 t125)).setCell ⟨gb129, 1, none⟩ (.int .i64 t126)).setCell ⟨gb129, 2, none⟩ (.int .i64 t127)).setCell ⟨gb129, 3, none⟩ (.int .i64 t128)).heap[gb129]? = some (.cells #[.int .i64 t125, .int .i64 t126, .int .i64 t127, .int .i64 t128] 23 (0, 0))) := ⟨by (with_reducible repeat (first | refine blk_drewN ?_ _ | refine blk_drew ?_ | refine blk_alloc ?_ _)); refine blk_put (cs := #[.int .i64 t125, .int .i64 t126, .int .i64 t127, .int .i64 0]) ?_ 3 _ rfl; (with_reducible repeat (first | refine blk_drewN ?_ _ | refine blk_drew ?_ | refine blk_alloc ?_ _)); refine blk_put (cs := #[.int .i64 t125, .int .i64 t126, .int .i64 0, .int .i64 0]) ?_ 2 _ rfl; (with_reducible repeat (first | refine blk_drewN ?_ _ | refine blk_drew ?_ | refine blk_alloc ?_ _)); refine blk_put (cs := #[.int .i64 t125, .int .i64 0, .int .i64 0, .int .i64 0]) ?_ 1 _ rfl; (with_reducible repeat (first | refine blk_drewN ?_ _ | refine blk_drew ?_ | refine blk_alloc ?_ _)); refine blk_put (cs := #[.int .i64 0, .int .i64 0, .int .i64 0, .int .i64 0]) ?_ 0 _ rfl; (with_reducible repeat (first | refine blk_drewN ?_ _ | refine blk_drew ?_ | refine blk_alloc ?_ _)); exact BK129.out⟩
              have n2_ : Aside0 (Below w.heap.size w ((((w26.setCell ⟨gb129, 0, none⟩ (.int .i64 t125)).setCell ⟨gb129, 1, none⟩ (.int .i64 t126)).setCell ⟨gb129, 2, none⟩ (.int .i64 t127)).setCell ⟨gb129, 3, none⟩ (.int .i64 t128))) := ⟨by repeat (first | (with_reducible first | exact HB.out | apply below_alloc | apply pw_below_drewN | apply below_drew1 | refine below_set ?_ GE129.out) | exact HB.out)⟩
              (try clear HO124)
              (try clear BK129)
              (try clear HB)
              generalize ((((w26.setCell ⟨gb129, 0, none⟩ (.int .i64 t125)).setCell ⟨gb129, 1, none⟩ (.int .i64 t126)).setCell ⟨gb129, 2, none⟩ (.int .i64 t127)).setCell ⟨gb129, 3, none⟩ (.int .i64 t128)) = w28 at n0_ n1_ n2_ ⊢
              have HO124 := n0_
              have BK129 := n1_
              have HB := n2_
              clear n0_ n1_ n2_
              have n0_ := Aside0.mk (Kd.R_drew HO124.out)
              have n1_ := Aside0.mk (blk_drew BK129.out)
              have n2_ := Aside0.mk (below_drew1 HB.out)
              clear HO124
              clear BK129
              clear HB
              have HO124 := n0_
              have BK129 := n1_
              have HB := n2_
              clear n0_ n1_ n2_
              refine start_ (n := 5) (S := fun w' => w'.cell? ⟨gb129, 0, none⟩ = some (.int .i64 t125) ∧ w'.cell? ⟨gb129, 1, none⟩ = some (.int .i64 t126) ∧ w'.cell? ⟨gb129, 2, none⟩ = some (.int .i64 t127) ∧ w'.cell? ⟨gb129, 3, none⟩ = some (.int .i64 t128)) (ds := []) #[false, false, false, false, false] (by kernel_rfl) rfl rfl ⟨(blk_cell BK129.out 0).trans rfl, (blk_cell BK129.out 1).trans rfl, (blk_cell BK129.out 2).trans rfl, (blk_cell BK129.out 3).trans rfl⟩ (fun hHeld => ?_)
              generalize w28.drew = w29 at HO124 BK129 HB hHeld ⊢
              refine take_ (i := 0) (N := some 6) (v := ?_) (a' := ?_) #[true, false, false, false, false] rfl rfl (by kernel_rfl) (fun _ _ _ h => h) (Or.inl ⟨by rfl, ?_⟩) hHeld ?_ ?_
              rotate_left
              · rintro w' ⟨s0, s1, s2, s3⟩
                go_simp
                with_reducible rfl
              rotate_left
              · simp only [Act.put, List.setIfInBounds_toArray, List.set_cons_zero, List.set_cons_succ, i64_w, i32_w]
                rfl
              refine join_ (σ := Value × Nat) 1 #[true, true, true, true, false] (fun s_ => [(7, s_.1), (8, .agg #[.int .i64 t133, .int .i64 t134, .int .i64 t135, .int .i64 t136]), (2, .pointer (some ⟨s_.2, 0, none⟩))]) (fun s_ w' => (w'.cell? ⟨gb129, 0, none⟩ = some (.int .i64 t125) ∧ w'.cell? ⟨gb129, 1, none⟩ = some (.int .i64 t126) ∧ w'.cell? ⟨gb129, 2, none⟩ = some (.int .i64 t127) ∧ w'.cell? ⟨gb129, 3, none⟩ = some (.int .i64 t128)) ∧ (Kd.R (Kd.int .i64) 3 w' w.heap.size (fun k_ => some k_ ≠ (s_.1 : Value).ownBlock) (.slice Ao24 t122.length co24) t122) ∧ (Kd.R (Kd.int .i64) 3 w' w.heap.size (fun k_ => some k_ ≠ (.slice Ao24 t122.length co24 : Value).ownBlock) s_.1 t130) ∧ (w'.heap[gb129]? = some (.cells #[.int .i64 t125, .int .i64 t126, .int .i64 t127, .int .i64 t128] 23 (0, 0))) ∧ (w'.heap[s_.2]? = some (.cells #[.int .i64 0, .int .i64 0, .int .i64 0, .int .i64 0] 23 (0, 0))) ∧ (w.heap.size ≤ s_.2) ∧ (w.heap.size ≤ s_.2) ∧ (gb129 ≠ s_.2) ∧ (s_.2 ≠ gb129) ∧ (Below w.heap.size w w')) ?_ ?_
              rotate_left
              · intro hCont
                refine two_ (i := 1) (j := 3) (Ni := some 7) (Nj := some 2) #[true, true, false, false, false] #[true, false, false, true, false] rfl rfl rfl rfl (by kernel_rfl) (by decide) (by decide) (fun K hK => ?_) (fun K hK => ?_)
                · skip
                  refine goes_ Try.func19 (by kernel_rfl) rfl #[.int .i64 6, .int .i64 127] (by rfl) rfl rfl (by (try simp only [List.map_toArray, List.map_cons, List.map_nil]); first | done | rfl | (simp only [List.length_drop, List.length_take]; rfl)) ?_
                  with_reducible refine (phaetonlaw08_times.calls k 6 127 t130 _ A4.out).mono ?_
                  rintro e w30 ⟨v131, rfl, ho0, hb⟩
                  refine ⟨_, rfl, ?_⟩
                  have n0_ := Aside0.mk (Kd.R_elder' (by (with_reducible repeat (first | apply Kd.R_alloc | apply Kd.R_drewN | apply Kd.R_drew)); exact HO124.out) (Kd.R_base ho0) hb)
                  have n1_ := Aside0.mk (Kd.R_lower (Kd.R_new' ho0 (Kd.R_lt (by (with_reducible repeat (first | apply Kd.R_alloc | apply Kd.R_drewN | apply Kd.R_drew)); exact HO124.out))) (below_size (by repeat (first | (with_reducible first | exact HB.out | apply below_alloc | apply pw_below_drewN | apply below_drew1 | refine below_set ?_ GE129.out) | exact HB.out))))
                  have n2_ := Aside0.mk (blk_below (g := gb129) (o := .cells #[.int .i64 t125, .int .i64 t126, .int .i64 t127, .int .i64 t128] 23 (0, 0)) (by (with_reducible repeat (first | refine blk_drewN ?_ _ | refine blk_drew ?_ | refine blk_alloc ?_ _)); exact BK129.out) hb)
                  have n3_ := Aside0.mk (below_step (by repeat (first | (with_reducible first | exact HB.out | apply below_alloc | apply pw_below_drewN | apply below_drew1 | refine below_set ?_ GE129.out) | exact HB.out)) hb)
                  clear HO124
                  clear BK129
                  clear HB
                  have HO124 := n0_
                  have HO132 := n1_
                  have BK129 := n2_
                  have HB := n3_
                  clear n0_ n1_ n2_ n3_
                  (try clear hb)
                  (try clear hb2)
                  (try clear hk)
                  (try clear hi)
                  (try clear ho0)
                  obtain ⟨Ao31, co31, eo31⟩ := Kd.R_slice HO132.out
                  (first | subst eo31 | (injection eo31 with f1_ f2_ f3_; have f4_ := f1_.symm; have f5_ := f3_.symm; clear f1_ f2_ f3_; subst f4_; subst f5_))
                  refine hK.out _ _ ⟨(blk_cell BK129.out 0).trans rfl, (blk_cell BK129.out 1).trans rfl, (blk_cell BK129.out 2).trans rfl, (blk_cell BK129.out 3).trans rfl⟩ (fun hHeld => ?_)
                  clear hK K
                  refine norm_ (a' := ?_) ?_ ?_
                  rotate_left
                  · show Act.put _ (some 7) _ = _
                    simp only [Act.put, List.setIfInBounds_toArray, List.set_cons_zero, List.set_cons_succ, i64_w, i32_w]
                    rfl
                  refine two_ (i := 2) (j := 3) (Ni := some 8) (Nj := some 2) #[true, true, true, false, false] #[true, true, false, true, false] rfl rfl rfl rfl (by kernel_rfl) (by decide) (by decide) (fun K hK => ?_) (fun K hK => ?_)
                  · skip
                    refine goes_ Try.func17 (by kernel_rfl) rfl #[.agg #[.int .i64 t125, .int .i64 t126, .int .i64 t127, .int .i64 t128], .slice Ao31 t130.length co31] (by rfl) rfl rfl (by (try simp only [List.map_toArray, List.map_cons, List.map_nil]); first | done | rfl | (simp only [List.length_drop, List.length_take]; rfl)) ?_
                    with_reducible refine (count_Steps.calls k t125 t126 t127 t128 _ _ t130 t133 t134 t135 t136 _ ?side1 ?side2 A5.out).mono ?_
                    (case side1 => repeat (first | exact (Kd.R_reads' HO132.out).2.2 | (with_reducible refine Kd.C_alloc ?_ _) | (with_reducible refine Kd.C_drewN ?_ _) | (with_reducible refine Kd.C_drew ?_)))
                    (case side2 => exact (Kd.R_reads' HO132.out).2.1)
                    rintro e w32 ⟨rfl, hb⟩
                    refine ⟨_, rfl, ?_⟩
                    have n0_ := Aside0.mk (Kd.R_below (by (with_reducible repeat (first | apply Kd.R_alloc | apply Kd.R_drewN | apply Kd.R_drew)); exact HO124.out) hb)
                    have n1_ := Aside0.mk (Kd.R_below (by (with_reducible repeat (first | apply Kd.R_alloc | apply Kd.R_drewN | apply Kd.R_drew)); exact HO132.out) hb)
                    have n2_ := Aside0.mk (blk_below (g := gb129) (o := .cells #[.int .i64 t125, .int .i64 t126, .int .i64 t127, .int .i64 t128] 23 (0, 0)) (by (with_reducible repeat (first | refine blk_drewN ?_ _ | refine blk_drew ?_ | refine blk_alloc ?_ _)); exact BK129.out) hb)
                    have n3_ := Aside0.mk (below_step (by repeat (first | (with_reducible first | exact HB.out | apply below_alloc | apply pw_below_drewN | apply below_drew1 | refine below_set ?_ GE129.out) | exact HB.out)) hb)
                    clear HO124
                    clear HO132
                    clear BK129
                    clear HB
                    have HO124 := n0_
                    have HO132 := n1_
                    have BK129 := n2_
                    have HB := n3_
                    clear n0_ n1_ n2_ n3_
                    (try clear hb)
                    (try clear hb2)
                    (try clear hk)
                    (try clear hi)
                    refine hK.out _ _ ⟨(blk_cell BK129.out 0).trans rfl, (blk_cell BK129.out 1).trans rfl, (blk_cell BK129.out 2).trans rfl, (blk_cell BK129.out 3).trans rfl⟩ (fun hHeld => ?_)
                    clear hK K
                    refine norm_ (a' := ?_) ?_ ?_
                    rotate_left
                    · show Act.put _ (some 8) _ = _
                      simp only [Act.put, List.setIfInBounds_toArray, List.set_cons_zero, List.set_cons_succ, i64_w, i32_w]
                      rfl
                    refine one_ (i := 3) (N := some 2) #[true, true, true, true, false] rfl rfl (by kernel_rfl) (by decide) (fun K hK => ?_)
                    refine box_step ?hg (N := 2) ?hd (cs := #[.int .i64 0, .int .i64 0, .int .i64 0, .int .i64 0]) (t := 23) ?hr ?_; (case hd => rfl); (case hg => rfl); (case hr => first | (go_simp; done) | (go_simp; rfl))
                    intro gb137 hg w33 hbox hb
                    have n0_ := Aside0.mk (Kd.R_below (by (with_reducible repeat (first | apply Kd.R_alloc | apply Kd.R_drewN | apply Kd.R_drew)); exact HO124.out) hb)
                    have n1_ := Aside0.mk (Kd.R_below (by (with_reducible repeat (first | apply Kd.R_alloc | apply Kd.R_drewN | apply Kd.R_drew)); exact HO132.out) hb)
                    have n2_ := Aside0.mk (blk_below (g := gb129) (o := .cells #[.int .i64 t125, .int .i64 t126, .int .i64 t127, .int .i64 t128] 23 (0, 0)) (by (with_reducible repeat (first | refine blk_drewN ?_ _ | refine blk_drew ?_ | refine blk_alloc ?_ _)); exact BK129.out) hb)
                    have n3_ := Aside0.mk (below_step (by repeat (first | (with_reducible first | exact HB.out | apply below_alloc | apply pw_below_drewN | apply below_drew1 | refine below_set ?_ GE129.out) | exact HB.out)) hb)
                    have n4_ := Aside0.mk (hbox)
                    have n5_ := Aside0.mk ((by rw [hg]; exact (below_size (by repeat (first | (with_reducible first | exact HB.out | apply below_alloc | apply pw_below_drewN | apply below_drew1 | refine below_set ?_ GE129.out) | exact HB.out))) : w.heap.size ≤ gb137))
                    have n6_ := Aside0.mk ((by rw [hg]; exact (below_size (by repeat (first | (with_reducible first | exact HB.out | apply below_alloc | apply pw_below_drewN | apply below_drew1 | refine below_set ?_ GE129.out) | exact HB.out))) : w.heap.size ≤ gb137))
                    have n7_ := Aside0.mk ((by rw [hg]; exact Nat.ne_of_lt (blk_lt (g := gb129) (o := .cells #[.int .i64 t125, .int .i64 t126, .int .i64 t127, .int .i64 t128] 23 (0, 0)) (by (with_reducible repeat (first | refine blk_drewN ?_ _ | refine blk_drew ?_ | refine blk_alloc ?_ _)); exact BK129.out)) : gb129 ≠ gb137))
                    have n8_ := Aside0.mk ((by rw [hg]; exact Nat.ne_of_gt (blk_lt (g := gb129) (o := .cells #[.int .i64 t125, .int .i64 t126, .int .i64 t127, .int .i64 t128] 23 (0, 0)) (by (with_reducible repeat (first | refine blk_drewN ?_ _ | refine blk_drew ?_ | refine blk_alloc ?_ _)); exact BK129.out)) : gb137 ≠ gb129))
                    clear HO124
                    clear HO132
                    clear BK129
                    clear HB
                    have HO124 := n0_
                    have HO132 := n1_
                    have BK129 := n2_
                    have HB := n3_
                    have BK137 := n4_
                    have GW137 := n5_
                    have GE137 := n6_
                    have NB129_137 := n7_
                    have NB137_129 := n8_
                    clear n0_ n1_ n2_ n3_ n4_ n5_ n6_ n7_ n8_
                    clear hb hbox hg
                    refine hK.out _ _ ⟨(blk_cell BK129.out 0).trans rfl, (blk_cell BK129.out 1).trans rfl, (blk_cell BK129.out 2).trans rfl, (blk_cell BK129.out 3).trans rfl⟩ (fun hHeld => ?_)
                    clear hK K
                    refine norm_ (a' := ?_) ?_ ?_
                    rotate_left
                    · show Act.put _ (some 2) _ = _
                      simp only [Act.put, List.setIfInBounds_toArray, List.set_cons_zero, List.set_cons_succ, i64_w, i32_w]
                      rfl
                    exact norm_ (by simp only [putAll, Act.put, List.setIfInBounds_toArray, List.set_cons_zero, List.set_cons_succ]) (hCont (.slice Ao31 t130.length co31, gb137) _ ⟨hHeld, (by (with_reducible repeat (first | apply Kd.R_alloc | apply Kd.R_drewN | apply Kd.R_drew)); exact Kd.R_mono HO124.out (fun _ hk => hk.2)), (by (with_reducible repeat (first | apply Kd.R_alloc | apply Kd.R_drewN | apply Kd.R_drew)); exact Kd.R_mono HO132.out (fun _ hk => hk.2)), (by (with_reducible repeat (first | refine blk_drewN ?_ _ | refine blk_drew ?_ | refine blk_alloc ?_ _)); exact BK129.out), (by (with_reducible repeat (first | refine blk_drewN ?_ _ | refine blk_drew ?_ | refine blk_alloc ?_ _)); exact BK137.out), GW137.out, GE137.out, NB129_137.out, NB137_129.out, (by repeat (first | (with_reducible first | exact HB.out | apply below_alloc | apply pw_below_drewN | apply below_drew1 | refine below_set ?_ GE129.out | refine below_set ?_ GE137.out) | exact HB.out))⟩)
                  · skip
                    refine box_step ?hg (N := 2) ?hd (cs := #[.int .i64 0, .int .i64 0, .int .i64 0, .int .i64 0]) (t := 23) ?hr ?_; (case hd => rfl); (case hg => rfl); (case hr => first | (go_simp; done) | (go_simp; rfl))
                    intro gb137 hg w31 hbox hb
                    have n0_ := Aside0.mk (Kd.R_below (by (with_reducible repeat (first | apply Kd.R_alloc | apply Kd.R_drewN | apply Kd.R_drew)); exact HO124.out) hb)
                    have n1_ := Aside0.mk (Kd.R_below (by (with_reducible repeat (first | apply Kd.R_alloc | apply Kd.R_drewN | apply Kd.R_drew)); exact HO132.out) hb)
                    have n2_ := Aside0.mk (blk_below (g := gb129) (o := .cells #[.int .i64 t125, .int .i64 t126, .int .i64 t127, .int .i64 t128] 23 (0, 0)) (by (with_reducible repeat (first | refine blk_drewN ?_ _ | refine blk_drew ?_ | refine blk_alloc ?_ _)); exact BK129.out) hb)
                    have n3_ := Aside0.mk (below_step (by repeat (first | (with_reducible first | exact HB.out | apply below_alloc | apply pw_below_drewN | apply below_drew1 | refine below_set ?_ GE129.out) | exact HB.out)) hb)
                    have n4_ := Aside0.mk (hbox)
                    have n5_ := Aside0.mk ((by rw [hg]; exact (below_size (by repeat (first | (with_reducible first | exact HB.out | apply below_alloc | apply pw_below_drewN | apply below_drew1 | refine below_set ?_ GE129.out) | exact HB.out))) : w.heap.size ≤ gb137))
                    have n6_ := Aside0.mk ((by rw [hg]; exact (below_size (by repeat (first | (with_reducible first | exact HB.out | apply below_alloc | apply pw_below_drewN | apply below_drew1 | refine below_set ?_ GE129.out) | exact HB.out))) : w.heap.size ≤ gb137))
                    have n7_ := Aside0.mk ((by rw [hg]; exact Nat.ne_of_lt (blk_lt (g := gb129) (o := .cells #[.int .i64 t125, .int .i64 t126, .int .i64 t127, .int .i64 t128] 23 (0, 0)) (by (with_reducible repeat (first | refine blk_drewN ?_ _ | refine blk_drew ?_ | refine blk_alloc ?_ _)); exact BK129.out)) : gb129 ≠ gb137))
                    have n8_ := Aside0.mk ((by rw [hg]; exact Nat.ne_of_gt (blk_lt (g := gb129) (o := .cells #[.int .i64 t125, .int .i64 t126, .int .i64 t127, .int .i64 t128] 23 (0, 0)) (by (with_reducible repeat (first | refine blk_drewN ?_ _ | refine blk_drew ?_ | refine blk_alloc ?_ _)); exact BK129.out)) : gb137 ≠ gb129))
                    clear HO124
                    clear HO132
                    clear BK129
                    clear HB
                    have HO124 := n0_
                    have HO132 := n1_
                    have BK129 := n2_
                    have HB := n3_
                    have BK137 := n4_
                    have GW137 := n5_
                    have GE137 := n6_
                    have NB129_137 := n7_
                    have NB137_129 := n8_
                    clear n0_ n1_ n2_ n3_ n4_ n5_ n6_ n7_ n8_
                    clear hb hbox hg
                    obtain ⟨Ao32, co32, eo32⟩ := Kd.R_slice HO132.out
                    (first | subst eo32 | (injection eo32 with f1_ f2_ f3_; have f4_ := f1_.symm; have f5_ := f3_.symm; clear f1_ f2_ f3_; subst f4_; subst f5_))
                    refine hK.out _ _ ⟨(blk_cell BK129.out 0).trans rfl, (blk_cell BK129.out 1).trans rfl, (blk_cell BK129.out 2).trans rfl, (blk_cell BK129.out 3).trans rfl⟩ (fun hHeld => ?_)
                    clear hK K
                    refine norm_ (a' := ?_) ?_ ?_
                    rotate_left
                    · show Act.put _ (some 2) _ = _
                      simp only [Act.put, List.setIfInBounds_toArray, List.set_cons_zero, List.set_cons_succ, i64_w, i32_w]
                      rfl
                    refine one_ (i := 2) (N := some 8) #[true, true, true, true, false] rfl rfl (by kernel_rfl) (by decide) (fun K hK => ?_)
                    refine goes_ Try.func17 (by kernel_rfl) rfl #[.agg #[.int .i64 t125, .int .i64 t126, .int .i64 t127, .int .i64 t128], .slice Ao32 t130.length co32] (by rfl) rfl rfl (by (try simp only [List.map_toArray, List.map_cons, List.map_nil]); first | done | rfl | (simp only [List.length_drop, List.length_take]; rfl)) ?_
                    with_reducible refine (count_Steps.calls k t125 t126 t127 t128 _ _ t130 t133 t134 t135 t136 _ ?side1 ?side2 A5.out).mono ?_
                    (case side1 => repeat (first | exact (Kd.R_reads' HO132.out).2.2 | (with_reducible refine Kd.C_alloc ?_ _) | (with_reducible refine Kd.C_drewN ?_ _) | (with_reducible refine Kd.C_drew ?_)))
                    (case side2 => exact (Kd.R_reads' HO132.out).2.1)
                    rintro e w33 ⟨rfl, hb⟩
                    refine ⟨_, rfl, ?_⟩
                    have n0_ := Aside0.mk (Kd.R_below (by (with_reducible repeat (first | apply Kd.R_alloc | apply Kd.R_drewN | apply Kd.R_drew)); exact HO124.out) hb)
                    have n1_ := Aside0.mk (Kd.R_below (by (with_reducible repeat (first | apply Kd.R_alloc | apply Kd.R_drewN | apply Kd.R_drew)); exact HO132.out) hb)
                    have n2_ := Aside0.mk (blk_below (g := gb129) (o := .cells #[.int .i64 t125, .int .i64 t126, .int .i64 t127, .int .i64 t128] 23 (0, 0)) (by (with_reducible repeat (first | refine blk_drewN ?_ _ | refine blk_drew ?_ | refine blk_alloc ?_ _)); exact BK129.out) hb)
                    have n3_ := Aside0.mk (blk_below (g := gb137) (o := .cells #[.int .i64 0, .int .i64 0, .int .i64 0, .int .i64 0] 23 (0, 0)) (by (with_reducible repeat (first | refine blk_drewN ?_ _ | refine blk_drew ?_ | refine blk_alloc ?_ _)); exact BK137.out) hb)
                    have n4_ := Aside0.mk (below_step (by repeat (first | (with_reducible first | exact HB.out | apply below_alloc | apply pw_below_drewN | apply below_drew1 | refine below_set ?_ GE129.out | refine below_set ?_ GE137.out) | exact HB.out)) hb)
                    clear HO124
                    clear HO132
                    clear BK129
                    clear BK137
                    clear HB
                    have HO124 := n0_
                    have HO132 := n1_
                    have BK129 := n2_
                    have BK137 := n3_
                    have HB := n4_
                    clear n0_ n1_ n2_ n3_ n4_
                    (try clear hb)
                    (try clear hb2)
                    (try clear hk)
                    (try clear hi)
                    refine hK.out _ _ ⟨(blk_cell BK129.out 0).trans rfl, (blk_cell BK129.out 1).trans rfl, (blk_cell BK129.out 2).trans rfl, (blk_cell BK129.out 3).trans rfl⟩ (fun hHeld => ?_)
                    clear hK K
                    refine norm_ (a' := ?_) ?_ ?_
                    rotate_left
                    · show Act.put _ (some 8) _ = _
                      simp only [Act.put, List.setIfInBounds_toArray, List.set_cons_zero, List.set_cons_succ, i64_w, i32_w]
                      rfl
                    exact norm_ (by simp only [putAll, Act.put, List.setIfInBounds_toArray, List.set_cons_zero, List.set_cons_succ]) (hCont (.slice Ao32 t130.length co32, gb137) _ ⟨hHeld, (by (with_reducible repeat (first | apply Kd.R_alloc | apply Kd.R_drewN | apply Kd.R_drew)); exact Kd.R_mono HO124.out (fun _ hk => hk.2)), (by (with_reducible repeat (first | apply Kd.R_alloc | apply Kd.R_drewN | apply Kd.R_drew)); exact Kd.R_mono HO132.out (fun _ hk => hk.2)), (by (with_reducible repeat (first | refine blk_drewN ?_ _ | refine blk_drew ?_ | refine blk_alloc ?_ _)); exact BK129.out), (by (with_reducible repeat (first | refine blk_drewN ?_ _ | refine blk_drew ?_ | refine blk_alloc ?_ _)); exact BK137.out), GW137.out, GE137.out, NB129_137.out, NB137_129.out, (by repeat (first | (with_reducible first | exact HB.out | apply below_alloc | apply pw_below_drewN | apply below_drew1 | refine below_set ?_ GE129.out | refine below_set ?_ GE137.out) | exact HB.out))⟩)
                · skip
                  refine box_step ?hg (N := 2) ?hd (cs := #[.int .i64 0, .int .i64 0, .int .i64 0, .int .i64 0]) (t := 23) ?hr ?_; (case hd => rfl); (case hg => rfl); (case hr => first | (go_simp; done) | (go_simp; rfl))
                  intro gb137 hg w30 hbox hb
                  have n0_ := Aside0.mk (Kd.R_below (by (with_reducible repeat (first | apply Kd.R_alloc | apply Kd.R_drewN | apply Kd.R_drew)); exact HO124.out) hb)
                  have n1_ := Aside0.mk (blk_below (g := gb129) (o := .cells #[.int .i64 t125, .int .i64 t126, .int .i64 t127, .int .i64 t128] 23 (0, 0)) (by (with_reducible repeat (first | refine blk_drewN ?_ _ | refine blk_drew ?_ | refine blk_alloc ?_ _)); exact BK129.out) hb)
                  have n2_ := Aside0.mk (below_step (by repeat (first | (with_reducible first | exact HB.out | apply below_alloc | apply pw_below_drewN | apply below_drew1 | refine below_set ?_ GE129.out) | exact HB.out)) hb)
                  have n3_ := Aside0.mk (hbox)
                  have n4_ := Aside0.mk ((by rw [hg]; exact (below_size (by repeat (first | (with_reducible first | exact HB.out | apply below_alloc | apply pw_below_drewN | apply below_drew1 | refine below_set ?_ GE129.out) | exact HB.out))) : w.heap.size ≤ gb137))
                  have n5_ := Aside0.mk ((by rw [hg]; exact (below_size (by repeat (first | (with_reducible first | exact HB.out | apply below_alloc | apply pw_below_drewN | apply below_drew1 | refine below_set ?_ GE129.out) | exact HB.out))) : w.heap.size ≤ gb137))
                  have n6_ := Aside0.mk ((by rw [hg]; exact Nat.ne_of_lt (blk_lt (g := gb129) (o := .cells #[.int .i64 t125, .int .i64 t126, .int .i64 t127, .int .i64 t128] 23 (0, 0)) (by (with_reducible repeat (first | refine blk_drewN ?_ _ | refine blk_drew ?_ | refine blk_alloc ?_ _)); exact BK129.out)) : gb129 ≠ gb137))
                  have n7_ := Aside0.mk ((by rw [hg]; exact Nat.ne_of_gt (blk_lt (g := gb129) (o := .cells #[.int .i64 t125, .int .i64 t126, .int .i64 t127, .int .i64 t128] 23 (0, 0)) (by (with_reducible repeat (first | refine blk_drewN ?_ _ | refine blk_drew ?_ | refine blk_alloc ?_ _)); exact BK129.out)) : gb137 ≠ gb129))
                  clear HO124
                  clear BK129
                  clear HB
                  have HO124 := n0_
                  have BK129 := n1_
                  have HB := n2_
                  have BK137 := n3_
                  have GW137 := n4_
                  have GE137 := n5_
                  have NB129_137 := n6_
                  have NB137_129 := n7_
                  clear n0_ n1_ n2_ n3_ n4_ n5_ n6_ n7_
                  clear hb hbox hg
                  refine hK.out _ _ ⟨(blk_cell BK129.out 0).trans rfl, (blk_cell BK129.out 1).trans rfl, (blk_cell BK129.out 2).trans rfl, (blk_cell BK129.out 3).trans rfl⟩ (fun hHeld => ?_)
                  clear hK K
                  refine norm_ (a' := ?_) ?_ ?_
                  rotate_left
                  · show Act.put _ (some 2) _ = _
                    simp only [Act.put, List.setIfInBounds_toArray, List.set_cons_zero, List.set_cons_succ, i64_w, i32_w]
                    rfl
                  refine one_ (i := 1) (N := some 7) #[true, true, false, true, false] rfl rfl (by kernel_rfl) (by decide) (fun K hK => ?_)
                  refine goes_ Try.func19 (by kernel_rfl) rfl #[.int .i64 6, .int .i64 127] (by rfl) rfl rfl (by (try simp only [List.map_toArray, List.map_cons, List.map_nil]); first | done | rfl | (simp only [List.length_drop, List.length_take]; rfl)) ?_
                  with_reducible refine (phaetonlaw08_times.calls k 6 127 t130 _ A4.out).mono ?_
                  rintro e w31 ⟨v131, rfl, ho0, hb⟩
                  refine ⟨_, rfl, ?_⟩
                  have n0_ := Aside0.mk (Kd.R_elder' (by (with_reducible repeat (first | apply Kd.R_alloc | apply Kd.R_drewN | apply Kd.R_drew)); exact HO124.out) (Kd.R_base ho0) hb)
                  have n1_ := Aside0.mk (Kd.R_lower (Kd.R_new' ho0 (Kd.R_lt (by (with_reducible repeat (first | apply Kd.R_alloc | apply Kd.R_drewN | apply Kd.R_drew)); exact HO124.out))) (below_size (by repeat (first | (with_reducible first | exact HB.out | apply below_alloc | apply pw_below_drewN | apply below_drew1 | refine below_set ?_ GE129.out | refine below_set ?_ GE137.out) | exact HB.out))))
                  have n2_ := Aside0.mk (blk_below (g := gb129) (o := .cells #[.int .i64 t125, .int .i64 t126, .int .i64 t127, .int .i64 t128] 23 (0, 0)) (by (with_reducible repeat (first | refine blk_drewN ?_ _ | refine blk_drew ?_ | refine blk_alloc ?_ _)); exact BK129.out) hb)
                  have n3_ := Aside0.mk (blk_below (g := gb137) (o := .cells #[.int .i64 0, .int .i64 0, .int .i64 0, .int .i64 0] 23 (0, 0)) (by (with_reducible repeat (first | refine blk_drewN ?_ _ | refine blk_drew ?_ | refine blk_alloc ?_ _)); exact BK137.out) hb)
                  have n4_ := Aside0.mk (below_step (by repeat (first | (with_reducible first | exact HB.out | apply below_alloc | apply pw_below_drewN | apply below_drew1 | refine below_set ?_ GE129.out | refine below_set ?_ GE137.out) | exact HB.out)) hb)
                  clear HO124
                  clear BK129
                  clear BK137
                  clear HB
                  have HO124 := n0_
                  have HO132 := n1_
                  have BK129 := n2_
                  have BK137 := n3_
                  have HB := n4_
                  clear n0_ n1_ n2_ n3_ n4_
                  (try clear hb)
                  (try clear hb2)
                  (try clear hk)
                  (try clear hi)
                  (try clear ho0)
                  obtain ⟨Ao32, co32, eo32⟩ := Kd.R_slice HO132.out
                  (first | subst eo32 | (injection eo32 with f1_ f2_ f3_; have f4_ := f1_.symm; have f5_ := f3_.symm; clear f1_ f2_ f3_; subst f4_; subst f5_))
                  refine hK.out _ _ ⟨(blk_cell BK129.out 0).trans rfl, (blk_cell BK129.out 1).trans rfl, (blk_cell BK129.out 2).trans rfl, (blk_cell BK129.out 3).trans rfl⟩ (fun hHeld => ?_)
                  clear hK K
                  refine norm_ (a' := ?_) ?_ ?_
                  rotate_left
                  · show Act.put _ (some 7) _ = _
                    simp only [Act.put, List.setIfInBounds_toArray, List.set_cons_zero, List.set_cons_succ, i64_w, i32_w]
                    rfl
                  refine one_ (i := 2) (N := some 8) #[true, true, true, true, false] rfl rfl (by kernel_rfl) (by decide) (fun K hK => ?_)
                  refine goes_ Try.func17 (by kernel_rfl) rfl #[.agg #[.int .i64 t125, .int .i64 t126, .int .i64 t127, .int .i64 t128], .slice Ao32 t130.length co32] (by rfl) rfl rfl (by (try simp only [List.map_toArray, List.map_cons, List.map_nil]); first | done | rfl | (simp only [List.length_drop, List.length_take]; rfl)) ?_
                  with_reducible refine (count_Steps.calls k t125 t126 t127 t128 _ _ t130 t133 t134 t135 t136 _ ?side1 ?side2 A5.out).mono ?_
                  (case side1 => repeat (first | exact (Kd.R_reads' HO132.out).2.2 | (with_reducible refine Kd.C_alloc ?_ _) | (with_reducible refine Kd.C_drewN ?_ _) | (with_reducible refine Kd.C_drew ?_)))
                  (case side2 => exact (Kd.R_reads' HO132.out).2.1)
                  rintro e w33 ⟨rfl, hb⟩
                  refine ⟨_, rfl, ?_⟩
                  have n0_ := Aside0.mk (Kd.R_below (by (with_reducible repeat (first | apply Kd.R_alloc | apply Kd.R_drewN | apply Kd.R_drew)); exact HO124.out) hb)
                  have n1_ := Aside0.mk (Kd.R_below (by (with_reducible repeat (first | apply Kd.R_alloc | apply Kd.R_drewN | apply Kd.R_drew)); exact HO132.out) hb)
                  have n2_ := Aside0.mk (blk_below (g := gb129) (o := .cells #[.int .i64 t125, .int .i64 t126, .int .i64 t127, .int .i64 t128] 23 (0, 0)) (by (with_reducible repeat (first | refine blk_drewN ?_ _ | refine blk_drew ?_ | refine blk_alloc ?_ _)); exact BK129.out) hb)
                  have n3_ := Aside0.mk (blk_below (g := gb137) (o := .cells #[.int .i64 0, .int .i64 0, .int .i64 0, .int .i64 0] 23 (0, 0)) (by (with_reducible repeat (first | refine blk_drewN ?_ _ | refine blk_drew ?_ | refine blk_alloc ?_ _)); exact BK137.out) hb)
                  have n4_ := Aside0.mk (below_step (by repeat (first | (with_reducible first | exact HB.out | apply below_alloc | apply pw_below_drewN | apply below_drew1 | refine below_set ?_ GE129.out | refine below_set ?_ GE137.out) | exact HB.out)) hb)
                  clear HO124
                  clear HO132
                  clear BK129
                  clear BK137
                  clear HB
                  have HO124 := n0_
                  have HO132 := n1_
                  have BK129 := n2_
                  have BK137 := n3_
                  have HB := n4_
                  clear n0_ n1_ n2_ n3_ n4_
                  (try clear hb)
                  (try clear hb2)
                  (try clear hk)
                  (try clear hi)
                  refine hK.out _ _ ⟨(blk_cell BK129.out 0).trans rfl, (blk_cell BK129.out 1).trans rfl, (blk_cell BK129.out 2).trans rfl, (blk_cell BK129.out 3).trans rfl⟩ (fun hHeld => ?_)
                  clear hK K
                  refine norm_ (a' := ?_) ?_ ?_
                  rotate_left
                  · show Act.put _ (some 8) _ = _
                    simp only [Act.put, List.setIfInBounds_toArray, List.set_cons_zero, List.set_cons_succ, i64_w, i32_w]
                    rfl
                  exact norm_ (by simp only [putAll, Act.put, List.setIfInBounds_toArray, List.set_cons_zero, List.set_cons_succ]) (hCont (.slice Ao32 t130.length co32, gb137) _ ⟨hHeld, (by (with_reducible repeat (first | apply Kd.R_alloc | apply Kd.R_drewN | apply Kd.R_drew)); exact Kd.R_mono HO124.out (fun _ hk => hk.2)), (by (with_reducible repeat (first | apply Kd.R_alloc | apply Kd.R_drewN | apply Kd.R_drew)); exact Kd.R_mono HO132.out (fun _ hk => hk.2)), (by (with_reducible repeat (first | refine blk_drewN ?_ _ | refine blk_drew ?_ | refine blk_alloc ?_ _)); exact BK129.out), (by (with_reducible repeat (first | refine blk_drewN ?_ _ | refine blk_drew ?_ | refine blk_alloc ?_ _)); exact BK137.out), GW137.out, GE137.out, NB129_137.out, NB137_129.out, (by repeat (first | (with_reducible first | exact HB.out | apply below_alloc | apply pw_below_drewN | apply below_drew1 | refine below_set ?_ GE129.out | refine below_set ?_ GE137.out) | exact HB.out))⟩)
              rintro ⟨v131, gb137⟩ w34 ⟨hS_, h0_, h1_, h2_, h3_, h4_, h5_, h6_, h7_, h8_⟩
              have n0_ : Aside0 (Kd.R (Kd.int .i64) 3 w34 w.heap.size (fun k_ => some k_ ≠ (v131 : Value).ownBlock) (.slice Ao24 t122.length co24) t122) := ⟨h0_⟩
              have n1_ : Aside0 (Kd.R (Kd.int .i64) 3 w34 w.heap.size (fun k_ => some k_ ≠ (.slice Ao24 t122.length co24 : Value).ownBlock) v131 t130) := ⟨h1_⟩
              have n2_ : Aside0 (w34.heap[gb129]? = some (.cells #[.int .i64 t125, .int .i64 t126, .int .i64 t127, .int .i64 t128] 23 (0, 0))) := ⟨h2_⟩
              have n3_ : Aside0 (w34.heap[gb137]? = some (.cells #[.int .i64 0, .int .i64 0, .int .i64 0, .int .i64 0] 23 (0, 0))) := ⟨h3_⟩
              have n4_ : Aside0 (w.heap.size ≤ gb137) := ⟨h4_⟩
              have n5_ : Aside0 (w.heap.size ≤ gb137) := ⟨h5_⟩
              have n6_ : Aside0 (gb129 ≠ gb137) := ⟨h6_⟩
              have n7_ : Aside0 (gb137 ≠ gb129) := ⟨h7_⟩
              have n8_ : Aside0 (Below w.heap.size w w34) := ⟨h8_⟩
              clear HO124
              clear BK129
              clear HB
              clear h0_ h1_ h2_ h3_ h4_ h5_ h6_ h7_ h8_
              have HO124 := n0_
              have HO132 := n1_
              have BK129 := n2_
              have BK137 := n3_
              have GW137 := n4_
              have GE137 := n5_
              have NB129_137 := n6_
              have NB137_129 := n7_
              have HB := n8_
              clear n0_ n1_ n2_ n3_ n4_ n5_ n6_ n7_ n8_
              have hHeld : w34.cell? ⟨gb129, 0, none⟩ = some (.int .i64 t125) ∧ w34.cell? ⟨gb129, 1, none⟩ = some (.int .i64 t126) ∧ w34.cell? ⟨gb129, 2, none⟩ = some (.int .i64 t127) ∧ w34.cell? ⟨gb129, 3, none⟩ = some (.int .i64 t128) := hS_
              refine norm_ (a' := ?_) ?_ ?_
              rotate_left
              · simp only [putAll, Act.put, List.setIfInBounds_toArray, List.set_cons_zero, List.set_cons_succ]
                rfl
              refine one_ (i := 4) (N := none) #[true, true, true, true, true] rfl rfl (by kernel_rfl) (by decide) (fun K hK => ?_)
              have hs35 : w34.cell? ⟨gb137, 0, none⟩ = some (.int .i64 0) := (blk_cell BK137.out 0).trans rfl
              have hfs35 := blk_frozen BK137.out 0
              have hns35_0 := NB129_137.out
              have hms35_0 := NB137_129.out
              have hs36 : w34.cell? ⟨gb137, 1, none⟩ = some (.int .i64 0) := (blk_cell BK137.out 1).trans rfl
              have hfs36 := blk_frozen BK137.out 1
              have hns36_0 := NB129_137.out
              have hms36_0 := NB137_129.out
              have hs37 : w34.cell? ⟨gb137, 2, none⟩ = some (.int .i64 0) := (blk_cell BK137.out 2).trans rfl
              have hfs37 := blk_frozen BK137.out 2
              have hns37_0 := NB129_137.out
              have hms37_0 := NB137_129.out
              have hs38 : w34.cell? ⟨gb137, 3, none⟩ = some (.int .i64 0) := (blk_cell BK137.out 3).trans rfl
              have hfs38 := blk_frozen BK137.out 3
              have hns38_0 := NB129_137.out
              have hms38_0 := NB137_129.out
              refine skip_ (w1 := ?_) (by rfl) rfl ?_ ?_
              rotate_left
              · go_simp
                rfl
              refine hK.out _ _ ⟨((cell_far (p := ⟨gb137, _, none⟩) NB129_137.out _).trans (((cell_far (p := ⟨gb137, _, none⟩) NB129_137.out _).trans (((cell_far (p := ⟨gb137, _, none⟩) NB129_137.out _).trans (((cell_far (p := ⟨gb137, _, none⟩) NB129_137.out _).trans (hHeld.1)))))))), ((cell_far (p := ⟨gb137, _, none⟩) NB129_137.out _).trans (((cell_far (p := ⟨gb137, _, none⟩) NB129_137.out _).trans (((cell_far (p := ⟨gb137, _, none⟩) NB129_137.out _).trans (((cell_far (p := ⟨gb137, _, none⟩) NB129_137.out _).trans (hHeld.2.1)))))))), ((cell_far (p := ⟨gb137, _, none⟩) NB129_137.out _).trans (((cell_far (p := ⟨gb137, _, none⟩) NB129_137.out _).trans (((cell_far (p := ⟨gb137, _, none⟩) NB129_137.out _).trans (((cell_far (p := ⟨gb137, _, none⟩) NB129_137.out _).trans (hHeld.2.2.1)))))))), ((cell_far (p := ⟨gb137, _, none⟩) NB129_137.out _).trans (((cell_far (p := ⟨gb137, _, none⟩) NB129_137.out _).trans (((cell_far (p := ⟨gb137, _, none⟩) NB129_137.out _).trans (((cell_far (p := ⟨gb137, _, none⟩) NB129_137.out _).trans (hHeld.2.2.2))))))))⟩ (fun hHeld => ?_)
              clear hK K
              refine done_ (by kernel_rfl) ?_
              try go_wp2_with (first | (go_at_call 13; (with_reducible refine Go.Proofs.YtlbhokkifdjlaaaOwn.gate_args (#[] : Array Value) rfl ?_); (with_reducible refine (count_New.calls  t138 t139 t140 t141 _ A6.out).mono ?_); (try clear A6); rintro e w39 ⟨rfl, hb⟩; have n0_ := Aside0.mk (Kd.R_below (by (with_reducible repeat (first | apply Kd.R_alloc | apply Kd.R_drewN | apply Kd.R_drew)); exact (Kd.R_mono (Kd.R_far (p := ⟨gb137, 3, none⟩) (Kd.R_far (p := ⟨gb137, 2, none⟩) (Kd.R_far (p := ⟨gb137, 1, none⟩) (Kd.R_far (p := ⟨gb137, 0, none⟩) (Kd.R_types HO124.out BK137.out (by decide)) (fun _ hk => hk.2) (.int .i64 t133)) (fun _ hk => hk.2) (.int .i64 t134)) (fun _ hk => hk.2) (.int .i64 t135)) (fun _ hk => hk.2) (.int .i64 t136)) (fun _ h_ => h_.1))) hb); have n1_ := Aside0.mk (Kd.R_below (by (with_reducible repeat (first | apply Kd.R_alloc | apply Kd.R_drewN | apply Kd.R_drew)); exact (Kd.R_mono (Kd.R_far (p := ⟨gb137, 3, none⟩) (Kd.R_far (p := ⟨gb137, 2, none⟩) (Kd.R_far (p := ⟨gb137, 1, none⟩) (Kd.R_far (p := ⟨gb137, 0, none⟩) (Kd.R_types HO132.out BK137.out (by decide)) (fun _ hk => hk.2) (.int .i64 t133)) (fun _ hk => hk.2) (.int .i64 t134)) (fun _ hk => hk.2) (.int .i64 t135)) (fun _ hk => hk.2) (.int .i64 t136)) (fun _ h_ => h_.1))) hb); have n2_ := Aside0.mk (blk_below (g := gb129) (o := .cells #[.int .i64 t125, .int .i64 t126, .int .i64 t127, .int .i64 t128] 23 (0, 0)) (by (with_reducible repeat (first | refine blk_drewN ?_ _ | refine blk_drew ?_ | refine blk_alloc ?_ _)); refine blk_far ?_ NB129_137.out _; (with_reducible repeat (first | refine blk_drewN ?_ _ | refine blk_drew ?_ | refine blk_alloc ?_ _)); refine blk_far ?_ NB129_137.out _; (with_reducible repeat (first | refine blk_drewN ?_ _ | refine blk_drew ?_ | refine blk_alloc ?_ _)); refine blk_far ?_ NB129_137.out _; (with_reducible repeat (first | refine blk_drewN ?_ _ | refine blk_drew ?_ | refine blk_alloc ?_ _)); refine blk_far ?_ NB129_137.out _; (with_reducible repeat (first | refine blk_drewN ?_ _ | refine blk_drew ?_ | refine blk_alloc ?_ _)); exact BK129.out) hb); have n3_ := Aside0.mk (blk_below (g := gb137) (o := .cells #[.int .i64 t133, .int .i64 t134, .int .i64 t135, .int .i64 t136] 23 (0, 0)) (by (with_reducible repeat (first | refine blk_drewN ?_ _ | refine blk_drew ?_ | refine blk_alloc ?_ _)); refine blk_put (cs := #[.int .i64 t133, .int .i64 t134, .int .i64 t135, .int .i64 0]) ?_ 3 _ rfl; (with_reducible repeat (first | refine blk_drewN ?_ _ | refine blk_drew ?_ | refine blk_alloc ?_ _)); refine blk_put (cs := #[.int .i64 t133, .int .i64 t134, .int .i64 0, .int .i64 0]) ?_ 2 _ rfl; (with_reducible repeat (first | refine blk_drewN ?_ _ | refine blk_drew ?_ | refine blk_alloc ?_ _)); refine blk_put (cs := #[.int .i64 t133, .int .i64 0, .int .i64 0, .int .i64 0]) ?_ 1 _ rfl; (with_reducible repeat (first | refine blk_drewN ?_ _ | refine blk_drew ?_ | refine blk_alloc ?_ _)); refine blk_put (cs := #[.int .i64 0, .int .i64 0, .int .i64 0, .int .i64 0]) ?_ 0 _ rfl; (with_reducible repeat (first | refine blk_drewN ?_ _ | refine blk_drew ?_ | refine blk_alloc ?_ _)); exact BK137.out) hb); have n4_ := Aside0.mk (below_step (by repeat (first | (with_reducible first | exact HB.out | apply below_alloc | apply pw_below_drewN | apply below_drew1 | refine below_set ?_ GE129.out | refine below_set ?_ GE137.out) | exact HB.out)) hb); clear HO124; clear HO132; clear BK129; clear BK137; clear HB; have HO124 := n0_; have HO132 := n1_; have BK129 := n2_; have BK137 := n3_; have HB := n4_; clear n0_ n1_ n2_ n3_ n4_; (try clear hb); (try clear hb2); (try clear hk); (try clear hi)) | (go_at_call 11; (with_reducible refine Go.Proofs.YtlbhokkifdjlaaaOwn.gate_args (#[.agg #[.int .i64 t138, .int .i64 t139, .int .i64 t140, .int .i64 t141]] : Array Value) rfl ?_); (with_reducible refine (count_Right.calls t138 t139 t140 t141 true _ A7.out).mono ?_); (try clear A7); rintro e w40 ⟨rfl, hb⟩; have n0_ := Aside0.mk (Kd.R_below (by (with_reducible repeat (first | apply Kd.R_alloc | apply Kd.R_drewN | apply Kd.R_drew)); exact HO124.out) hb); have n1_ := Aside0.mk (Kd.R_below (by (with_reducible repeat (first | apply Kd.R_alloc | apply Kd.R_drewN | apply Kd.R_drew)); exact HO132.out) hb); have n2_ := Aside0.mk (blk_below (g := gb129) (o := .cells #[.int .i64 t125, .int .i64 t126, .int .i64 t127, .int .i64 t128] 23 (0, 0)) (by (with_reducible repeat (first | refine blk_drewN ?_ _ | refine blk_drew ?_ | refine blk_alloc ?_ _)); exact BK129.out) hb); have n3_ := Aside0.mk (blk_below (g := gb137) (o := .cells #[.int .i64 t133, .int .i64 t134, .int .i64 t135, .int .i64 t136] 23 (0, 0)) (by (with_reducible repeat (first | refine blk_drewN ?_ _ | refine blk_drew ?_ | refine blk_alloc ?_ _)); exact BK137.out) hb); have n4_ := Aside0.mk (below_step (by repeat (first | (with_reducible first | exact HB.out | apply below_alloc | apply pw_below_drewN | apply below_drew1 | refine below_set ?_ GE129.out | refine below_set ?_ GE137.out) | exact HB.out)) hb); clear HO124; clear HO132; clear BK129; clear BK137; clear HB; have HO124 := n0_; have HO132 := n1_; have BK129 := n2_; have BK137 := n3_; have HB := n4_; clear n0_ n1_ n2_ n3_ n4_; (try clear hb); (try clear hb2); (try clear hk); (try clear hi); have hnb41 := NB129_137.out; have hnc41 := NB137_129.out; have hcz42_0 : w40.cell? ⟨gb129, 0, none⟩ = some (.int .i64 t125) := (blk_cell BK129.out 0).trans rfl; have hcz42_1 : w40.cell? ⟨gb129, 1, none⟩ = some (.int .i64 t126) := (blk_cell BK129.out 1).trans rfl; have hcz42_2 : w40.cell? ⟨gb129, 2, none⟩ = some (.int .i64 t127) := (blk_cell BK129.out 2).trans rfl; have hcz42_3 : w40.cell? ⟨gb129, 3, none⟩ = some (.int .i64 t128) := (blk_cell BK129.out 3).trans rfl; have hfz42_0 := blk_frozen BK129.out 0; have hfz42_1 := blk_frozen BK129.out 1; have hfz42_2 := blk_frozen BK129.out 2; have hfz42_3 := blk_frozen BK129.out 3; have hcz43_0 : w40.cell? ⟨gb137, 0, none⟩ = some (.int .i64 t133) := (blk_cell BK137.out 0).trans rfl; have hcz43_1 : w40.cell? ⟨gb137, 1, none⟩ = some (.int .i64 t134) := (blk_cell BK137.out 1).trans rfl; have hcz43_2 : w40.cell? ⟨gb137, 2, none⟩ = some (.int .i64 t135) := (blk_cell BK137.out 2).trans rfl; have hcz43_3 : w40.cell? ⟨gb137, 3, none⟩ = some (.int .i64 t136) := (blk_cell BK137.out 3).trans rfl; have hfz43_0 := blk_frozen BK137.out 0; have hfz43_1 := blk_frozen BK137.out 1; have hfz43_2 := blk_frozen BK137.out 2; have hfz43_3 := blk_frozen BK137.out 3) | (go_at_call 15; (with_reducible refine Go.Proofs.YtlbhokkifdjlaaaOwn.gate_args (#[.agg #[.int .i64 t133, .int .i64 t134, .int .i64 t135, .int .i64 t136], .int .i64 6] : Array Value) rfl ?_); (with_reducible refine (count_Step.calls t133 t134 t135 t136 6 t143 t144 t145 t146 _ A11.out).mono ?_); (try clear A11); rintro e w44 ⟨rfl, hb⟩; have n0_ := Aside0.mk (Kd.R_below (by (with_reducible repeat (first | apply Kd.R_alloc | apply Kd.R_drewN | apply Kd.R_drew)); exact HO124.out) hb); have n1_ := Aside0.mk (Kd.R_below (by (with_reducible repeat (first | apply Kd.R_alloc | apply Kd.R_drewN | apply Kd.R_drew)); exact HO132.out) hb); have n2_ := Aside0.mk (blk_below (g := gb129) (o := .cells #[.int .i64 t125, .int .i64 t126, .int .i64 t127, .int .i64 t128] 23 (0, 0)) (by (with_reducible repeat (first | refine blk_drewN ?_ _ | refine blk_drew ?_ | refine blk_alloc ?_ _)); exact BK129.out) hb); have n3_ := Aside0.mk (blk_below (g := gb137) (o := .cells #[.int .i64 t133, .int .i64 t134, .int .i64 t135, .int .i64 t136] 23 (0, 0)) (by (with_reducible repeat (first | refine blk_drewN ?_ _ | refine blk_drew ?_ | refine blk_alloc ?_ _)); exact BK137.out) hb); have n4_ := Aside0.mk (below_step (by repeat (first | (with_reducible first | exact HB.out | apply below_alloc | apply pw_below_drewN | apply below_drew1 | refine below_set ?_ GE129.out | refine below_set ?_ GE137.out) | exact HB.out)) hb); clear HO124; clear HO132; clear BK129; clear BK137; clear HB; have HO124 := n0_; have HO132 := n1_; have BK129 := n2_; have BK137 := n3_; have HB := n4_; clear n0_ n1_ n2_ n3_ n4_; (try clear hb); (try clear hb2); (try clear hk); (try clear hi)) | (go_at_call 13; (with_reducible refine Go.Proofs.YtlbhokkifdjlaaaOwn.gate_args (#[] : Array Value) rfl ?_); (with_reducible refine (count_New.calls  t147 t148 t149 t150 _ A12.out).mono ?_); (try clear A12); rintro e w45 ⟨rfl, hb⟩; have n0_ := Aside0.mk (Kd.R_below (by (with_reducible repeat (first | apply Kd.R_alloc | apply Kd.R_drewN | apply Kd.R_drew)); exact HO124.out) hb); have n1_ := Aside0.mk (Kd.R_below (by (with_reducible repeat (first | apply Kd.R_alloc | apply Kd.R_drewN | apply Kd.R_drew)); exact HO132.out) hb); have n2_ := Aside0.mk (blk_below (g := gb129) (o := .cells #[.int .i64 t125, .int .i64 t126, .int .i64 t127, .int .i64 t128] 23 (0, 0)) (by (with_reducible repeat (first | refine blk_drewN ?_ _ | refine blk_drew ?_ | refine blk_alloc ?_ _)); exact BK129.out) hb); have n3_ := Aside0.mk (blk_below (g := gb137) (o := .cells #[.int .i64 t133, .int .i64 t134, .int .i64 t135, .int .i64 t136] 23 (0, 0)) (by (with_reducible repeat (first | refine blk_drewN ?_ _ | refine blk_drew ?_ | refine blk_alloc ?_ _)); exact BK137.out) hb); have n4_ := Aside0.mk (below_step (by repeat (first | (with_reducible first | exact HB.out | apply below_alloc | apply pw_below_drewN | apply below_drew1 | refine below_set ?_ GE129.out | refine below_set ?_ GE137.out) | exact HB.out)) hb); clear HO124; clear HO132; clear BK129; clear BK137; clear HB; have HO124 := n0_; have HO132 := n1_; have BK129 := n2_; have BK137 := n3_; have HB := n4_; clear n0_ n1_ n2_ n3_ n4_; (try clear hb); (try clear hb2); (try clear hk); (try clear hi)) | (go_at_call 13; (with_reducible refine Go.Proofs.YtlbhokkifdjlaaaOwn.gate_args (#[] : Array Value) rfl ?_); (with_reducible refine (count_New.calls  t151 t152 t153 t154 _ A14.out).mono ?_); (try clear A14); rintro e w46 ⟨rfl, hb⟩; have n0_ := Aside0.mk (Kd.R_below (by (with_reducible repeat (first | apply Kd.R_alloc | apply Kd.R_drewN | apply Kd.R_drew)); exact HO124.out) hb); have n1_ := Aside0.mk (Kd.R_below (by (with_reducible repeat (first | apply Kd.R_alloc | apply Kd.R_drewN | apply Kd.R_drew)); exact HO132.out) hb); have n2_ := Aside0.mk (blk_below (g := gb129) (o := .cells #[.int .i64 t125, .int .i64 t126, .int .i64 t127, .int .i64 t128] 23 (0, 0)) (by (with_reducible repeat (first | refine blk_drewN ?_ _ | refine blk_drew ?_ | refine blk_alloc ?_ _)); exact BK129.out) hb); have n3_ := Aside0.mk (blk_below (g := gb137) (o := .cells #[.int .i64 t133, .int .i64 t134, .int .i64 t135, .int .i64 t136] 23 (0, 0)) (by (with_reducible repeat (first | refine blk_drewN ?_ _ | refine blk_drew ?_ | refine blk_alloc ?_ _)); exact BK137.out) hb); have n4_ := Aside0.mk (below_step (by repeat (first | (with_reducible first | exact HB.out | apply below_alloc | apply pw_below_drewN | apply below_drew1 | refine below_set ?_ GE129.out | refine below_set ?_ GE137.out) | exact HB.out)) hb); clear HO124; clear HO132; clear BK129; clear BK137; clear HB; have HO124 := n0_; have HO132 := n1_; have BK129 := n2_; have BK137 := n3_; have HB := n4_; clear n0_ n1_ n2_ n3_ n4_; (try clear hb); (try clear hb2); (try clear hk); (try clear hi)) | (go_at_call 15; (with_reducible refine Go.Proofs.YtlbhokkifdjlaaaOwn.gate_args (#[.agg #[.int .i64 t151, .int .i64 t152, .int .i64 t153, .int .i64 t154], .int .i64 5] : Array Value) rfl ?_); (with_reducible refine (count_Step.calls t151 t152 t153 t154 5 t155 t156 t157 t158 _ A15.out).mono ?_); (try clear A15); rintro e w47 ⟨rfl, hb⟩; have n0_ := Aside0.mk (Kd.R_below (by (with_reducible repeat (first | apply Kd.R_alloc | apply Kd.R_drewN | apply Kd.R_drew)); exact HO124.out) hb); have n1_ := Aside0.mk (Kd.R_below (by (with_reducible repeat (first | apply Kd.R_alloc | apply Kd.R_drewN | apply Kd.R_drew)); exact HO132.out) hb); have n2_ := Aside0.mk (blk_below (g := gb129) (o := .cells #[.int .i64 t125, .int .i64 t126, .int .i64 t127, .int .i64 t128] 23 (0, 0)) (by (with_reducible repeat (first | refine blk_drewN ?_ _ | refine blk_drew ?_ | refine blk_alloc ?_ _)); exact BK129.out) hb); have n3_ := Aside0.mk (blk_below (g := gb137) (o := .cells #[.int .i64 t133, .int .i64 t134, .int .i64 t135, .int .i64 t136] 23 (0, 0)) (by (with_reducible repeat (first | refine blk_drewN ?_ _ | refine blk_drew ?_ | refine blk_alloc ?_ _)); exact BK137.out) hb); have n4_ := Aside0.mk (below_step (by repeat (first | (with_reducible first | exact HB.out | apply below_alloc | apply pw_below_drewN | apply below_drew1 | refine below_set ?_ GE129.out | refine below_set ?_ GE137.out) | exact HB.out)) hb); clear HO124; clear HO132; clear BK129; clear BK137; clear HB; have HO124 := n0_; have HO132 := n1_; have BK129 := n2_; have BK137 := n3_; have HB := n4_; clear n0_ n1_ n2_ n3_ n4_; (try clear hb); (try clear hb2); (try clear hk); (try clear hi)) | (go_at_call 13; (with_reducible refine Go.Proofs.YtlbhokkifdjlaaaOwn.gate_args (#[] : Array Value) rfl ?_); (with_reducible refine (count_New.calls  t159 t160 t161 t162 _ A17.out).mono ?_); (try clear A17); rintro e w48 ⟨rfl, hb⟩; have n0_ := Aside0.mk (Kd.R_below (by (with_reducible repeat (first | apply Kd.R_alloc | apply Kd.R_drewN | apply Kd.R_drew)); exact HO124.out) hb); have n1_ := Aside0.mk (Kd.R_below (by (with_reducible repeat (first | apply Kd.R_alloc | apply Kd.R_drewN | apply Kd.R_drew)); exact HO132.out) hb); have n2_ := Aside0.mk (blk_below (g := gb129) (o := .cells #[.int .i64 t125, .int .i64 t126, .int .i64 t127, .int .i64 t128] 23 (0, 0)) (by (with_reducible repeat (first | refine blk_drewN ?_ _ | refine blk_drew ?_ | refine blk_alloc ?_ _)); exact BK129.out) hb); have n3_ := Aside0.mk (blk_below (g := gb137) (o := .cells #[.int .i64 t133, .int .i64 t134, .int .i64 t135, .int .i64 t136] 23 (0, 0)) (by (with_reducible repeat (first | refine blk_drewN ?_ _ | refine blk_drew ?_ | refine blk_alloc ?_ _)); exact BK137.out) hb); have n4_ := Aside0.mk (below_step (by repeat (first | (with_reducible first | exact HB.out | apply below_alloc | apply pw_below_drewN | apply below_drew1 | refine below_set ?_ GE129.out | refine below_set ?_ GE137.out) | exact HB.out)) hb); clear HO124; clear HO132; clear BK129; clear BK137; clear HB; have HO124 := n0_; have HO132 := n1_; have BK129 := n2_; have BK137 := n3_; have HB := n4_; clear n0_ n1_ n2_ n3_ n4_; (try clear hb); (try clear hb2); (try clear hk); (try clear hi)) | (go_at_call 19; (with_reducible refine Go.Proofs.YtlbhokkifdjlaaaOwn.gate_args (#[.int .i64 3, .int .i64 16] : Array Value) rfl ?_); (with_reducible refine (phaetonlaw08_times.calls k 3 16 t163 _ A18.out).mono ?_); (try clear A18); rintro e w49 ⟨v164, rfl, ho0, hb⟩; have n0_ := Aside0.mk (Kd.R_elder' (by (with_reducible repeat (first | apply Kd.R_alloc | apply Kd.R_drewN | apply Kd.R_drew)); exact HO124.out) (Kd.R_base ho0) hb); have n1_ := Aside0.mk (Kd.R_elder' (by (with_reducible repeat (first | apply Kd.R_alloc | apply Kd.R_drewN | apply Kd.R_drew)); exact HO132.out) (Kd.R_base ho0) hb); have n2_ := Aside0.mk (Kd.R_lower (Kd.R_new' (Kd.R_new' ho0 (Kd.R_lt (by (with_reducible repeat (first | apply Kd.R_alloc | apply Kd.R_drewN | apply Kd.R_drew)); exact HO124.out))) (Kd.R_lt (by (with_reducible repeat (first | apply Kd.R_alloc | apply Kd.R_drewN | apply Kd.R_drew)); exact HO132.out))) (below_size (by repeat (first | (with_reducible first | exact HB.out | apply below_alloc | apply pw_below_drewN | apply below_drew1 | refine below_set ?_ GE129.out | refine below_set ?_ GE137.out) | exact HB.out)))); have n3_ := Aside0.mk (blk_below (g := gb129) (o := .cells #[.int .i64 t125, .int .i64 t126, .int .i64 t127, .int .i64 t128] 23 (0, 0)) (by (with_reducible repeat (first | refine blk_drewN ?_ _ | refine blk_drew ?_ | refine blk_alloc ?_ _)); exact BK129.out) hb); have n4_ := Aside0.mk (blk_below (g := gb137) (o := .cells #[.int .i64 t133, .int .i64 t134, .int .i64 t135, .int .i64 t136] 23 (0, 0)) (by (with_reducible repeat (first | refine blk_drewN ?_ _ | refine blk_drew ?_ | refine blk_alloc ?_ _)); exact BK137.out) hb); have n5_ := Aside0.mk (below_step (by repeat (first | (with_reducible first | exact HB.out | apply below_alloc | apply pw_below_drewN | apply below_drew1 | refine below_set ?_ GE129.out | refine below_set ?_ GE137.out) | exact HB.out)) hb); clear HO124; clear HO132; clear BK129; clear BK137; clear HB; have HO124 := n0_; have HO132 := n1_; have HO165 := n2_; have BK129 := n3_; have BK137 := n4_; have HB := n5_; clear n0_ n1_ n2_ n3_ n4_ n5_; (try clear hb); (try clear hb2); (try clear hk); (try clear hi); (try clear ho0); obtain ⟨Ao50, co50, eo50⟩ := Kd.R_slice HO165.out; subst eo50) | (go_at_call 17; (with_reducible refine Go.Proofs.YtlbhokkifdjlaaaOwn.gate_args (#[.agg #[.int .i64 t159, .int .i64 t160, .int .i64 t161, .int .i64 t162], _] : Array Value) rfl ?_); (with_reducible refine (count_Steps.calls k t159 t160 t161 t162 _ _ t163 t166 t167 t168 t169 _ ?side1 ?side2 A19.out).mono ?_); (case side1 => repeat (first | exact (Kd.R_reads' HO165.out).2.2 | (with_reducible refine Kd.C_alloc ?_ _) | (with_reducible refine Kd.C_drewN ?_ _) | (with_reducible refine Kd.C_drew ?_))); (case side2 => exact (Kd.R_reads' HO165.out).2.1); rintro e w51 ⟨rfl, hb⟩; have n0_ := Aside0.mk (Kd.R_below (by (with_reducible repeat (first | apply Kd.R_alloc | apply Kd.R_drewN | apply Kd.R_drew)); exact HO124.out) hb); have n1_ := Aside0.mk (Kd.R_below (by (with_reducible repeat (first | apply Kd.R_alloc | apply Kd.R_drewN | apply Kd.R_drew)); exact HO132.out) hb); have n2_ := Aside0.mk (Kd.R_below (by (with_reducible repeat (first | apply Kd.R_alloc | apply Kd.R_drewN | apply Kd.R_drew)); exact HO165.out) hb); have n3_ := Aside0.mk (blk_below (g := gb129) (o := .cells #[.int .i64 t125, .int .i64 t126, .int .i64 t127, .int .i64 t128] 23 (0, 0)) (by (with_reducible repeat (first | refine blk_drewN ?_ _ | refine blk_drew ?_ | refine blk_alloc ?_ _)); exact BK129.out) hb); have n4_ := Aside0.mk (blk_below (g := gb137) (o := .cells #[.int .i64 t133, .int .i64 t134, .int .i64 t135, .int .i64 t136] 23 (0, 0)) (by (with_reducible repeat (first | refine blk_drewN ?_ _ | refine blk_drew ?_ | refine blk_alloc ?_ _)); exact BK137.out) hb); have n5_ := Aside0.mk (below_step (by repeat (first | (with_reducible first | exact HB.out | apply below_alloc | apply pw_below_drewN | apply below_drew1 | refine below_set ?_ GE129.out | refine below_set ?_ GE137.out) | exact HB.out)) hb); clear HO124; clear HO132; clear HO165; clear BK129; clear BK137; clear HB; have HO124 := n0_; have HO132 := n1_; have HO165 := n2_; have BK129 := n3_; have BK137 := n4_; have HB := n5_; clear n0_ n1_ n2_ n3_ n4_ n5_; (try clear hb); (try clear hb2); (try clear hk); (try clear hi)) | (go_at_call 11; (with_reducible refine Go.Proofs.YtlbhokkifdjlaaaOwn.gate_args (#[.agg #[.int .i64 0, .int .i64 0, .int .i64 0, .int .i64 0]] : Array Value) rfl ?_); (with_reducible refine (count_Right.calls 0 0 0 0 t170 _ A21.out).mono ?_); (try clear A21); rintro e w52 ⟨rfl, hb⟩; have n0_ := Aside0.mk (Kd.R_below (by (with_reducible repeat (first | apply Kd.R_alloc | apply Kd.R_drewN | apply Kd.R_drew)); exact HO124.out) hb); have n1_ := Aside0.mk (Kd.R_below (by (with_reducible repeat (first | apply Kd.R_alloc | apply Kd.R_drewN | apply Kd.R_drew)); exact HO132.out) hb); have n2_ := Aside0.mk (Kd.R_below (by (with_reducible repeat (first | apply Kd.R_alloc | apply Kd.R_drewN | apply Kd.R_drew)); exact HO165.out) hb); have n3_ := Aside0.mk (blk_below (g := gb129) (o := .cells #[.int .i64 t125, .int .i64 t126, .int .i64 t127, .int .i64 t128] 23 (0, 0)) (by (with_reducible repeat (first | refine blk_drewN ?_ _ | refine blk_drew ?_ | refine blk_alloc ?_ _)); exact BK129.out) hb); have n4_ := Aside0.mk (blk_below (g := gb137) (o := .cells #[.int .i64 t133, .int .i64 t134, .int .i64 t135, .int .i64 t136] 23 (0, 0)) (by (with_reducible repeat (first | refine blk_drewN ?_ _ | refine blk_drew ?_ | refine blk_alloc ?_ _)); exact BK137.out) hb); have n5_ := Aside0.mk (below_step (by repeat (first | (with_reducible first | exact HB.out | apply below_alloc | apply pw_below_drewN | apply below_drew1 | refine below_set ?_ GE129.out | refine below_set ?_ GE137.out) | exact HB.out)) hb); clear HO124; clear HO132; clear HO165; clear BK129; clear BK137; clear HB; have HO124 := n0_; have HO132 := n1_; have HO165 := n2_; have BK129 := n3_; have BK137 := n4_; have HB := n5_; clear n0_ n1_ n2_ n3_ n4_ n5_; (try clear hb); (try clear hb2); (try clear hk); (try clear hi)))
              go_ret
              exact ⟨by first | rfl | (simp [errW_none, errW_some] <;> rfl) | (simp [*, errW_none, errW_some] <;> rfl), by repeat (first | (with_reducible first | exact HB.out | apply below_alloc | apply pw_below_drewN | apply below_drew1 | refine below_set ?_ GE129.out | refine below_set ?_ GE137.out) | exact HB.out)⟩
            · rw [if_neg c20] at H
              exact absurd H (by simp)
          · rw [if_neg c16] at H
            exact absurd H (by simp)
        · rw [if_neg c13] at H
          exact absurd H (by simp)
      · rw [if_neg c10] at H
        exact absurd H (by simp)
    · rw [if_neg c9] at H
      exact absurd H (by simp)
  · replace c8 := Bool.eq_false_iff.mpr c8
    subst c8
    have H1 : (none) = some r := by rw [if_neg (show ¬ (false = true) by decide)] at H; exact H
    clear H
    have H := H1
    clear H1
    exact absurd H (by simp)

end Go.Proofs.Ytlbhokkifdjlaaa.P

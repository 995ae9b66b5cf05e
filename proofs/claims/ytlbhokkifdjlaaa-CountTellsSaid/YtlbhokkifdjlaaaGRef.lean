/-
  The document's Step of layer 8: what something that happens makes of a counter. No condition beyond what the types say.
-/
import Derived.Test.YtlbhokkifdjlaaaPx1
import Derived.Test.YtlbhokkifdjlaaaPx5
import Derived.Shelf.Abstract
namespace Go.Proofs.Ytlbhokkifdjlaaa.P
open Go.Shelf Go.RowKit Go.Proofs.YtlbhokkifdjlaaaW.PrintWords Go.Proofs.YtlbhokkifdjlaaaW.PrintLast Go.Proofs.YtlbhokkifdjlaaaW.PrintMore
attribute [local go_sem] max2_int min2_int max_two min_two
attribute [local go_sem high] eqA23
set_option linter.unusedVariables false
set_option linter.unusedSimpArgs false

def refT (t r q : Int) : Int × Int × Int × Int := if t > 255 then (256, 0, 3, 0) else (t, r, (if t > 127 then 2 else if r > 127 then 2 else 1), q)
def refC (t r s q what : Int) : Int × Int × Int × Int :=
  if s = 3 then (if what = 6 then (if wrap64 (q + 1) = 128 then (0, 0, 1, 0) else (t, r, s, wrap64 (q + 1))) else (t, r, s, q))
  else if what = 1 then refT (mx (wrap64 (t - 1)) 0) r q else if what = 2 then (if r > 127 then refT t 127 q else refT t (mx (wrap64 (r - 1)) 0) q)
  else if what = 3 then refT (wrap64 (t + 8)) r q else if what = 4 then refT t (mn (wrap64 (r + 1)) 255) q else if what = 5 then refT t (mn (wrap64 (r + 8)) 255) q else refT t r q
def phaetonref08_Step.f (a0_0 : Int) (a0_1 : Int) (a0_2 : Int) (a0_3 : Int) (a1 : Int) : Option (Int × Int × Int × Int) := some (refC a0_0 a0_1 a0_2 a0_3 a1)
def aggC (c : Int × Int × Int × Int) : Value := .agg #[.int .i64 c.1, .int .i64 c.2.1, .int .i64 c.2.2.1, .int .i64 c.2.2.2]

theorem mid_blk (w : World) (o0 o1 o2 : Obj) : (((w.alloc o0).alloc o1).alloc o2).heap[w.heap.size + 1]? = some o1 := by
  have h : (((w.alloc o0).alloc o1).heap[(w.alloc o0).heap.size]?) = some o1 := blk_new _ _
  rw [show (w.alloc o0).heap.size = w.heap.size + 1 by simp] at h
  exact blk_alloc h _

theorem ref_1 (t r s q : Int) (w : World) (j : Int) (hj_ : (if wrap64 (t - 1) < 0 then 0 else wrap64 (t - 1)) = j) (c0 : (s == 3) = false) :
    Calls Try.prog 16 #[.agg #[.int .i64 t, .int .i64 r, .int .i64 s, .int .i64 q], .int .i64 1] w fun e w' => e = .returned (aggC (refT j r q)) ∧ Below w.heap.size w w' := by
  have hu23 := Try.underlying23
  unfold refT aggC
  by_cases h1 : j > 255
  · rw [if_pos h1]
    have g1 : decide (255 < j) = true := decide_eq_true h1
    clear h1
    go_enter Try.func16, Try.ntmps16
    go_wp2
    refine bodyPost_ret (results_cell_row rfl _ _ (w.heap.size + 1) 23 #[.int .i64 256, .int .i64 0, .int .i64 3, .int .i64 0] (0, 0) _ rfl (mid_blk w _ _ _) Try.underlying23 rfl (by kernel_rfl)) rfl ?_
    exact ⟨rfl, below_alloc (below_alloc (below_alloc (Below.refl _ w) _) _) _⟩
  · rw [if_neg h1]
    have g1 : decide (255 < j) = false := decide_eq_false h1
    clear h1
    by_cases h2 : j > 127
    · rw [if_pos h2]
      have g2 : decide (127 < j) = true := decide_eq_true h2
      clear h2
      go_enter Try.func16, Try.ntmps16
      go_wp2
      refine bodyPost_ret (results_cell_row rfl _ _ (w.heap.size + 1) 23 #[.int .i64 j, .int .i64 r, .int .i64 2, .int .i64 q] (0, 0) _ rfl (mid_blk w _ _ _) Try.underlying23 rfl (by kernel_rfl)) rfl ?_
      exact ⟨rfl, below_alloc (below_alloc (below_alloc (Below.refl _ w) _) _) _⟩
    · rw [if_neg h2]
      have g2 : decide (127 < j) = false := decide_eq_false h2
      clear h2
      by_cases h3 : r > 127
      · rw [if_pos h3]
        have g3 : decide (127 < r) = true := decide_eq_true h3
        clear h3
        go_enter Try.func16, Try.ntmps16
        go_wp2
        refine bodyPost_ret (results_cell_row rfl _ _ (w.heap.size + 1) 23 #[.int .i64 j, .int .i64 r, .int .i64 2, .int .i64 q] (0, 0) _ rfl (mid_blk w _ _ _) Try.underlying23 rfl (by kernel_rfl)) rfl ?_
        exact ⟨rfl, below_alloc (below_alloc (below_alloc (Below.refl _ w) _) _) _⟩
      · rw [if_neg h3]
        have g3 : decide (127 < r) = false := decide_eq_false h3
        clear h3
        go_enter Try.func16, Try.ntmps16
        go_wp2
        refine bodyPost_ret (results_cell_row rfl _ _ (w.heap.size + 1) 23 #[.int .i64 j, .int .i64 r, .int .i64 1, .int .i64 q] (0, 0) _ rfl (mid_blk w _ _ _) Try.underlying23 rfl (by kernel_rfl)) rfl ?_
        exact ⟨rfl, below_alloc (below_alloc (below_alloc (Below.refl _ w) _) _) _⟩

theorem ref_2h (t r s q : Int) (w : World) (gh : decide (127 < r) = true) (j : Int) (hj_ : (if wrap64 (r - 1) < 0 then 0 else wrap64 (r - 1)) = j) (c0 : (s == 3) = false) :
    Calls Try.prog 16 #[.agg #[.int .i64 t, .int .i64 r, .int .i64 s, .int .i64 q], .int .i64 2] w fun e w' => e = .returned (aggC (refT t 127 q)) ∧ Below w.heap.size w w' := by
  have hu23 := Try.underlying23
  unfold refT aggC
  by_cases h1 : t > 255
  · rw [if_pos h1]
    have g1 : decide (255 < t) = true := decide_eq_true h1
    clear h1
    go_enter Try.func16, Try.ntmps16
    go_wp2
    refine bodyPost_ret (results_cell_row rfl _ _ (w.heap.size + 1) 23 #[.int .i64 256, .int .i64 0, .int .i64 3, .int .i64 0] (0, 0) _ rfl (mid_blk w _ _ _) Try.underlying23 rfl (by kernel_rfl)) rfl ?_
    exact ⟨rfl, below_alloc (below_alloc (below_alloc (Below.refl _ w) _) _) _⟩
  · rw [if_neg h1]
    have g1 : decide (255 < t) = false := decide_eq_false h1
    clear h1
    by_cases h2 : t > 127
    · rw [if_pos h2]
      have g2 : decide (127 < t) = true := decide_eq_true h2
      clear h2
      go_enter Try.func16, Try.ntmps16
      go_wp2
      refine bodyPost_ret (results_cell_row rfl _ _ (w.heap.size + 1) 23 #[.int .i64 t, .int .i64 127, .int .i64 2, .int .i64 q] (0, 0) _ rfl (mid_blk w _ _ _) Try.underlying23 rfl (by kernel_rfl)) rfl ?_
      exact ⟨rfl, below_alloc (below_alloc (below_alloc (Below.refl _ w) _) _) _⟩
    · rw [if_neg h2]
      have g2 : decide (127 < t) = false := decide_eq_false h2
      clear h2
      rw [if_neg (by decide)]
      go_enter Try.func16, Try.ntmps16
      go_wp2
      refine bodyPost_ret (results_cell_row rfl _ _ (w.heap.size + 1) 23 #[.int .i64 t, .int .i64 127, .int .i64 1, .int .i64 q] (0, 0) _ rfl (mid_blk w _ _ _) Try.underlying23 rfl (by kernel_rfl)) rfl ?_
      exact ⟨rfl, below_alloc (below_alloc (below_alloc (Below.refl _ w) _) _) _⟩

theorem ref_2l (t r s q : Int) (w : World) (gh : decide (127 < r) = false) (j : Int) (hj_ : (if wrap64 (r - 1) < 0 then 0 else wrap64 (r - 1)) = j) (c0 : (s == 3) = false) :
    Calls Try.prog 16 #[.agg #[.int .i64 t, .int .i64 r, .int .i64 s, .int .i64 q], .int .i64 2] w fun e w' => e = .returned (aggC (refT t j q)) ∧ Below w.heap.size w w' := by
  have hu23 := Try.underlying23
  unfold refT aggC
  by_cases h1 : t > 255
  · rw [if_pos h1]
    have g1 : decide (255 < t) = true := decide_eq_true h1
    clear h1
    go_enter Try.func16, Try.ntmps16
    go_wp2
    refine bodyPost_ret (results_cell_row rfl _ _ (w.heap.size + 1) 23 #[.int .i64 256, .int .i64 0, .int .i64 3, .int .i64 0] (0, 0) _ rfl (mid_blk w _ _ _) Try.underlying23 rfl (by kernel_rfl)) rfl ?_
    exact ⟨rfl, below_alloc (below_alloc (below_alloc (Below.refl _ w) _) _) _⟩
  · rw [if_neg h1]
    have g1 : decide (255 < t) = false := decide_eq_false h1
    clear h1
    by_cases h2 : t > 127
    · rw [if_pos h2]
      have g2 : decide (127 < t) = true := decide_eq_true h2
      clear h2
      go_enter Try.func16, Try.ntmps16
      go_wp2
      refine bodyPost_ret (results_cell_row rfl _ _ (w.heap.size + 1) 23 #[.int .i64 t, .int .i64 j, .int .i64 2, .int .i64 q] (0, 0) _ rfl (mid_blk w _ _ _) Try.underlying23 rfl (by kernel_rfl)) rfl ?_
      exact ⟨rfl, below_alloc (below_alloc (below_alloc (Below.refl _ w) _) _) _⟩
    · rw [if_neg h2]
      have g2 : decide (127 < t) = false := decide_eq_false h2
      clear h2
      by_cases h3 : j > 127
      · rw [if_pos h3]
        have g3 : decide (127 < j) = true := decide_eq_true h3
        clear h3
        go_enter Try.func16, Try.ntmps16
        go_wp2
        refine bodyPost_ret (results_cell_row rfl _ _ (w.heap.size + 1) 23 #[.int .i64 t, .int .i64 j, .int .i64 2, .int .i64 q] (0, 0) _ rfl (mid_blk w _ _ _) Try.underlying23 rfl (by kernel_rfl)) rfl ?_
        exact ⟨rfl, below_alloc (below_alloc (below_alloc (Below.refl _ w) _) _) _⟩
      · rw [if_neg h3]
        have g3 : decide (127 < j) = false := decide_eq_false h3
        clear h3
        go_enter Try.func16, Try.ntmps16
        go_wp2
        refine bodyPost_ret (results_cell_row rfl _ _ (w.heap.size + 1) 23 #[.int .i64 t, .int .i64 j, .int .i64 1, .int .i64 q] (0, 0) _ rfl (mid_blk w _ _ _) Try.underlying23 rfl (by kernel_rfl)) rfl ?_
        exact ⟨rfl, below_alloc (below_alloc (below_alloc (Below.refl _ w) _) _) _⟩

theorem ref_3 (t r s q : Int) (w : World)  (c0 : (s == 3) = false) :
    Calls Try.prog 16 #[.agg #[.int .i64 t, .int .i64 r, .int .i64 s, .int .i64 q], .int .i64 3] w fun e w' => e = .returned (aggC (refT (wrap64 (t + 8)) r q)) ∧ Below w.heap.size w w' := by
  have hu23 := Try.underlying23
  unfold refT aggC
  by_cases h1 : (wrap64 (t + 8)) > 255
  · rw [if_pos h1]
    have g1 : decide (255 < (wrap64 (t + 8))) = true := decide_eq_true h1
    clear h1
    go_enter Try.func16, Try.ntmps16
    go_wp2
    refine bodyPost_ret (results_cell_row rfl _ _ (w.heap.size + 1) 23 #[.int .i64 256, .int .i64 0, .int .i64 3, .int .i64 0] (0, 0) _ rfl (mid_blk w _ _ _) Try.underlying23 rfl (by kernel_rfl)) rfl ?_
    exact ⟨rfl, below_alloc (below_alloc (below_alloc (Below.refl _ w) _) _) _⟩
  · rw [if_neg h1]
    have g1 : decide (255 < (wrap64 (t + 8))) = false := decide_eq_false h1
    clear h1
    by_cases h2 : (wrap64 (t + 8)) > 127
    · rw [if_pos h2]
      have g2 : decide (127 < (wrap64 (t + 8))) = true := decide_eq_true h2
      clear h2
      go_enter Try.func16, Try.ntmps16
      go_wp2
      refine bodyPost_ret (results_cell_row rfl _ _ (w.heap.size + 1) 23 #[.int .i64 (wrap64 (t + 8)), .int .i64 r, .int .i64 2, .int .i64 q] (0, 0) _ rfl (mid_blk w _ _ _) Try.underlying23 rfl (by kernel_rfl)) rfl ?_
      exact ⟨rfl, below_alloc (below_alloc (below_alloc (Below.refl _ w) _) _) _⟩
    · rw [if_neg h2]
      have g2 : decide (127 < (wrap64 (t + 8))) = false := decide_eq_false h2
      clear h2
      by_cases h3 : r > 127
      · rw [if_pos h3]
        have g3 : decide (127 < r) = true := decide_eq_true h3
        clear h3
        go_enter Try.func16, Try.ntmps16
        go_wp2
        refine bodyPost_ret (results_cell_row rfl _ _ (w.heap.size + 1) 23 #[.int .i64 (wrap64 (t + 8)), .int .i64 r, .int .i64 2, .int .i64 q] (0, 0) _ rfl (mid_blk w _ _ _) Try.underlying23 rfl (by kernel_rfl)) rfl ?_
        exact ⟨rfl, below_alloc (below_alloc (below_alloc (Below.refl _ w) _) _) _⟩
      · rw [if_neg h3]
        have g3 : decide (127 < r) = false := decide_eq_false h3
        clear h3
        go_enter Try.func16, Try.ntmps16
        go_wp2
        refine bodyPost_ret (results_cell_row rfl _ _ (w.heap.size + 1) 23 #[.int .i64 (wrap64 (t + 8)), .int .i64 r, .int .i64 1, .int .i64 q] (0, 0) _ rfl (mid_blk w _ _ _) Try.underlying23 rfl (by kernel_rfl)) rfl ?_
        exact ⟨rfl, below_alloc (below_alloc (below_alloc (Below.refl _ w) _) _) _⟩

theorem ref_4 (t r s q : Int) (w : World) (j : Int) (hj_ : (if 255 < wrap64 (r + 1) then 255 else wrap64 (r + 1)) = j) (c0 : (s == 3) = false) :
    Calls Try.prog 16 #[.agg #[.int .i64 t, .int .i64 r, .int .i64 s, .int .i64 q], .int .i64 4] w fun e w' => e = .returned (aggC (refT t j q)) ∧ Below w.heap.size w w' := by
  have hu23 := Try.underlying23
  unfold refT aggC
  by_cases h1 : t > 255
  · rw [if_pos h1]
    have g1 : decide (255 < t) = true := decide_eq_true h1
    clear h1
    go_enter Try.func16, Try.ntmps16
    go_wp2
    refine bodyPost_ret (results_cell_row rfl _ _ (w.heap.size + 1) 23 #[.int .i64 256, .int .i64 0, .int .i64 3, .int .i64 0] (0, 0) _ rfl (mid_blk w _ _ _) Try.underlying23 rfl (by kernel_rfl)) rfl ?_
    exact ⟨rfl, below_alloc (below_alloc (below_alloc (Below.refl _ w) _) _) _⟩
  · rw [if_neg h1]
    have g1 : decide (255 < t) = false := decide_eq_false h1
    clear h1
    by_cases h2 : t > 127
    · rw [if_pos h2]
      have g2 : decide (127 < t) = true := decide_eq_true h2
      clear h2
      go_enter Try.func16, Try.ntmps16
      go_wp2
      refine bodyPost_ret (results_cell_row rfl _ _ (w.heap.size + 1) 23 #[.int .i64 t, .int .i64 j, .int .i64 2, .int .i64 q] (0, 0) _ rfl (mid_blk w _ _ _) Try.underlying23 rfl (by kernel_rfl)) rfl ?_
      exact ⟨rfl, below_alloc (below_alloc (below_alloc (Below.refl _ w) _) _) _⟩
    · rw [if_neg h2]
      have g2 : decide (127 < t) = false := decide_eq_false h2
      clear h2
      by_cases h3 : j > 127
      · rw [if_pos h3]
        have g3 : decide (127 < j) = true := decide_eq_true h3
        clear h3
        go_enter Try.func16, Try.ntmps16
        go_wp2
        refine bodyPost_ret (results_cell_row rfl _ _ (w.heap.size + 1) 23 #[.int .i64 t, .int .i64 j, .int .i64 2, .int .i64 q] (0, 0) _ rfl (mid_blk w _ _ _) Try.underlying23 rfl (by kernel_rfl)) rfl ?_
        exact ⟨rfl, below_alloc (below_alloc (below_alloc (Below.refl _ w) _) _) _⟩
      · rw [if_neg h3]
        have g3 : decide (127 < j) = false := decide_eq_false h3
        clear h3
        go_enter Try.func16, Try.ntmps16
        go_wp2
        refine bodyPost_ret (results_cell_row rfl _ _ (w.heap.size + 1) 23 #[.int .i64 t, .int .i64 j, .int .i64 1, .int .i64 q] (0, 0) _ rfl (mid_blk w _ _ _) Try.underlying23 rfl (by kernel_rfl)) rfl ?_
        exact ⟨rfl, below_alloc (below_alloc (below_alloc (Below.refl _ w) _) _) _⟩

theorem ref_5 (t r s q : Int) (w : World) (j : Int) (hj_ : (if 255 < wrap64 (r + 8) then 255 else wrap64 (r + 8)) = j) (c0 : (s == 3) = false) :
    Calls Try.prog 16 #[.agg #[.int .i64 t, .int .i64 r, .int .i64 s, .int .i64 q], .int .i64 5] w fun e w' => e = .returned (aggC (refT t j q)) ∧ Below w.heap.size w w' := by
  have hu23 := Try.underlying23
  unfold refT aggC
  by_cases h1 : t > 255
  · rw [if_pos h1]
    have g1 : decide (255 < t) = true := decide_eq_true h1
    clear h1
    go_enter Try.func16, Try.ntmps16
    go_wp2
    refine bodyPost_ret (results_cell_row rfl _ _ (w.heap.size + 1) 23 #[.int .i64 256, .int .i64 0, .int .i64 3, .int .i64 0] (0, 0) _ rfl (mid_blk w _ _ _) Try.underlying23 rfl (by kernel_rfl)) rfl ?_
    exact ⟨rfl, below_alloc (below_alloc (below_alloc (Below.refl _ w) _) _) _⟩
  · rw [if_neg h1]
    have g1 : decide (255 < t) = false := decide_eq_false h1
    clear h1
    by_cases h2 : t > 127
    · rw [if_pos h2]
      have g2 : decide (127 < t) = true := decide_eq_true h2
      clear h2
      go_enter Try.func16, Try.ntmps16
      go_wp2
      refine bodyPost_ret (results_cell_row rfl _ _ (w.heap.size + 1) 23 #[.int .i64 t, .int .i64 j, .int .i64 2, .int .i64 q] (0, 0) _ rfl (mid_blk w _ _ _) Try.underlying23 rfl (by kernel_rfl)) rfl ?_
      exact ⟨rfl, below_alloc (below_alloc (below_alloc (Below.refl _ w) _) _) _⟩
    · rw [if_neg h2]
      have g2 : decide (127 < t) = false := decide_eq_false h2
      clear h2
      by_cases h3 : j > 127
      · rw [if_pos h3]
        have g3 : decide (127 < j) = true := decide_eq_true h3
        clear h3
        go_enter Try.func16, Try.ntmps16
        go_wp2
        refine bodyPost_ret (results_cell_row rfl _ _ (w.heap.size + 1) 23 #[.int .i64 t, .int .i64 j, .int .i64 2, .int .i64 q] (0, 0) _ rfl (mid_blk w _ _ _) Try.underlying23 rfl (by kernel_rfl)) rfl ?_
        exact ⟨rfl, below_alloc (below_alloc (below_alloc (Below.refl _ w) _) _) _⟩
      · rw [if_neg h3]
        have g3 : decide (127 < j) = false := decide_eq_false h3
        clear h3
        go_enter Try.func16, Try.ntmps16
        go_wp2
        refine bodyPost_ret (results_cell_row rfl _ _ (w.heap.size + 1) 23 #[.int .i64 t, .int .i64 j, .int .i64 1, .int .i64 q] (0, 0) _ rfl (mid_blk w _ _ _) Try.underlying23 rfl (by kernel_rfl)) rfl ?_
        exact ⟨rfl, below_alloc (below_alloc (below_alloc (Below.refl _ w) _) _) _⟩

theorem ref_o (t r s q : Int) (w : World) (x : Int) (e1 : (x == 1) = false) (e2 : (x == 2) = false) (e3 : (x == 3) = false) (e4 : (x == 4) = false) (e5 : (x == 5) = false) (c0 : (s == 3) = false) :
    Calls Try.prog 16 #[.agg #[.int .i64 t, .int .i64 r, .int .i64 s, .int .i64 q], .int .i64 x] w fun e w' => e = .returned (aggC (refT t r q)) ∧ Below w.heap.size w w' := by
  have hu23 := Try.underlying23
  unfold refT aggC
  by_cases h1 : t > 255
  · rw [if_pos h1]
    have g1 : decide (255 < t) = true := decide_eq_true h1
    clear h1
    go_enter Try.func16, Try.ntmps16
    go_wp2
    refine bodyPost_ret (results_cell_row rfl _ _ (w.heap.size + 1) 23 #[.int .i64 256, .int .i64 0, .int .i64 3, .int .i64 0] (0, 0) _ rfl (mid_blk w _ _ _) Try.underlying23 rfl (by kernel_rfl)) rfl ?_
    exact ⟨rfl, below_alloc (below_alloc (below_alloc (Below.refl _ w) _) _) _⟩
  · rw [if_neg h1]
    have g1 : decide (255 < t) = false := decide_eq_false h1
    clear h1
    by_cases h2 : t > 127
    · rw [if_pos h2]
      have g2 : decide (127 < t) = true := decide_eq_true h2
      clear h2
      go_enter Try.func16, Try.ntmps16
      go_wp2
      refine bodyPost_ret (results_cell_row rfl _ _ (w.heap.size + 1) 23 #[.int .i64 t, .int .i64 r, .int .i64 2, .int .i64 q] (0, 0) _ rfl (mid_blk w _ _ _) Try.underlying23 rfl (by kernel_rfl)) rfl ?_
      exact ⟨rfl, below_alloc (below_alloc (below_alloc (Below.refl _ w) _) _) _⟩
    · rw [if_neg h2]
      have g2 : decide (127 < t) = false := decide_eq_false h2
      clear h2
      by_cases h3 : r > 127
      · rw [if_pos h3]
        have g3 : decide (127 < r) = true := decide_eq_true h3
        clear h3
        go_enter Try.func16, Try.ntmps16
        go_wp2
        refine bodyPost_ret (results_cell_row rfl _ _ (w.heap.size + 1) 23 #[.int .i64 t, .int .i64 r, .int .i64 2, .int .i64 q] (0, 0) _ rfl (mid_blk w _ _ _) Try.underlying23 rfl (by kernel_rfl)) rfl ?_
        exact ⟨rfl, below_alloc (below_alloc (below_alloc (Below.refl _ w) _) _) _⟩
      · rw [if_neg h3]
        have g3 : decide (127 < r) = false := decide_eq_false h3
        clear h3
        go_enter Try.func16, Try.ntmps16
        go_wp2
        refine bodyPost_ret (results_cell_row rfl _ _ (w.heap.size + 1) 23 #[.int .i64 t, .int .i64 r, .int .i64 1, .int .i64 q] (0, 0) _ rfl (mid_blk w _ _ _) Try.underlying23 rfl (by kernel_rfl)) rfl ?_
        exact ⟨rfl, below_alloc (below_alloc (below_alloc (Below.refl _ w) _) _) _⟩

theorem ref_off_n (t r s q : Int) (w : World) (x : Int) (c0 : (s == 3) = true) (e6 : (x == 6) = false) :
    Calls Try.prog 16 #[.agg #[.int .i64 t, .int .i64 r, .int .i64 s, .int .i64 q], .int .i64 x] w fun e w' => e = .returned (aggC (t, r, s, q)) ∧ Below w.heap.size w w' := by
  have hu23 := Try.underlying23
  unfold aggC
  go_enter Try.func16, Try.ntmps16
  go_wp2
  refine bodyPost_ret (results_cell_row rfl _ _ (w.heap.size + 1) 23 #[.int .i64 t, .int .i64 r, .int .i64 s, .int .i64 q] (0, 0) _ rfl (mid_blk w _ _ _) Try.underlying23 rfl (by kernel_rfl)) rfl ?_
  exact ⟨rfl, below_alloc (below_alloc (below_alloc (Below.refl _ w) _) _) _⟩

theorem ref_off_c (t r s q : Int) (w : World) (c0 : (s == 3) = true) (e8 : (wrap64 (q + 1) == 128) = false) :
    Calls Try.prog 16 #[.agg #[.int .i64 t, .int .i64 r, .int .i64 s, .int .i64 q], .int .i64 6] w fun e w' => e = .returned (aggC (t, r, s, wrap64 (q + 1))) ∧ Below w.heap.size w w' := by
  have hu23 := Try.underlying23
  unfold aggC
  go_enter Try.func16, Try.ntmps16
  go_wp2
  refine bodyPost_ret (results_cell_row rfl _ _ (w.heap.size + 1) 23 #[.int .i64 t, .int .i64 r, .int .i64 s, .int .i64 (wrap64 (q + 1))] (0, 0) _ rfl (mid_blk w _ _ _) Try.underlying23 rfl (by kernel_rfl)) rfl ?_
  exact ⟨rfl, below_alloc (below_alloc (below_alloc (Below.refl _ w) _) _) _⟩

theorem ref_off_b (t r s q : Int) (w : World) (c0 : (s == 3) = true) (e8 : (wrap64 (q + 1) == 128) = true) :
    Calls Try.prog 16 #[.agg #[.int .i64 t, .int .i64 r, .int .i64 s, .int .i64 q], .int .i64 6] w fun e w' => e = .returned (aggC (0, 0, 1, 0)) ∧ Below w.heap.size w w' := by
  have hu23 := Try.underlying23
  unfold aggC
  have HF := Aside0.mk (show phaetonref08_New.f = some (0, 0, 1, 0) from rfl)
  have HZ := Aside0.mk (mid_blk w (.cells #[.int .i64 t, .int .i64 r, .int .i64 s, .int .i64 q] 23) (.cells #[.int .i64 0, .int .i64 0, .int .i64 0, .int .i64 0] 23) (.cells #[.int .i64 t, .int .i64 r, .int .i64 s, .int .i64 (wrap64 (q + 1))] 23))
  have HB0 := Aside0.mk (below_alloc (below_alloc (below_alloc (Below.refl _ w) (.cells #[.int .i64 t, .int .i64 r, .int .i64 s, .int .i64 q] 23)) (.cells #[.int .i64 0, .int .i64 0, .int .i64 0, .int .i64 0] 23)) (.cells #[.int .i64 t, .int .i64 r, .int .i64 s, .int .i64 (wrap64 (q + 1))] 23))
  go_enter Try.func16, Try.ntmps16
  go_wp2_with (go_at_call 14; refine (phaetonref08_New.calls 0 0 1 0 _ HF.out).mono ?_; rintro e w1 ⟨rfl, hb⟩; have HZ1 := Aside0.mk (blk_below HZ.out hb); have HB1 := Aside0.mk (HB0.out.trans (hb.mono (by simp; try omega))); have z0 := (blk_cell HZ1.out 0).trans rfl; have z1 := (blk_cell HZ1.out 1).trans rfl; have z2 := (blk_cell HZ1.out 2).trans rfl; have z3 := (blk_cell HZ1.out 3).trans rfl; have g0 := blk_frozen HZ1.out 0; have g1 := blk_frozen HZ1.out 1; have g2 := blk_frozen HZ1.out 2; have g3 := blk_frozen HZ1.out 3; clear hb)
  refine bodyPost_ret (results_cell_row rfl _ _ (w.heap.size + 1) 23 #[.int .i64 0, .int .i64 0, .int .i64 1, .int .i64 0] (0, 0) _ rfl (blk_put (blk_put (blk_put (blk_put HZ1.out 0 (.int .i64 0) rfl) 1 (.int .i64 0) rfl) 2 (.int .i64 1) rfl) 3 (.int .i64 0) rfl) Try.underlying23 rfl (by kernel_rfl)) rfl ?_
  exact ⟨rfl, below_set (below_set (below_set (below_set HB1.out (by omega)) (by omega)) (by omega)) (by omega)⟩

theorem phaetonref08_Step.calls (a0_0 : Int) (a0_1 : Int) (a0_2 : Int) (a0_3 : Int) (a1 : Int) (r1 : Int) (r2 : Int) (r3 : Int) (r4 : Int) (w : World) (h : phaetonref08_Step.f a0_0 a0_1 a0_2 a0_3 a1 = some (r1, r2, r3, r4)) :
    Calls Try.prog 16 #[.agg #[.int .i64 a0_0, .int .i64 a0_1, .int .i64 a0_2, .int .i64 a0_3], .int .i64 a1] w fun e w' => e = .returned (.agg #[.int .i64 r1, .int .i64 r2, .int .i64 r3, .int .i64 r4]) ∧ Below w.heap.size w w' := by
  have hs : refC a0_0 a0_1 a0_2 a0_3 a1 = (r1, r2, r3, r4) := by simpa [phaetonref08_Step.f] using h
  clear h
  have fin : (.agg #[.int .i64 r1, .int .i64 r2, .int .i64 r3, .int .i64 r4] : Value) = aggC (refC a0_0 a0_1 a0_2 a0_3 a1) := by rw [hs]; rfl
  rw [fin]
  clear hs fin
  unfold refC
  by_cases c : a0_2 = 3
  · have c0 : (a0_2 == 3) = true := by simpa using c
    rw [if_pos c]
    by_cases h6 : a1 = 6
    · subst h6
      rw [if_pos rfl]
      by_cases h8 : wrap64 (a0_3 + 1) = 128
      · rw [if_pos h8]; exact ref_off_b _ _ _ _ w c0 (by simpa using h8)
      · rw [if_neg h8]; exact ref_off_c _ _ _ _ w c0 (by simpa using h8)
    · rw [if_neg h6]; exact ref_off_n _ _ _ _ w a1 c0 (by simpa using h6)
  · have c0 : (a0_2 == 3) = false := by simpa using c
    rw [if_neg c]
    by_cases h1 : a1 = 1
    · subst h1; rw [if_pos rfl]; exact ref_1 _ _ _ _ w _ rfl c0
    by_cases h2 : a1 = 2
    · subst h2; rw [if_neg (by decide), if_pos rfl]
      by_cases hh : a0_1 > 127
      · rw [if_pos hh]; exact ref_2h _ _ _ _ w (decide_eq_true hh) _ rfl c0
      · rw [if_neg hh]; exact ref_2l _ _ _ _ w (decide_eq_false hh) _ rfl c0
    by_cases h3 : a1 = 3
    · subst h3; rw [if_neg (by decide), if_neg (by decide), if_pos rfl]; exact ref_3 _ _ _ _ w c0
    by_cases h4 : a1 = 4
    · subst h4; rw [if_neg (by decide), if_neg (by decide), if_neg (by decide), if_pos rfl]; exact ref_4 _ _ _ _ w _ rfl c0
    by_cases h5 : a1 = 5
    · subst h5; rw [if_neg (by decide), if_neg (by decide), if_neg (by decide), if_neg (by decide), if_pos rfl]; exact ref_5 _ _ _ _ w _ rfl c0
    rw [if_neg h1, if_neg h2, if_neg h3, if_neg h4, if_neg h5]
    exact ref_o _ _ _ _ w a1 (by simpa using h1) (by simpa using h2) (by simpa using h3) (by simpa using h4) (by simpa using h5) c0
end Go.Proofs.Ytlbhokkifdjlaaa.P


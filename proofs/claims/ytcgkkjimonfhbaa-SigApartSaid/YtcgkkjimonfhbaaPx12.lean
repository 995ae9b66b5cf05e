/- Go functions that the laws of this seat reach, each as a Lean function, and a proof that a call of the Go code comes to its answers; written by a program (the kit's print, turned in a few places). Conditions: each theorem's own premises. -/
import Derived.Test.YtcgkkjimonfhbaaPx0
namespace Go.Proofs.Ytcgkkjimonfhbaa.P
open Go.RowKit Go.Proofs.YtcgkkjimonfhbaaW.PrintWords Go.Proofs.YtcgkkjimonfhbaaW.PrintLast Go.Proofs.YtcgkkjimonfhbaaW.PrintMore
attribute [local go_sem] max2_int min2_int max_two min_two max_three min_three max_four min_four   -- for this text's walks alone
set_option linter.unusedVariables false
set_option linter.unusedSimpArgs false

/-! ### phaetonref15_all: function 35 -/
mutual
def phaetonref15_all.l0 : Nat → List Int → Int → Int → Int → Int → Bool → Bool → Int → Int → Option (List Int)
 | 0, _, _, _, _, _, _, _, _, _ => none
 | k + 1, x3, x4, x5, x270000, x270001, x270002, x270003, x270004, x270005 => if x5 < x270001 then (phaetonref15_all.j1 k x3 x4 x5 (decide (x5 < 33)) x270000 x270001 x270002 x270003 x270004 x270005) else (phaetonref15_all.j1 k x3 x4 x5 false x270000 x270001 x270002 x270003 x270004 x270005)
def phaetonref15_all.j1 : Nat → List Int → Int → Int → Bool → Int → Int → Bool → Bool → Int → Int → Option (List Int)
 | 0, _, _, _, _, _, _, _, _, _, _ => none
 | k + 1, x3, x4, x5, x16, x270000, x270001, x270002, x270003, x270004, x270005 => if x16 = true then (if x3.length < 17592186044416 then ((some (x3 ++ [x4] : List Int)).bind fun y273 => (if x270002 = true then (if (Int.tmod x4 8) > 0 then (phaetonref15_all.l0 k y273 (wrap64 (x4 - 1)) (wrap64 (x5 + 1)) x270000 x270001 x270002 x270003 x270004 x270005) else (phaetonref15_all.l0 k y273 (wrap64 (x4 + 15)) (wrap64 (x5 + 1)) x270000 x270001 x270002 x270003 x270004 x270005)) else (phaetonref15_all.l0 k y273 (wrap64 (x4 + 1)) (wrap64 (x5 + 1)) x270000 x270001 x270002 x270003 x270004 x270005))) else (none)) else (some x3)
end
def phaetonref15_all.f (k : Nat) (a0_0 : Int) (a0_1 : Int) (a0_2 : Bool) (a0_3 : Bool) (a0_4 : Int) (a0_5 : Int) : Option (List Int) := phaetonref15_all.l0 k (([] : List Int)) a0_0 0 a0_0 a0_1 a0_2 a0_3 a0_4 a0_5
theorem phaetonref15_all.mono_l : ∀ k, (∀ y0 y1 y2 y3 y4 y5 y6 y7 y8, LeO (phaetonref15_all.l0 k y0 y1 y2 y3 y4 y5 y6 y7 y8) (phaetonref15_all.l0 (k + 1) y0 y1 y2 y3 y4 y5 y6 y7 y8)) ∧ (∀ y0 y1 y2 y3 y4 y5 y6 y7 y8 y9, LeO (phaetonref15_all.j1 k y0 y1 y2 y3 y4 y5 y6 y7 y8 y9) (phaetonref15_all.j1 (k + 1) y0 y1 y2 y3 y4 y5 y6 y7 y8 y9))
 | 0 => ⟨fun _ _ _ _ _ _ _ _ _ r h => by simp [phaetonref15_all.l0] at h, fun _ _ _ _ _ _ _ _ _ _ r h => by simp [phaetonref15_all.j1] at h⟩
 | k + 1 => by
  obtain ⟨ih0, ih1⟩ := phaetonref15_all.mono_l k
  refine ⟨?_, ?_⟩
  ·intro y0 y1 y2 y3 y4 y5 y6 y7 y8
   unfold phaetonref15_all.l0
   repeat' first
   | (with_reducible exact ih0 _ _ _ _ _ _ _ _ _)
   | (with_reducible exact ih1 _ _ _ _ _ _ _ _ _ _)
   | (with_reducible exact LeO.refl _)
   | (with_reducible exact LeO.none _)
   | (with_reducible refine LeO.ite ?_ ?_)
   | (with_reducible refine LeO.bind ?_ (fun _ => ?_))
   | exact ih0 _ _ _ _ _ _ _ _ _
   | exact ih1 _ _ _ _ _ _ _ _ _ _
   | exact LeO.none _
   | refine LeO.ite ?_ ?_
   | refine LeO.bind ?_ (fun _ => ?_)
  ·intro y0 y1 y2 y3 y4 y5 y6 y7 y8 y9
   unfold phaetonref15_all.j1
   repeat' first
   | (with_reducible exact ih0 _ _ _ _ _ _ _ _ _)
   | (with_reducible exact ih1 _ _ _ _ _ _ _ _ _ _)
   | (with_reducible exact LeO.refl _)
   | (with_reducible exact LeO.none _)
   | (with_reducible refine LeO.ite ?_ ?_)
   | (with_reducible refine LeO.bind ?_ (fun _ => ?_))
   | exact ih0 _ _ _ _ _ _ _ _ _
   | exact ih1 _ _ _ _ _ _ _ _ _ _
   | exact LeO.none _
   | refine LeO.ite ?_ ?_
   | refine LeO.bind ?_ (fun _ => ?_)
theorem phaetonref15_all.mono : ∀ a0 a1 a2 a3 a4 a5 k, LeO (phaetonref15_all.f k a0 a1 a2 a3 a4 a5) (phaetonref15_all.f (k + 1) a0 a1 a2 a3 a4 a5) := by
 intro a0 a1 a2 a3 a4 a5 k
 obtain ⟨ih0, ih1⟩ := phaetonref15_all.mono_l k
 unfold phaetonref15_all.f
 repeat' first
   | (with_reducible exact ih0 _ _ _ _ _ _ _ _ _)
   | (with_reducible exact ih1 _ _ _ _ _ _ _ _ _ _)
   | (with_reducible exact LeO.refl _)
   | (with_reducible exact LeO.none _)
   | (with_reducible refine LeO.ite ?_ ?_)
   | (with_reducible refine LeO.bind ?_ (fun _ => ?_))
   | exact ih0 _ _ _ _ _ _ _ _ _
   | exact ih1 _ _ _ _ _ _ _ _ _ _
   | exact LeO.none _
   | refine LeO.ite ?_ ?_
   | refine LeO.bind ?_ (fun _ => ?_)
set_option maxHeartbeats 8000000 in
set_option maxRecDepth 100000 in
theorem phaetonref15_all.calls (k : Nat) (a0_0 : Int) (a0_1 : Int) (a0_2 : Bool) (a0_3 : Bool) (a0_4 : Int) (a0_5 : Int) (r : List Int) (w : World) (h : phaetonref15_all.f k a0_0 a0_1 a0_2 a0_3 a0_4 a0_5 = some r) :
  Calls Try.prog 35 #[.agg #[.int .i64 a0_0, .int .i64 a0_1, .bool a0_2, .bool a0_3, .int .i64 a0_4, .int .i64 a0_5]] w fun e w' => ∃ v0_ : Value, e = .returned (v0_) ∧ Kd.R (Kd.int .i64) 3 w' w.heap.size (fun _ => True) v0_ r ∧ Below w.heap.size w w' := by
 have hu23 := Try.underlying23
 have HB := aM (Below.refl w.heap.size w)
 have H : (phaetonref15_all.l0 k (([] : List Int)) a0_0 0 a0_0 a0_1 a0_2 a0_3 a0_4 a0_5) = some r := h
 clear h
 obtain ⟨y270, hy270⟩ : ∃ y_ : List Int, y_ = (([] : List Int)) := ⟨_, rfl⟩
 replace H : (phaetonref15_all.l0 k y270 a0_0 0 a0_0 a0_1 a0_2 a0_3 a0_4 a0_5) = some r := by first | (rw [hy270]; with_reducible exact H) | (have H2_ := (Option.bind_some _ _).symm.trans H; rw [hy270]; with_reducible exact H2_) | (have H2_ := (Option.bind_some _ _).symm.trans H; with_reducible exact H2_) | with_reducible exact H | (rw [hy270]; exact H) | exact H
 have Ny270 := aM hy270
 clear hy270
 have H' := aM H
 clear H
 go_enter Try.func35, Try.ntmps35
 try go_wp2_with (first | ((with_reducible refine gate_dst (N := 1) rfl ?_); refine box_event ?hg (N := 1) ?hd (cs := #[.int .i64 a0_0, .int .i64 a0_1, .bool a0_2, .bool a0_3, .int .i64 a0_4, .int .i64 a0_5]) (t := 23) ?hr ?_; (case hd => rfl); (case hg => rfl); (case hr => first | (go_simp; done) | (go_simp; rfl)); intro gb269 hg w2 hbox hb; have n0_ := aM (lT (by repeat (first | (with_reducible first | exact HB.out | apply lA | apply lN | apply lW) | exact HB.out)) hb); have n1_ := aM (hbox); have n2_ := aM ((by rw [hg]; exact (lZ (by repeat (first | (with_reducible first | exact HB.out | apply lA | apply lN | apply lW) | exact HB.out))) : w.heap.size ≤ gb269)); have n3_ := aM ((by rw [hg]; exact (lZ (by repeat (first | (with_reducible first | exact HB.out | apply lA | apply lN | apply lW) | exact HB.out))) : w.heap.size ≤ gb269)); clear HB; have HB := n0_; have BK269 := n1_; have GW269 := n2_; have GE269 := n3_; clear n0_ n1_ n2_ n3_; clear hb hbox hg))
 have n0_ := aM (bW BK269.out)
 have n1_ := aM (lW HB.out)
 clear BK269
 clear HB
 have BK269 := n0_
 have HB := n1_
 clear n0_ n1_
 refine start_ (n := 5) (S := fun w' => w'.cell? ⟨gb269, 0, none⟩ = some (.int .i64 a0_0) ∧ w'.cell? ⟨gb269, 1, none⟩ = some (.int .i64 a0_1) ∧ w'.cell? ⟨gb269, 2, none⟩ = some (.bool a0_2) ∧ w'.cell? ⟨gb269, 3, none⟩ = some (.bool a0_3) ∧ w'.cell? ⟨gb269, 4, none⟩ = some (.int .i64 a0_4) ∧ w'.cell? ⟨gb269, 5, none⟩ = some (.int .i64 a0_5)) (ds := []) #[false, false, false, false, false] (by kernel_rfl) rfl rfl ⟨(bC BK269.out 0).trans rfl, (bC BK269.out 1).trans rfl, (bC BK269.out 2).trans rfl, (bC BK269.out 3).trans rfl, (bC BK269.out 4).trans rfl, (bC BK269.out 5).trans rfl⟩ (fun hHeld => ?_)
 generalize w2.drew = w3 at BK269 HB hHeld ⊢
 refine pure_ (i := 1) (N := some 7) (v := ?_) (a' := ?_) #[false, true, false, false, false] rfl rfl (by kernel_rfl) (fun _ _ _ h => h) (Or.inl ⟨by rfl, ?_⟩) ?_ ?_
 rotate_left
 ·intro w'
  go_simp
  with_reducible rfl
 rotate_left
 ·simp only [Act.put, sT, sZ, sS, i64_w, i32_w]
  rfl
 refine take_ (i := 2) (N := some 8) (v := ?_) (a' := ?_) #[false, true, true, false, false] rfl rfl (by kernel_rfl) (fun _ _ _ h => h) (Or.inl ⟨by rfl, ?_⟩) hHeld ?_ ?_
 rotate_left
 ·rintro w' ⟨s0, s1, s2, s3, s4, s5⟩
  go_simp
  with_reducible rfl
 rotate_left
 ·simp only [Act.put, sT, sZ, sS, i64_w, i32_w]
  rfl
 refine one_ (i := 0) (N := some 6) #[true, true, true, false, false] rfl rfl (by kernel_rfl) (by decide) (fun K hK => ?_)
 refine Kd.R_lit_step (Kd.int .i64) _ 3 ?hg (N := 6) ?hd (xs := ([] : List Int)) (inner := []) (ok := fun _ => True) (okp := fun _ => True) ?hr ?hp (fun _ hk => hk) trivial (Below.refl _ _) (Nat.le_refl _) (by simp) ?_; (case hd => rfl); (case hg => rfl); (case hr => first | (go_simp; done) | (go_simp; rfl)); (case hp => exact (Reps.none _ _))
 intro v271 w4 ho5 hb hg_ hnew_
 clear hg_ hnew_
 (first | rw [← Ny270.out] at ho5 | (simp only [Int.reduceToNat] at ho5; rw [← Ny270.out] at ho5))
 have n0_ := aM (Kd.R_lower ho5 (lZ (by repeat (first | (with_reducible first | exact HB.out | apply lA | apply lN | apply lW | refine lS ?_ GE269.out) | exact HB.out))))
 have n1_ := aM (blk_below (g := gb269) (o := .cells #[.int .i64 a0_0, .int .i64 a0_1, .bool a0_2, .bool a0_3, .int .i64 a0_4, .int .i64 a0_5] 23 (0, 0)) (by (with_reducible repeat (first | refine bN ?_ _ | refine bW ?_ | refine bA ?_ _)); exact BK269.out) hb)
 have n2_ := aM (lT (by repeat (first | (with_reducible first | exact HB.out | apply lA | apply lN | apply lW | refine lS ?_ GE269.out) | exact HB.out)) hb)
 clear BK269
 clear HB
 have HO272 := n0_
 have BK269 := n1_
 have HB := n2_
 clear n0_ n1_ n2_
 clear hb ho5
 refine hK.out _ _ ⟨(bC BK269.out 0).trans rfl, (bC BK269.out 1).trans rfl, (bC BK269.out 2).trans rfl, (bC BK269.out 3).trans rfl, (bC BK269.out 4).trans rfl, (bC BK269.out 5).trans rfl⟩ (fun hHeld => ?_)
 clear hK K
 refine norm_ (a' := ?_) ?_ ?_
 rotate_left
 ·show Act.put _ (some 6) _ = _
  simp only [Act.put, sT, sZ, sS, i64_w, i32_w]
  rfl
 refine pure_ (i := 3) (N := some 3) (v := ?_) (a' := ?_) #[true, true, true, true, false] rfl rfl (by kernel_rfl) (fun _ _ _ h => h) (Or.inl ⟨by rfl, ?_⟩) ?_ ?_
 rotate_left
 ·intro w'
  go_simp
  with_reducible rfl
 rotate_left
 ·simp only [Act.put, sT, sZ, sS, i64_w, i32_w]
  rfl
 refine pure_ (i := 4) (N := some 4) (v := ?_) (a' := ?_) #[true, true, true, true, true] rfl rfl (by kernel_rfl) (fun _ _ _ h => h) (Or.inl ⟨by rfl, ?_⟩) ?_ ?_
 rotate_left
 ·intro w'
  go_simp
  with_reducible rfl
 rotate_left
 ·simp only [Act.put, sT, sZ, sS, i64_w, i32_w]
  rfl
 refine done_ (by kernel_rfl) ?_
 try go_wp2
 go_loopg [3, 4, 5] k (fun kq v3 v4 v5 w' => ∃ (x3_1 : List Int) (x4_1 : Int) (x5_1 : Int), v4 = .int .i64 x4_1 ∧ v5 = .int .i64 x5_1 ∧ Aside0 (phaetonref15_all.l0 kq x3_1 x4_1 x5_1 a0_0 a0_1 a0_2 a0_3 a0_4 a0_5 = some r) ∧ Aside0 (kq ≤ k) ∧ Aside0 (Kd.R (Kd.int .i64) 3 w' w.heap.size (fun _ => True) v3 x3_1) ∧ Aside0 (w'.heap[gb269]? = some (.cells #[.int .i64 a0_0, .int .i64 a0_1, .bool a0_2, .bool a0_3, .int .i64 a0_4, .int .i64 a0_5] 23 (0, 0))) ∧ Aside0 (Below w.heap.size w w'))
 case atStart => exact ⟨(y270), (a0_0), (0), (by first | rfl | (simp; done) | (simp [*]; done)), (by first | rfl | (simp; done) | (simp [*]; done)), H', ⟨Nat.le_refl _⟩, ⟨by (with_reducible repeat (first | apply rA | apply rN | apply rW)); exact HO272.out⟩, ⟨by (with_reducible repeat (first | refine bN ?_ _ | refine bW ?_ | refine bA ?_ _)); exact BK269.out⟩, ⟨by repeat (first | (with_reducible first | exact HB.out | apply lA | apply lN | apply lW | refine lS ?_ GE269.out) | exact HB.out)⟩⟩
 case round =>
  clear H'
  try clear p2
  try clear c3
  obtain ⟨x3_1, x4_1, x5_1, rfl, rfl, HA, HK1, HO_3, BK269, HB⟩ := hrel
  cases gk with
  | zero => exact absurd HA.out (by simp [phaetonref15_all.l0])
  | succ k1 =>
   have H := HA.out
   clear HA
   simp only [phaetonref15_all.l0] at H
   have HC6 := aM H
   clear H
   go_upto_region 3 with (fail)
   go_cut [16] (fun v16 wc => ∃ (kq : Nat) (x16_5 : Bool), v16 = .bool x16_5 ∧ Aside0 (phaetonref15_all.j1 kq x3_1 x4_1 x5_1 x16_5 a0_0 a0_1 a0_2 a0_3 a0_4 a0_5 = some r) ∧ Aside0 (kq ≤ k1) ∧ Aside0 (Kd.R (Kd.int .i64) 3 wc w.heap.size (fun _ => True) u3 x3_1) ∧ Aside0 (wc.heap[gb269]? = some (.cells #[.int .i64 a0_0, .int .i64 a0_1, .bool a0_2, .bool a0_3, .int .i64 a0_4, .int .i64 a0_5] 23 (0, 0))) ∧ Aside0 (Below w.heap.size w wc))
   case first =>
    have H := HC6.out
    clear HC6
    by_cases c7 : x5_1 < a0_1
    ·rw [if_pos c7] at H
     have c7b0 : decide (x5_1 < a0_1) = true := decide_eq_true c7
     clear c7
     (first | rw [c7b0] | (simp only [i64_w, i32_w]; rw [c7b0]) | skip)
     have H' := aM H
     clear H
     have hcz8_0 : wr.cell? ⟨gb269, 0, none⟩ = some (.int .i64 a0_0) := (bC BK269.out 0).trans rfl
     have hcz8_1 : wr.cell? ⟨gb269, 1, none⟩ = some (.int .i64 a0_1) := (bC BK269.out 1).trans rfl
     have hcz8_2 : wr.cell? ⟨gb269, 2, none⟩ = some (.bool a0_2) := (bC BK269.out 2).trans rfl
     have hcz8_3 : wr.cell? ⟨gb269, 3, none⟩ = some (.bool a0_3) := (bC BK269.out 3).trans rfl
     have hcz8_4 : wr.cell? ⟨gb269, 4, none⟩ = some (.int .i64 a0_4) := (bC BK269.out 4).trans rfl
     have hcz8_5 : wr.cell? ⟨gb269, 5, none⟩ = some (.int .i64 a0_5) := (bC BK269.out 5).trans rfl
     have hfz8_0 := bF BK269.out 0
     have hfz8_1 := bF BK269.out 1
     have hfz8_2 := bF BK269.out 2
     have hfz8_3 := bF BK269.out 3
     have hfz8_4 := bF BK269.out 4
     have hfz8_5 := bF BK269.out 5
     go_wp2
     go_meet
     case rel => exact ⟨_, (decide (x5_1 < 33)), (by first | rfl | (simp; done) | (simp [*]; done)), H', ⟨by have := HK1.out; first | omega | exact Nat.le_refl _⟩, ⟨by (with_reducible repeat (first | apply rA | apply rN | apply rW)); exact HO_3.out⟩, ⟨by (with_reducible repeat (first | refine bN ?_ _ | refine bW ?_ | refine bA ?_ _)); exact BK269.out⟩, ⟨by repeat (first | (with_reducible first | exact HB.out | apply lA | apply lN | apply lW | refine lS ?_ GE269.out) | exact HB.out)⟩⟩
    ·rw [if_neg c7] at H
     have c7b0 : decide (x5_1 < a0_1) = false := decide_eq_false c7
     clear c7
     (first | rw [c7b0] | (simp only [i64_w, i32_w]; rw [c7b0]) | skip)
     have H' := aM H
     clear H
     have hcz9_0 : wr.cell? ⟨gb269, 0, none⟩ = some (.int .i64 a0_0) := (bC BK269.out 0).trans rfl
     have hcz9_1 : wr.cell? ⟨gb269, 1, none⟩ = some (.int .i64 a0_1) := (bC BK269.out 1).trans rfl
     have hcz9_2 : wr.cell? ⟨gb269, 2, none⟩ = some (.bool a0_2) := (bC BK269.out 2).trans rfl
     have hcz9_3 : wr.cell? ⟨gb269, 3, none⟩ = some (.bool a0_3) := (bC BK269.out 3).trans rfl
     have hcz9_4 : wr.cell? ⟨gb269, 4, none⟩ = some (.int .i64 a0_4) := (bC BK269.out 4).trans rfl
     have hcz9_5 : wr.cell? ⟨gb269, 5, none⟩ = some (.int .i64 a0_5) := (bC BK269.out 5).trans rfl
     have hfz9_0 := bF BK269.out 0
     have hfz9_1 := bF BK269.out 1
     have hfz9_2 := bF BK269.out 2
     have hfz9_3 := bF BK269.out 3
     have hfz9_4 := bF BK269.out 4
     have hfz9_5 := bF BK269.out 5
     go_wp2
     go_meet
     case rel => exact ⟨_, (false), (by first | rfl | (simp; done) | (simp [*]; done)), H', ⟨by have := HK1.out; first | omega | exact Nat.le_refl _⟩, ⟨by (with_reducible repeat (first | apply rA | apply rN | apply rW)); exact HO_3.out⟩, ⟨by (with_reducible repeat (first | refine bN ?_ _ | refine bW ?_ | refine bA ?_ _)); exact BK269.out⟩, ⟨by repeat (first | (with_reducible first | exact HB.out | apply lA | apply lN | apply lW | refine lS ?_ GE269.out) | exact HB.out)⟩⟩
   case rest =>
    clear HC6
    try clear p2
    try clear c3
    try clear c7
    try clear c7b0
    try clear hcz8_0
    try clear hcz8_1
    try clear hcz8_2
    try clear hcz8_3
    try clear hcz8_4
    try clear hcz8_5
    try clear hcz9_0
    try clear hcz9_1
    try clear hcz9_2
    try clear hcz9_3
    try clear hcz9_4
    try clear hcz9_5
    try clear hfz8_0
    try clear hfz8_1
    try clear hfz8_2
    try clear hfz8_3
    try clear hfz8_4
    try clear hfz8_5
    try clear hfz9_0
    try clear hfz9_1
    try clear hfz9_2
    try clear hfz9_3
    try clear hfz9_4
    try clear hfz9_5
    try clear p2
    obtain ⟨kq, x16_5, rfl, HA, HJ5, HO_3, BK269, HB⟩ := hcut
    cases kq with
    | zero => exact absurd HA.out (by simp [phaetonref15_all.j1])
    | succ kj5 =>
     have H := HA.out
     clear HA
     simp only [phaetonref15_all.j1] at H
     by_cases c10 : x16_5 = true
     ·subst c10
      have H1 : (if x3_1.length < 17592186044416 then ((some (x3_1 ++ [x4_1] : List Int)).bind fun y273 => (if a0_2 = true then (if (Int.tmod x4_1 8) > 0 then (phaetonref15_all.l0 kj5 y273 (wrap64 (x4_1 - 1)) (wrap64 (x5_1 + 1)) a0_0 a0_1 a0_2 a0_3 a0_4 a0_5) else (phaetonref15_all.l0 kj5 y273 (wrap64 (x4_1 + 15)) (wrap64 (x5_1 + 1)) a0_0 a0_1 a0_2 a0_3 a0_4 a0_5)) else (phaetonref15_all.l0 kj5 y273 (wrap64 (x4_1 + 1)) (wrap64 (x5_1 + 1)) a0_0 a0_1 a0_2 a0_3 a0_4 a0_5))) else (none)) = some r := by rw [if_pos rfl] at H; exact H
      clear H
      have H := H1
      clear H1
      by_cases c11 : x3_1.length < 17592186044416
      ·rw [if_pos c11] at H
       have LMc11 := aM c11
       clear c11
       obtain ⟨y273, hy273⟩ : ∃ y_ : List Int, y_ = (x3_1 ++ [x4_1]) := ⟨_, rfl⟩
       replace H : (if a0_2 = true then (if (Int.tmod x4_1 8) > 0 then (phaetonref15_all.l0 kj5 y273 (wrap64 (x4_1 - 1)) (wrap64 (x5_1 + 1)) a0_0 a0_1 a0_2 a0_3 a0_4 a0_5) else (phaetonref15_all.l0 kj5 y273 (wrap64 (x4_1 + 15)) (wrap64 (x5_1 + 1)) a0_0 a0_1 a0_2 a0_3 a0_4 a0_5)) else (phaetonref15_all.l0 kj5 y273 (wrap64 (x4_1 + 1)) (wrap64 (x5_1 + 1)) a0_0 a0_1 a0_2 a0_3 a0_4 a0_5)) = some r := by first | (rw [hy273]; with_reducible exact H) | (have H2_ := (Option.bind_some _ _).symm.trans H; rw [hy273]; with_reducible exact H2_) | (have H2_ := (Option.bind_some _ _).symm.trans H; with_reducible exact H2_) | with_reducible exact H | (rw [hy273]; exact H) | exact H
       have Ny273 := aM hy273
       clear hy273
       by_cases c12 : a0_2 = true
       ·subst c12
        have H1 : (if (Int.tmod x4_1 8) > 0 then (phaetonref15_all.l0 kj5 y273 (wrap64 (x4_1 - 1)) (wrap64 (x5_1 + 1)) a0_0 a0_1 true a0_3 a0_4 a0_5) else (phaetonref15_all.l0 kj5 y273 (wrap64 (x4_1 + 15)) (wrap64 (x5_1 + 1)) a0_0 a0_1 true a0_3 a0_4 a0_5)) = some r := by rw [if_pos rfl] at H; exact H
        clear H
        have H := H1
        clear H1
        by_cases c13 : (Int.tmod x4_1 8) > 0
        ·rw [if_pos c13] at H
         have c13b0 : decide (0 < (Int.tmod x4_1 8)) = true := decide_eq_true c13
         clear c13
         have H' := aM H
         clear H
         go_wp2_with (first | ((with_reducible refine gate_builtin (b := .append) (xs := #[.tmp 19, .tmp 21]) rfl ?_); at_builtin; refine Kd.R_append (Kd.int .i64) (w0 := w) w.heap.size rfl (.tmp 19) (.tmp 21) 32 3 (.int .i64 0) 8 rfl Try.underlying32 info3 rfl (by decide) (by omega) u3 x3_1 x4_1 [.int .i64 x4_1] (fun _ => True) (fun _ => False) rfl rfl ?aP (fun _ hk => hk.elim) ?aF ?aO ?aB ?aS ?aL ?_; (case aP => exact rfl); (case aB => exact (by repeat (first | (with_reducible first | exact HB.out | apply lA | apply lN | apply lW | refine lS ?_ GE269.out) | exact HB.out))); (case aF => exact (fun _ _ => trivial)); (case aO => exact (by (with_reducible repeat (first | apply rA | apply rN | apply rW)); exact HO_3.out)); (case aS => exact (lZ (by repeat (first | (with_reducible first | exact HB.out | apply lA | apply lN | apply lW | refine lS ?_ GE269.out) | exact HB.out)))); (case aL => have := LMc11.out; omega); intro v274 w14 ho hb hg hat; rw [← Ny273.out] at ho; have n0_ := aM (blk_grown (g := gb269) (o := .cells #[.int .i64 a0_0, .int .i64 a0_1, .bool true, .bool a0_3, .int .i64 a0_4, .int .i64 a0_5] 23 (0, 0)) (by (with_reducible repeat (first | refine bN ?_ _ | refine bW ?_ | refine bA ?_ _)); exact BK269.out) hg (Kd.R_ne HO_3.out BK269.out (by decide))); have n1_ := aM (hb); have n2_ := aM (ho); clear BK269; clear HB; clear HO_3; have BK269 := n0_; have HB := n1_; have HO275 := n2_; clear n0_ n1_ n2_; clear ho hb hg hat; have hcz15_0 : w14.cell? ⟨gb269, 0, none⟩ = some (.int .i64 a0_0) := (bC BK269.out 0).trans rfl; have hcz15_1 : w14.cell? ⟨gb269, 1, none⟩ = some (.int .i64 a0_1) := (bC BK269.out 1).trans rfl; have hcz15_2 : w14.cell? ⟨gb269, 2, none⟩ = some (.bool true) := (bC BK269.out 2).trans rfl; have hcz15_3 : w14.cell? ⟨gb269, 3, none⟩ = some (.bool a0_3) := (bC BK269.out 3).trans rfl; have hcz15_4 : w14.cell? ⟨gb269, 4, none⟩ = some (.int .i64 a0_4) := (bC BK269.out 4).trans rfl; have hcz15_5 : w14.cell? ⟨gb269, 5, none⟩ = some (.int .i64 a0_5) := (bC BK269.out 5).trans rfl; have hfz15_0 := bF BK269.out 0; have hfz15_1 := bF BK269.out 1; have hfz15_2 := bF BK269.out 2; have hfz15_3 := bF BK269.out 3; have hfz15_4 := bF BK269.out 4; have hfz15_5 := bF BK269.out 5))
         go_roundg kj5
         case measure => have := HK1.out; have := HJ5.out; omega
         case rel => exact ⟨(y273), (wrap64 (x4_1 - 1)), (wrap64 (x5_1 + 1)), (by first | rfl | (simp; done) | (simp [*]; done)), (by first | rfl | (simp; done) | (simp [*]; done)), H', ⟨by have := HK1.out; have := HJ5.out; omega⟩, ⟨by (with_reducible repeat (first | apply rA | apply rN | apply rW)); exact HO275.out⟩, ⟨by (with_reducible repeat (first | refine bN ?_ _ | refine bW ?_ | refine bA ?_ _)); exact BK269.out⟩, ⟨by repeat (first | (with_reducible first | exact HB.out | apply lA | apply lN | apply lW | refine lS ?_ GE269.out) | exact HB.out)⟩⟩
        ·rw [if_neg c13] at H
         have c13b0 : decide (0 < (Int.tmod x4_1 8)) = false := decide_eq_false c13
         clear c13
         have H' := aM H
         clear H
         go_wp2_with (first | ((with_reducible refine gate_builtin (b := .append) (xs := #[.tmp 19, .tmp 21]) rfl ?_); at_builtin; refine Kd.R_append (Kd.int .i64) (w0 := w) w.heap.size rfl (.tmp 19) (.tmp 21) 32 3 (.int .i64 0) 8 rfl Try.underlying32 info3 rfl (by decide) (by omega) u3 x3_1 x4_1 [.int .i64 x4_1] (fun _ => True) (fun _ => False) rfl rfl ?aP (fun _ hk => hk.elim) ?aF ?aO ?aB ?aS ?aL ?_; (case aP => exact rfl); (case aB => exact (by repeat (first | (with_reducible first | exact HB.out | apply lA | apply lN | apply lW | refine lS ?_ GE269.out) | exact HB.out))); (case aF => exact (fun _ _ => trivial)); (case aO => exact (by (with_reducible repeat (first | apply rA | apply rN | apply rW)); exact HO_3.out)); (case aS => exact (lZ (by repeat (first | (with_reducible first | exact HB.out | apply lA | apply lN | apply lW | refine lS ?_ GE269.out) | exact HB.out)))); (case aL => have := LMc11.out; omega); intro v274 w16 ho hb hg hat; rw [← Ny273.out] at ho; have n0_ := aM (blk_grown (g := gb269) (o := .cells #[.int .i64 a0_0, .int .i64 a0_1, .bool true, .bool a0_3, .int .i64 a0_4, .int .i64 a0_5] 23 (0, 0)) (by (with_reducible repeat (first | refine bN ?_ _ | refine bW ?_ | refine bA ?_ _)); exact BK269.out) hg (Kd.R_ne HO_3.out BK269.out (by decide))); have n1_ := aM (hb); have n2_ := aM (ho); clear BK269; clear HB; clear HO_3; have BK269 := n0_; have HB := n1_; have HO275 := n2_; clear n0_ n1_ n2_; clear ho hb hg hat; have hcz17_0 : w16.cell? ⟨gb269, 0, none⟩ = some (.int .i64 a0_0) := (bC BK269.out 0).trans rfl; have hcz17_1 : w16.cell? ⟨gb269, 1, none⟩ = some (.int .i64 a0_1) := (bC BK269.out 1).trans rfl; have hcz17_2 : w16.cell? ⟨gb269, 2, none⟩ = some (.bool true) := (bC BK269.out 2).trans rfl; have hcz17_3 : w16.cell? ⟨gb269, 3, none⟩ = some (.bool a0_3) := (bC BK269.out 3).trans rfl; have hcz17_4 : w16.cell? ⟨gb269, 4, none⟩ = some (.int .i64 a0_4) := (bC BK269.out 4).trans rfl; have hcz17_5 : w16.cell? ⟨gb269, 5, none⟩ = some (.int .i64 a0_5) := (bC BK269.out 5).trans rfl; have hfz17_0 := bF BK269.out 0; have hfz17_1 := bF BK269.out 1; have hfz17_2 := bF BK269.out 2; have hfz17_3 := bF BK269.out 3; have hfz17_4 := bF BK269.out 4; have hfz17_5 := bF BK269.out 5))
         go_roundg kj5
         case measure => have := HK1.out; have := HJ5.out; omega
         case rel => exact ⟨(y273), (wrap64 (x4_1 + 15)), (wrap64 (x5_1 + 1)), (by first | rfl | (simp; done) | (simp [*]; done)), (by first | rfl | (simp; done) | (simp [*]; done)), H', ⟨by have := HK1.out; have := HJ5.out; omega⟩, ⟨by (with_reducible repeat (first | apply rA | apply rN | apply rW)); exact HO275.out⟩, ⟨by (with_reducible repeat (first | refine bN ?_ _ | refine bW ?_ | refine bA ?_ _)); exact BK269.out⟩, ⟨by repeat (first | (with_reducible first | exact HB.out | apply lA | apply lN | apply lW | refine lS ?_ GE269.out) | exact HB.out)⟩⟩
       ·replace c12 := Bool.eq_false_iff.mpr c12
        subst c12
        have H1 : (phaetonref15_all.l0 kj5 y273 (wrap64 (x4_1 + 1)) (wrap64 (x5_1 + 1)) a0_0 a0_1 false a0_3 a0_4 a0_5) = some r := by rw [if_neg (show ¬ (false = true) by decide)] at H; exact H
        clear H
        have H := H1
        clear H1
        have H' := aM H
        clear H
        go_wp2_with (first | ((with_reducible refine gate_builtin (b := .append) (xs := #[.tmp 19, .tmp 21]) rfl ?_); at_builtin; refine Kd.R_append (Kd.int .i64) (w0 := w) w.heap.size rfl (.tmp 19) (.tmp 21) 32 3 (.int .i64 0) 8 rfl Try.underlying32 info3 rfl (by decide) (by omega) u3 x3_1 x4_1 [.int .i64 x4_1] (fun _ => True) (fun _ => False) rfl rfl ?aP (fun _ hk => hk.elim) ?aF ?aO ?aB ?aS ?aL ?_; (case aP => exact rfl); (case aB => exact (by repeat (first | (with_reducible first | exact HB.out | apply lA | apply lN | apply lW | refine lS ?_ GE269.out) | exact HB.out))); (case aF => exact (fun _ _ => trivial)); (case aO => exact (by (with_reducible repeat (first | apply rA | apply rN | apply rW)); exact HO_3.out)); (case aS => exact (lZ (by repeat (first | (with_reducible first | exact HB.out | apply lA | apply lN | apply lW | refine lS ?_ GE269.out) | exact HB.out)))); (case aL => have := LMc11.out; omega); intro v274 w18 ho hb hg hat; rw [← Ny273.out] at ho; have n0_ := aM (blk_grown (g := gb269) (o := .cells #[.int .i64 a0_0, .int .i64 a0_1, .bool false, .bool a0_3, .int .i64 a0_4, .int .i64 a0_5] 23 (0, 0)) (by (with_reducible repeat (first | refine bN ?_ _ | refine bW ?_ | refine bA ?_ _)); exact BK269.out) hg (Kd.R_ne HO_3.out BK269.out (by decide))); have n1_ := aM (hb); have n2_ := aM (ho); clear BK269; clear HB; clear HO_3; have BK269 := n0_; have HB := n1_; have HO275 := n2_; clear n0_ n1_ n2_; clear ho hb hg hat; have hcz19_0 : w18.cell? ⟨gb269, 0, none⟩ = some (.int .i64 a0_0) := (bC BK269.out 0).trans rfl; have hcz19_1 : w18.cell? ⟨gb269, 1, none⟩ = some (.int .i64 a0_1) := (bC BK269.out 1).trans rfl; have hcz19_2 : w18.cell? ⟨gb269, 2, none⟩ = some (.bool false) := (bC BK269.out 2).trans rfl; have hcz19_3 : w18.cell? ⟨gb269, 3, none⟩ = some (.bool a0_3) := (bC BK269.out 3).trans rfl; have hcz19_4 : w18.cell? ⟨gb269, 4, none⟩ = some (.int .i64 a0_4) := (bC BK269.out 4).trans rfl; have hcz19_5 : w18.cell? ⟨gb269, 5, none⟩ = some (.int .i64 a0_5) := (bC BK269.out 5).trans rfl; have hfz19_0 := bF BK269.out 0; have hfz19_1 := bF BK269.out 1; have hfz19_2 := bF BK269.out 2; have hfz19_3 := bF BK269.out 3; have hfz19_4 := bF BK269.out 4; have hfz19_5 := bF BK269.out 5))
        go_roundg kj5
        case measure => have := HK1.out; have := HJ5.out; omega
        case rel => exact ⟨(y273), (wrap64 (x4_1 + 1)), (wrap64 (x5_1 + 1)), (by first | rfl | (simp; done) | (simp [*]; done)), (by first | rfl | (simp; done) | (simp [*]; done)), H', ⟨by have := HK1.out; have := HJ5.out; omega⟩, ⟨by (with_reducible repeat (first | apply rA | apply rN | apply rW)); exact HO275.out⟩, ⟨by (with_reducible repeat (first | refine bN ?_ _ | refine bW ?_ | refine bA ?_ _)); exact BK269.out⟩, ⟨by repeat (first | (with_reducible first | exact HB.out | apply lA | apply lN | apply lW | refine lS ?_ GE269.out) | exact HB.out)⟩⟩
      ·rw [if_neg c11] at H
       exact absurd H (by simp)
     ·replace c10 := Bool.eq_false_iff.mpr c10
      subst c10
      have H1 : (some x3_1) = some r := by rw [if_neg (show ¬ (false = true) by decide)] at H; exact H
      clear H
      have H := H1
      clear H1
      obtain rfl := Option.some.inj H
      go_wp2
      go_ret
      exact ⟨_, by first | rfl | (simp [errW_none, errW_some] <;> rfl) | (simp [*, errW_none, errW_some] <;> rfl), by (with_reducible repeat (first | apply rA | apply rN | apply rW)); exact HO_3.out, by repeat (first | (with_reducible first | exact HB.out | apply lA | apply lN | apply lW | refine lS ?_ GE269.out) | exact HB.out)⟩

end Go.Proofs.Ytcgkkjimonfhbaa.P

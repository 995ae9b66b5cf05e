/-
  phaetonref06.Made by hand: a frame made right. Conditions: the frame reads.
-/
import Derived.Test.YtpcabeefahldlaaPx5
namespace Go.Proofs.Ytpcabeefahldlaa.P
open Go.RowKit Go.Proofs.YtpcabeefahldlaaW.PrintWords Go.Proofs.YtpcabeefahldlaaW.PrintLast Go.Proofs.YtpcabeefahldlaaW.PrintMore
attribute [local go_sem] max2_int min2_int max_two min_two
set_option linter.unusedVariables false
set_option linter.unusedSimpArgs false

def phaetonref06_Made.f (a0_0 : Bool) (a0_1 : Int) (a0_2 : Bool) (a0_3 : Int) (l0_4 : List Int) : Option (Bool × Int × Bool × Int × List Int) :=
  some (a0_0, Go.bits .and .i64 a0_1 (if a0_0 = true then 536870911 else 2047), a0_2, if a0_2 = true then mn (Go.bits .and .i64 a0_3 15) 8 else ((l0_4.take 8).length : Int), if a0_2 = true then [] else l0_4.take 8)
theorem infoM5 : (Try.prog.info? 5).map (fun i => (i.zero, i.size, i.bytes)) = some (some (.int .u8 0), 1, 1) := by kernel_rfl
theorem mk_b0 (w : World) (o0 o1 o2 : Obj) : (((w.alloc o0).alloc o1).alloc o2).heap[w.heap.size]? = some o0 := blk_alloc (blk_alloc (blk_new _ _) _) _
theorem mk_b1 (w : World) (o0 o1 o2 : Obj) : (((w.alloc o0).alloc o1).alloc o2).heap[w.heap.size + 1]? = some o1 := by
  have h : (((w.alloc o0).alloc o1).heap[(w.alloc o0).heap.size]?) = some o1 := blk_new _ _
  rw [show (w.alloc o0).heap.size = w.heap.size + 1 by simp] at h
  exact blk_alloc h _
theorem mk_b2 (w : World) (o0 o1 o2 : Obj) : (((w.alloc o0).alloc o1).alloc o2).heap[w.heap.size + 1 + 1]? = some o2 := by
  have h : ((((w.alloc o0).alloc o1).alloc o2).heap[((w.alloc o0).alloc o1).heap.size]?) = some o2 := blk_new _ _
  rw [show ((w.alloc o0).alloc o1).heap.size = w.heap.size + 1 + 1 by simp] at h
  exact h
theorem mk_below (w : World) (o0 o1 o2 : Obj) : Below w.heap.size w (((w.alloc o0).alloc o1).alloc o2) := below_alloc (below_alloc (below_alloc (Below.refl _ w) _) _) _

theorem made_true_r (a1 a3 : Int) (A : Option Addr) (c : Nat) (l : List Int) (w : World) :
    Calls Try.prog 11 #[.agg #[.bool true, .int .i64 a1, .bool true, .int .i64 a3, .slice A l.length c]] w fun e w' => ∃ v4_ : Value, e = .returned (.agg #[.bool true, .int .i64 (Go.bits .and .i64 a1 536870911), .bool true, .int .i64 (mn (Go.bits .and .i64 a3 15) 8), v4_]) ∧ Kd.R (Kd.int .u8) 5 w' w.heap.size (fun _ => True) v4_ [] ∧ Below w.heap.size w w' := by
  have hu25 := Try.underlying25
  obtain ⟨j, hj⟩ : ∃ j : Int, mn (Go.bits .and .i64 a3 15) 8 = j := ⟨_, rfl⟩
  rw [hj]
  have hj_ : (if 8 < (Go.bits .and .i64 a3 15) then 8 else (Go.bits .and .i64 a3 15)) = j := hj
  clear hj
  go_enter Try.func11, Try.ntmps11
  go_wp2
  refine bodyPost_ret (results_cell_row rfl _ _ (w.heap.size + 1) 25 #[.bool true, .int .i64 (Go.bits .and .i64 a1 536870911), .bool true, .int .i64 j, .slice none 0 0] (0, 0) _ rfl ?blk Try.underlying25 rfl (by kernel_rfl)) rfl ?_
  case blk => exact mk_b1 w _ _ _
  exact ⟨_, rfl, Kd.R_nil _ _ _ _ _, mk_below w _ _ _⟩

theorem made_true_d (a1 a3 : Int) (A : Option Addr) (c : Nat) (l : List Int) (w : World) (hr : Kd.C (Kd.int .u8) w A l.length l) (hc : l.length ≤ c) :
    Calls Try.prog 11 #[.agg #[.bool true, .int .i64 a1, .bool false, .int .i64 a3, .slice A l.length c]] w fun e w' => ∃ v4_ : Value, e = .returned (.agg #[.bool true, .int .i64 (Go.bits .and .i64 a1 536870911), .bool false, .int .i64 ((l.take 8).length : Int), v4_]) ∧ Kd.R (Kd.int .u8) 5 w' w.heap.size (fun _ => True) v4_ (l.take 8) ∧ Below w.heap.size w w' := by
  have hu25 := Try.underlying25
  have HR := Aside0.mk hr
  have HC := Aside0.mk hc
  clear hr hc
  obtain ⟨j, hj⟩ : ∃ j : Int, mn (Go.bits .and .i64 a3 15) 8 = j := ⟨_, rfl⟩
  have hj_ : (if 8 < (Go.bits .and .i64 a3 15) then 8 else (Go.bits .and .i64 a3 15)) = j := hj
  clear hj
  obtain ⟨n, hn⟩ : ∃ n : Int, mn (l.length : Int) 8 = n := ⟨_, rfl⟩
  have hn_ : (if 8 < (l.length : Int) then 8 else (l.length : Int)) = n := hn
  have N0 : 0 ≤ n := by rw [← hn]; unfold mn; split <;> omega
  have N1 : n ≤ (l.length : Int) := by rw [← hn]; unfold mn; split <;> omega
  have N8 : n ≤ 8 := by rw [← hn]; unfold mn; split <;> omega
  have e8 : l.take 8 = l.take n.toNat := by
    rw [← hn]
    unfold mn
    split
    · rfl
    · rw [List.take_of_length_le (by omega), List.take_of_length_le (by omega)]
  have hd0 : decide (0 ≤ n) = true := decide_eq_true N0
  have hd1 : decide (n ≤ (l.length : Int)) = true := decide_eq_true N1
  rw [e8]
  have HN0 := Aside0.mk N0
  have HN1 := Aside0.mk N1
  have HN8 := Aside0.mk N8
  clear hn e8 N0 N1 N8
  go_enter Try.func11, Try.ntmps11
  go_wp2_with (first | ((with_reducible refine gate_dst (N := 25) rfl ?_); refine Kd.R_lit (Kd.int .u8) _ 5 ?hg (N := 25) ?hd (xs := ([] : List Int)) (inner := []) (ok := fun _ => True) (okp := fun _ => True) ?hr ?hp (fun _ hk => hk) trivial (Below.refl _ _) (Nat.le_refl _) (by simp) ?_; (case hd => rfl); (case hg => rfl); (case hr => first | (go_simp; done) | (go_simp; rfl)); (case hp => exact (Reps.none _ _)); intro v1 w1 ho hb hg_ hnew_; clear hg_ hnew_; have HO := Aside0.mk (Kd.R_lower ho (by simp; omega : w.heap.size ≤ _)); have BK0 := Aside0.mk (blk_below (mk_b0 w (.cells #[.bool true, .int .i64 a1, .bool false, .int .i64 a3, .slice A l.length c] 25) (.cells #[.bool false, .int .i64 0, .bool false, .int .i64 0, .slice none 0 0] 25) (.cells #[.bool true, .int .i64 (Go.bits .and .i64 a1 536870911), .bool false, .int .i64 j, .slice none 0 0] 25)) hb); have BK1 := Aside0.mk (blk_below (mk_b1 w (.cells #[.bool true, .int .i64 a1, .bool false, .int .i64 a3, .slice A l.length c] 25) (.cells #[.bool false, .int .i64 0, .bool false, .int .i64 0, .slice none 0 0] 25) (.cells #[.bool true, .int .i64 (Go.bits .and .i64 a1 536870911), .bool false, .int .i64 j, .slice none 0 0] 25)) hb); have BK2 := Aside0.mk (blk_below (mk_b2 w (.cells #[.bool true, .int .i64 a1, .bool false, .int .i64 a3, .slice A l.length c] 25) (.cells #[.bool false, .int .i64 0, .bool false, .int .i64 0, .slice none 0 0] 25) (.cells #[.bool true, .int .i64 (Go.bits .and .i64 a1 536870911), .bool false, .int .i64 j, .slice none 0 0] 25)) hb); have HB := Aside0.mk (below_step (mk_below w _ _ _) hb); clear hb ho; have z4 : w1.cell? ⟨w.heap.size, 4, none⟩ = some (.slice A l.length c) := (blk_cell BK0.out 4).trans rfl; obtain ⟨i031, hi031, _, hsz31, _⟩ := info_parts infoM5; obtain ⟨hcut31, hA31, hC31⟩ := print_take_of (P := Try.prog) (Value.int .u8) 0 23 5 .i64 Try.underlying23 hi031 hsz31 A c l n HN0.out HN1.out HC.out; have HR1 := Aside0.mk (Kd.C_of_reads (h1 := fun _ => rfl) (hA31 _ (Kd.reads_of_C HR.out))); clear hA31 hC31 hi031 hsz31) | ((with_reducible refine gate_builtin (b := .append) (xs := #[.tmp 25, .tmp 32]) rfl ?_); at_builtin; refine Kd.R_append_rows (Kd.int .u8) (w0 := w) w.heap.size rfl (.tmp 25) (.tmp 32) 23 5 (.int .u8 0) 1 rfl Try.underlying23 infoM5 rfl (by decide) (by omega) v1 [] (l.take n.toNat) _ _ _ (fun _ => True) (fun _ => False) rfl rfl ?aO ?aR (fun _ _ h => h) (fun _ h => h.elim) ?aF ?aB ?aS ?aL ?_; (case aR => rw [show min n.toNat l.length = (l.take n.toNat).length from (by rw [List.length_take])]; exact (Kd.C_below HR1.out HB.out)); (case aB => exact HB.out); (case aF => exact (fun _ _ => trivial)); (case aO => exact HO.out); (case aS => exact HB.out.size); (case aL => have h0_ := HN0.out; have h1_ := HN1.out; have h2_ := HN8.out; simp; omega); intro v2 w2 ho hb hg hat; rw [List.nil_append] at ho; have n1_ := Aside0.mk (blk_grown BK1.out hg (Kd.R_ne HO.out BK1.out (by decide))); have n2_ := Aside0.mk (blk_grown BK2.out hg (Kd.R_ne HO.out BK2.out (by decide))); clear BK0 BK1 BK2 HO HB; have BK1 := n1_; have BK2 := n2_; have HB := Aside0.mk hb; have HO := Aside0.mk ho; clear n1_ n2_ ho hb hg hat; obtain ⟨Ao, co, eo⟩ := Kd.R_slice HO.out; subst eo; have y0 : w2.cell? ⟨w.heap.size + 1 + 1, 0, none⟩ = some (.bool true) := (blk_cell BK2.out 0).trans rfl; have y1 : w2.cell? ⟨w.heap.size + 1 + 1, 1, none⟩ = some (.int .i64 (Go.bits .and .i64 a1 536870911)) := (blk_cell BK2.out 1).trans rfl; have y2 : w2.cell? ⟨w.heap.size + 1 + 1, 2, none⟩ = some (.bool false) := (blk_cell BK2.out 2).trans rfl; have y3 : w2.cell? ⟨w.heap.size + 1 + 1, 3, none⟩ = some (.int .i64 j) := (blk_cell BK2.out 3).trans rfl; have y4 : w2.cell? ⟨w.heap.size + 1 + 1, 4, none⟩ = some (.slice none 0 0) := (blk_cell BK2.out 4).trans rfl; have f0 := blk_frozen BK2.out 0; have f1 := blk_frozen BK2.out 1; have f2 := blk_frozen BK2.out 2; have f3 := blk_frozen BK2.out 3; have f4 := blk_frozen BK2.out 4; have x0 : w2.cell? ⟨w.heap.size + 1, 0, none⟩ = some (.bool false) := (blk_cell BK1.out 0).trans rfl; have x1 : w2.cell? ⟨w.heap.size + 1, 1, none⟩ = some (.int .i64 0) := (blk_cell BK1.out 1).trans rfl; have x2 : w2.cell? ⟨w.heap.size + 1, 2, none⟩ = some (.bool false) := (blk_cell BK1.out 2).trans rfl; have x3 : w2.cell? ⟨w.heap.size + 1, 3, none⟩ = some (.int .i64 0) := (blk_cell BK1.out 3).trans rfl; have x4 : w2.cell? ⟨w.heap.size + 1, 4, none⟩ = some (.slice none 0 0) := (blk_cell BK1.out 4).trans rfl; have g0 := blk_frozen BK1.out 0; have g1 := blk_frozen BK1.out 1; have g2 := blk_frozen BK1.out 2; have g3 := blk_frozen BK1.out 3; have g4 := blk_frozen BK1.out 4))
  have NE : w.heap.size + 1 ≠ w.heap.size + 1 + 1 := by omega
  have HO' := HO.out
  rw [List.length_take] at HO'
  refine bodyPost_ret (results_cell_row rfl _ _ (w.heap.size + 1) 25 #[.bool true, .int .i64 (Go.bits .and .i64 a1 536870911), .bool false, .int .i64 ((min n.toNat l.length : Nat) : Int), .slice Ao (min n.toNat l.length) co] (0, 0) _ rfl ?blk Try.underlying25 rfl (by kernel_rfl)) rfl ?_
  case blk =>
    refine blk_put (cs := #[.bool true, .int .i64 (Go.bits .and .i64 a1 536870911), .bool false, .int .i64 ((min n.toNat l.length : Nat) : Int), .slice none 0 0]) ?_ 4 _ rfl
    refine blk_put (cs := #[.bool true, .int .i64 (Go.bits .and .i64 a1 536870911), .bool false, .int .i64 0, .slice none 0 0]) ?_ 3 _ rfl
    refine blk_put (cs := #[.bool true, .int .i64 (Go.bits .and .i64 a1 536870911), .bool false, .int .i64 0, .slice none 0 0]) ?_ 2 _ rfl
    refine blk_put (cs := #[.bool true, .int .i64 0, .bool false, .int .i64 0, .slice none 0 0]) ?_ 1 _ rfl
    refine blk_put (cs := #[.bool false, .int .i64 0, .bool false, .int .i64 0, .slice none 0 0]) ?_ 0 _ rfl
    refine blk_far ?_ NE _
    refine blk_far ?_ NE _
    exact BK1.out
  refine ⟨_, by rw [List.length_take], ?_, below_set (below_set (below_set (below_set (below_set (below_set (below_set HB.out (by omega)) (by omega)) (by omega)) (by omega)) (by omega)) (by omega)) (by omega)⟩
  exact Kd.R_mono (Kd.R_far (p := ⟨w.heap.size + 1, 4, none⟩) (Kd.R_far (p := ⟨w.heap.size + 1, 3, none⟩) (Kd.R_far (p := ⟨w.heap.size + 1, 2, none⟩) (Kd.R_far (p := ⟨w.heap.size + 1, 1, none⟩) (Kd.R_far (p := ⟨w.heap.size + 1, 0, none⟩) (Kd.R_far (p := ⟨w.heap.size + 1 + 1, 3, none⟩) (Kd.R_far (p := ⟨w.heap.size + 1 + 1, 4, none⟩) (Kd.R_types (Kd.R_types HO' BK2.out (by decide)) BK1.out (by decide)) (fun _ hk => hk.1.2) _) (fun _ hk => hk.1.2) _) (fun _ hk => hk.2) _) (fun _ hk => hk.2) _) (fun _ hk => hk.2) _) (fun _ hk => hk.2) _) (fun _ hk => hk.2) _) (fun _ hk => trivial)

theorem made_false_r (a1 a3 : Int) (A : Option Addr) (c : Nat) (l : List Int) (w : World) :
    Calls Try.prog 11 #[.agg #[.bool false, .int .i64 a1, .bool true, .int .i64 a3, .slice A l.length c]] w fun e w' => ∃ v4_ : Value, e = .returned (.agg #[.bool false, .int .i64 (Go.bits .and .i64 a1 2047), .bool true, .int .i64 (mn (Go.bits .and .i64 a3 15) 8), v4_]) ∧ Kd.R (Kd.int .u8) 5 w' w.heap.size (fun _ => True) v4_ [] ∧ Below w.heap.size w w' := by
  have hu25 := Try.underlying25
  obtain ⟨j, hj⟩ : ∃ j : Int, mn (Go.bits .and .i64 a3 15) 8 = j := ⟨_, rfl⟩
  rw [hj]
  have hj_ : (if 8 < (Go.bits .and .i64 a3 15) then 8 else (Go.bits .and .i64 a3 15)) = j := hj
  clear hj
  go_enter Try.func11, Try.ntmps11
  go_wp2
  refine bodyPost_ret (results_cell_row rfl _ _ (w.heap.size + 1) 25 #[.bool false, .int .i64 (Go.bits .and .i64 a1 2047), .bool true, .int .i64 j, .slice none 0 0] (0, 0) _ rfl ?blk Try.underlying25 rfl (by kernel_rfl)) rfl ?_
  case blk => exact mk_b1 w _ _ _
  exact ⟨_, rfl, Kd.R_nil _ _ _ _ _, mk_below w _ _ _⟩

theorem made_false_d (a1 a3 : Int) (A : Option Addr) (c : Nat) (l : List Int) (w : World) (hr : Kd.C (Kd.int .u8) w A l.length l) (hc : l.length ≤ c) :
    Calls Try.prog 11 #[.agg #[.bool false, .int .i64 a1, .bool false, .int .i64 a3, .slice A l.length c]] w fun e w' => ∃ v4_ : Value, e = .returned (.agg #[.bool false, .int .i64 (Go.bits .and .i64 a1 2047), .bool false, .int .i64 ((l.take 8).length : Int), v4_]) ∧ Kd.R (Kd.int .u8) 5 w' w.heap.size (fun _ => True) v4_ (l.take 8) ∧ Below w.heap.size w w' := by
  have hu25 := Try.underlying25
  have HR := Aside0.mk hr
  have HC := Aside0.mk hc
  clear hr hc
  obtain ⟨j, hj⟩ : ∃ j : Int, mn (Go.bits .and .i64 a3 15) 8 = j := ⟨_, rfl⟩
  have hj_ : (if 8 < (Go.bits .and .i64 a3 15) then 8 else (Go.bits .and .i64 a3 15)) = j := hj
  clear hj
  obtain ⟨n, hn⟩ : ∃ n : Int, mn (l.length : Int) 8 = n := ⟨_, rfl⟩
  have hn_ : (if 8 < (l.length : Int) then 8 else (l.length : Int)) = n := hn
  have N0 : 0 ≤ n := by rw [← hn]; unfold mn; split <;> omega
  have N1 : n ≤ (l.length : Int) := by rw [← hn]; unfold mn; split <;> omega
  have N8 : n ≤ 8 := by rw [← hn]; unfold mn; split <;> omega
  have e8 : l.take 8 = l.take n.toNat := by
    rw [← hn]
    unfold mn
    split
    · rfl
    · rw [List.take_of_length_le (by omega), List.take_of_length_le (by omega)]
  have hd0 : decide (0 ≤ n) = true := decide_eq_true N0
  have hd1 : decide (n ≤ (l.length : Int)) = true := decide_eq_true N1
  rw [e8]
  have HN0 := Aside0.mk N0
  have HN1 := Aside0.mk N1
  have HN8 := Aside0.mk N8
  clear hn e8 N0 N1 N8
  go_enter Try.func11, Try.ntmps11
  go_wp2_with (first | ((with_reducible refine gate_dst (N := 25) rfl ?_); refine Kd.R_lit (Kd.int .u8) _ 5 ?hg (N := 25) ?hd (xs := ([] : List Int)) (inner := []) (ok := fun _ => True) (okp := fun _ => True) ?hr ?hp (fun _ hk => hk) trivial (Below.refl _ _) (Nat.le_refl _) (by simp) ?_; (case hd => rfl); (case hg => rfl); (case hr => first | (go_simp; done) | (go_simp; rfl)); (case hp => exact (Reps.none _ _)); intro v1 w1 ho hb hg_ hnew_; clear hg_ hnew_; have HO := Aside0.mk (Kd.R_lower ho (by simp; omega : w.heap.size ≤ _)); have BK0 := Aside0.mk (blk_below (mk_b0 w (.cells #[.bool false, .int .i64 a1, .bool false, .int .i64 a3, .slice A l.length c] 25) (.cells #[.bool false, .int .i64 0, .bool false, .int .i64 0, .slice none 0 0] 25) (.cells #[.bool false, .int .i64 (Go.bits .and .i64 a1 2047), .bool false, .int .i64 j, .slice none 0 0] 25)) hb); have BK1 := Aside0.mk (blk_below (mk_b1 w (.cells #[.bool false, .int .i64 a1, .bool false, .int .i64 a3, .slice A l.length c] 25) (.cells #[.bool false, .int .i64 0, .bool false, .int .i64 0, .slice none 0 0] 25) (.cells #[.bool false, .int .i64 (Go.bits .and .i64 a1 2047), .bool false, .int .i64 j, .slice none 0 0] 25)) hb); have BK2 := Aside0.mk (blk_below (mk_b2 w (.cells #[.bool false, .int .i64 a1, .bool false, .int .i64 a3, .slice A l.length c] 25) (.cells #[.bool false, .int .i64 0, .bool false, .int .i64 0, .slice none 0 0] 25) (.cells #[.bool false, .int .i64 (Go.bits .and .i64 a1 2047), .bool false, .int .i64 j, .slice none 0 0] 25)) hb); have HB := Aside0.mk (below_step (mk_below w _ _ _) hb); clear hb ho; have z4 : w1.cell? ⟨w.heap.size, 4, none⟩ = some (.slice A l.length c) := (blk_cell BK0.out 4).trans rfl; obtain ⟨i031, hi031, _, hsz31, _⟩ := info_parts infoM5; obtain ⟨hcut31, hA31, hC31⟩ := print_take_of (P := Try.prog) (Value.int .u8) 0 23 5 .i64 Try.underlying23 hi031 hsz31 A c l n HN0.out HN1.out HC.out; have HR1 := Aside0.mk (Kd.C_of_reads (h1 := fun _ => rfl) (hA31 _ (Kd.reads_of_C HR.out))); clear hA31 hC31 hi031 hsz31) | ((with_reducible refine gate_builtin (b := .append) (xs := #[.tmp 25, .tmp 32]) rfl ?_); at_builtin; refine Kd.R_append_rows (Kd.int .u8) (w0 := w) w.heap.size rfl (.tmp 25) (.tmp 32) 23 5 (.int .u8 0) 1 rfl Try.underlying23 infoM5 rfl (by decide) (by omega) v1 [] (l.take n.toNat) _ _ _ (fun _ => True) (fun _ => False) rfl rfl ?aO ?aR (fun _ _ h => h) (fun _ h => h.elim) ?aF ?aB ?aS ?aL ?_; (case aR => rw [show min n.toNat l.length = (l.take n.toNat).length from (by rw [List.length_take])]; exact (Kd.C_below HR1.out HB.out)); (case aB => exact HB.out); (case aF => exact (fun _ _ => trivial)); (case aO => exact HO.out); (case aS => exact HB.out.size); (case aL => have h0_ := HN0.out; have h1_ := HN1.out; have h2_ := HN8.out; simp; omega); intro v2 w2 ho hb hg hat; rw [List.nil_append] at ho; have n1_ := Aside0.mk (blk_grown BK1.out hg (Kd.R_ne HO.out BK1.out (by decide))); have n2_ := Aside0.mk (blk_grown BK2.out hg (Kd.R_ne HO.out BK2.out (by decide))); clear BK0 BK1 BK2 HO HB; have BK1 := n1_; have BK2 := n2_; have HB := Aside0.mk hb; have HO := Aside0.mk ho; clear n1_ n2_ ho hb hg hat; obtain ⟨Ao, co, eo⟩ := Kd.R_slice HO.out; subst eo; have y0 : w2.cell? ⟨w.heap.size + 1 + 1, 0, none⟩ = some (.bool false) := (blk_cell BK2.out 0).trans rfl; have y1 : w2.cell? ⟨w.heap.size + 1 + 1, 1, none⟩ = some (.int .i64 (Go.bits .and .i64 a1 2047)) := (blk_cell BK2.out 1).trans rfl; have y2 : w2.cell? ⟨w.heap.size + 1 + 1, 2, none⟩ = some (.bool false) := (blk_cell BK2.out 2).trans rfl; have y3 : w2.cell? ⟨w.heap.size + 1 + 1, 3, none⟩ = some (.int .i64 j) := (blk_cell BK2.out 3).trans rfl; have y4 : w2.cell? ⟨w.heap.size + 1 + 1, 4, none⟩ = some (.slice none 0 0) := (blk_cell BK2.out 4).trans rfl; have f0 := blk_frozen BK2.out 0; have f1 := blk_frozen BK2.out 1; have f2 := blk_frozen BK2.out 2; have f3 := blk_frozen BK2.out 3; have f4 := blk_frozen BK2.out 4; have x0 : w2.cell? ⟨w.heap.size + 1, 0, none⟩ = some (.bool false) := (blk_cell BK1.out 0).trans rfl; have x1 : w2.cell? ⟨w.heap.size + 1, 1, none⟩ = some (.int .i64 0) := (blk_cell BK1.out 1).trans rfl; have x2 : w2.cell? ⟨w.heap.size + 1, 2, none⟩ = some (.bool false) := (blk_cell BK1.out 2).trans rfl; have x3 : w2.cell? ⟨w.heap.size + 1, 3, none⟩ = some (.int .i64 0) := (blk_cell BK1.out 3).trans rfl; have x4 : w2.cell? ⟨w.heap.size + 1, 4, none⟩ = some (.slice none 0 0) := (blk_cell BK1.out 4).trans rfl; have g0 := blk_frozen BK1.out 0; have g1 := blk_frozen BK1.out 1; have g2 := blk_frozen BK1.out 2; have g3 := blk_frozen BK1.out 3; have g4 := blk_frozen BK1.out 4))
  have NE : w.heap.size + 1 ≠ w.heap.size + 1 + 1 := by omega
  have HO' := HO.out
  rw [List.length_take] at HO'
  refine bodyPost_ret (results_cell_row rfl _ _ (w.heap.size + 1) 25 #[.bool false, .int .i64 (Go.bits .and .i64 a1 2047), .bool false, .int .i64 ((min n.toNat l.length : Nat) : Int), .slice Ao (min n.toNat l.length) co] (0, 0) _ rfl ?blk Try.underlying25 rfl (by kernel_rfl)) rfl ?_
  case blk =>
    refine blk_put (cs := #[.bool false, .int .i64 (Go.bits .and .i64 a1 2047), .bool false, .int .i64 ((min n.toNat l.length : Nat) : Int), .slice none 0 0]) ?_ 4 _ rfl
    refine blk_put (cs := #[.bool false, .int .i64 (Go.bits .and .i64 a1 2047), .bool false, .int .i64 0, .slice none 0 0]) ?_ 3 _ rfl
    refine blk_put (cs := #[.bool false, .int .i64 (Go.bits .and .i64 a1 2047), .bool false, .int .i64 0, .slice none 0 0]) ?_ 2 _ rfl
    refine blk_put (cs := #[.bool false, .int .i64 0, .bool false, .int .i64 0, .slice none 0 0]) ?_ 1 _ rfl
    refine blk_put (cs := #[.bool false, .int .i64 0, .bool false, .int .i64 0, .slice none 0 0]) ?_ 0 _ rfl
    refine blk_far ?_ NE _
    refine blk_far ?_ NE _
    exact BK1.out
  refine ⟨_, by rw [List.length_take], ?_, below_set (below_set (below_set (below_set (below_set (below_set (below_set HB.out (by omega)) (by omega)) (by omega)) (by omega)) (by omega)) (by omega)) (by omega)⟩
  exact Kd.R_mono (Kd.R_far (p := ⟨w.heap.size + 1, 4, none⟩) (Kd.R_far (p := ⟨w.heap.size + 1, 3, none⟩) (Kd.R_far (p := ⟨w.heap.size + 1, 2, none⟩) (Kd.R_far (p := ⟨w.heap.size + 1, 1, none⟩) (Kd.R_far (p := ⟨w.heap.size + 1, 0, none⟩) (Kd.R_far (p := ⟨w.heap.size + 1 + 1, 3, none⟩) (Kd.R_far (p := ⟨w.heap.size + 1 + 1, 4, none⟩) (Kd.R_types (Kd.R_types HO' BK2.out (by decide)) BK1.out (by decide)) (fun _ hk => hk.1.2) _) (fun _ hk => hk.1.2) _) (fun _ hk => hk.2) _) (fun _ hk => hk.2) _) (fun _ hk => hk.2) _) (fun _ hk => hk.2) _) (fun _ hk => hk.2) _) (fun _ hk => trivial)

theorem phaetonref06_Made.calls (a0_0 : Bool) (a0_1 : Int) (a0_2 : Bool) (a0_3 : Int) (A0_4 : Option Addr) (c0_4 : Nat) (l0_4 : List Int) (r1 : Bool) (r2 : Int) (r3 : Bool) (r4 : Int) (r5 : List Int) (w : World) (hr0_4 : Kd.C (Kd.int .u8) w A0_4 l0_4.length l0_4) (hc0_4 : l0_4.length ≤ c0_4) (h : phaetonref06_Made.f a0_0 a0_1 a0_2 a0_3 l0_4 = some (r1, r2, r3, r4, r5)) :
    Calls Try.prog 11 #[.agg #[.bool a0_0, .int .i64 a0_1, .bool a0_2, .int .i64 a0_3, .slice A0_4 l0_4.length c0_4]] w fun e w' => ∃ v4_ : Value, e = .returned (.agg #[.bool r1, .int .i64 r2, .bool r3, .int .i64 r4, v4_]) ∧ Kd.R (Kd.int .u8) 5 w' w.heap.size (fun _ => True) v4_ r5 ∧ Below w.heap.size w w' := by
  unfold phaetonref06_Made.f at h
  simp only [Option.some.injEq, Prod.mk.injEq] at h
  obtain ⟨rfl, rfl, rfl, rfl, rfl⟩ := h
  cases a0_0 <;> cases a0_2 <;> simp only [Bool.false_eq_true, if_false, if_true]
  · exact made_false_d a0_1 a0_3 A0_4 c0_4 l0_4 w hr0_4 hc0_4
  · exact made_false_r a0_1 a0_3 A0_4 c0_4 l0_4 w
  · exact made_true_d a0_1 a0_3 A0_4 c0_4 l0_4 w hr0_4 hc0_4
  · exact made_true_r a0_1 a0_3 A0_4 c0_4 l0_4 w
end Go.Proofs.Ytpcabeefahldlaa.P

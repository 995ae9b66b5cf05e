/- Go functions that the laws of this seat reach, each as a Lean function, and a proof that a call of the Go code comes to its answers; written by a program (the kit's print, turned in a few places). Conditions: each theorem's own premises. -/
import Derived.Test.YtcgkkjimonfhbaaPx0
namespace Go.Proofs.Ytcgkkjimonfhbaa.P
open Go.RowKit Go.Proofs.YtcgkkjimonfhbaaW.PrintWords Go.Proofs.YtcgkkjimonfhbaaW.PrintLast Go.Proofs.YtcgkkjimonfhbaaW.PrintMore
attribute [local go_sem] max2_int min2_int max_two min_two max_three min_three max_four min_four   -- for this text's walks alone
set_option linter.unusedVariables false
set_option linter.unusedSimpArgs false

-- GIVEN: function 19 (sig_Places)

/-! ### sig_ends: function 32 -/
def sig_ends.f (a0_0 : Int) (a0_1 : Int) (a0_2 : Bool) (a0_3 : Bool) (a0_4 : Int) (a0_5 : Int) : Option (Int × Int) := if 0 ≤ a0_1 then (if a0_3 = true then (some (wrap64 (Int.tdiv (wrap64 (-(shl .i64 1 a0_1))) 2), wrap64 ((wrap64 (Int.tdiv (shl .i64 1 a0_1) 2)) - 1))) else (some (0, wrap64 ((shl .i64 1 a0_1) - 1)))) else (none)
set_option maxHeartbeats 8000000 in
set_option maxRecDepth 100000 in
theorem sig_ends.calls (a0_0 : Int) (a0_1 : Int) (a0_2 : Bool) (a0_3 : Bool) (a0_4 : Int) (a0_5 : Int) (r1 : Int) (r2 : Int) (w : World) (h : sig_ends.f a0_0 a0_1 a0_2 a0_3 a0_4 a0_5 = some (r1, r2)) :
  Calls Try.prog 32 #[.agg #[.int .i64 a0_0, .int .i64 a0_1, .bool a0_2, .bool a0_3, .int .i64 a0_4, .int .i64 a0_5]] w fun e w' => e = .returned (.tuple #[.int .i64 r1, .int .i64 r2]) ∧ Below w.heap.size w w' := by
 have hu23 := Try.underlying23
 have HB := aM (Below.refl w.heap.size w)
 have H : (if 0 ≤ a0_1 then (if a0_3 = true then (some (wrap64 (Int.tdiv (wrap64 (-(shl .i64 1 a0_1))) 2), wrap64 ((wrap64 (Int.tdiv (shl .i64 1 a0_1) 2)) - 1))) else (some (0, wrap64 ((shl .i64 1 a0_1) - 1)))) else (none)) = some (r1, r2) := h
 clear h
 by_cases c2 : 0 ≤ a0_1
 ·rw [if_pos c2] at H
  have c2b0 := eq_true c2
  have c2b1 : decide (0 ≤ a0_1) = true := decide_eq_true c2
  clear c2
  obtain ⟨ji3, hji3⟩ : ∃ j_ : Int, (shl .i64 1 a0_1) = j_ := ⟨_, rfl⟩
  replace H : (if a0_3 = true then (some (wrap64 (Int.tdiv (wrap64 (-(ji3))) 2), wrap64 ((wrap64 (Int.tdiv (ji3) 2)) - 1))) else (some (0, wrap64 ((ji3) - 1)))) = some (r1, r2) := by first | (rw [hji3] at H; exact H) | (simp only [hji3] at H ⊢; exact H)
  have hji3_ : (IntKind.i64.wrap (1 * 2 ^ min a0_1.toNat 64)) = ji3 := hji3
  have hji3z : a0_1 ≤ 64 → (IntKind.i64.wrap (1 * 2 ^ a0_1.toNat)) = ji3 := shl_small hji3
  have hji3u : (IntKind.i64.wrap (2 ^ min a0_1.toNat 64)) = ji3 := by have h_ := hji3_; rw [Int.one_mul] at h_; exact h_
  have hji3v : a0_1 ≤ 64 → (IntKind.i64.wrap (2 ^ a0_1.toNat)) = ji3 := fun hle_ => by have h_ := hji3z hle_; rw [Int.one_mul] at h_; exact h_
  have hji3y : (wrap64 (1 * 2 ^ min a0_1.toNat 64)) = ji3 := (i64_w _).symm.trans hji3_
  have hji3x : a0_1 ≤ 64 → (wrap64 (1 * 2 ^ a0_1.toNat)) = ji3 := fun h_ => (i64_w _).symm.trans (hji3z h_)
  by_cases c4 : a0_3 = true
  ·subst c4
   have H1 : (some (wrap64 (Int.tdiv (wrap64 (-(ji3))) 2), wrap64 ((wrap64 (Int.tdiv (ji3) 2)) - 1))) = some (r1, r2) := by rw [if_pos rfl] at H; exact H
   clear H
   have H := H1
   clear H1
   simp only [Option.some.injEq, Prod.mk.injEq] at H
   obtain ⟨rfl, rfl⟩ := H
   go_enter Try.func32, Try.ntmps32
   go_wp2_with (first | ((with_reducible refine gate_dst (N := 1) rfl ?_); refine box_event ?hg (N := 1) ?hd (cs := #[.int .i64 a0_0, .int .i64 a0_1, .bool a0_2, .bool true, .int .i64 a0_4, .int .i64 a0_5]) (t := 23) ?hr ?_; (case hd => rfl); (case hg => rfl); (case hr => first | (go_simp; done) | (go_simp; rfl)); intro gb101 hg w5 hbox hb; have n0_ := aM (lT (by repeat (first | (with_reducible first | exact HB.out | apply lA | apply lN | apply lW) | exact HB.out)) hb); have n1_ := aM (hbox); have n2_ := aM ((by rw [hg]; exact (lZ (by repeat (first | (with_reducible first | exact HB.out | apply lA | apply lN | apply lW) | exact HB.out))) : w.heap.size ≤ gb101)); have n3_ := aM ((by rw [hg]; exact (lZ (by repeat (first | (with_reducible first | exact HB.out | apply lA | apply lN | apply lW) | exact HB.out))) : w.heap.size ≤ gb101)); clear HB; have HB := n0_; have BK101 := n1_; have GW101 := n2_; have GE101 := n3_; clear n0_ n1_ n2_ n3_; clear hb hbox hg; have hcz6_0 : w5.cell? ⟨gb101, 0, none⟩ = some (.int .i64 a0_0) := (bC BK101.out 0).trans rfl; have hcz6_1 : w5.cell? ⟨gb101, 1, none⟩ = some (.int .i64 a0_1) := (bC BK101.out 1).trans rfl; have hcz6_2 : w5.cell? ⟨gb101, 2, none⟩ = some (.bool a0_2) := (bC BK101.out 2).trans rfl; have hcz6_3 : w5.cell? ⟨gb101, 3, none⟩ = some (.bool true) := (bC BK101.out 3).trans rfl; have hcz6_4 : w5.cell? ⟨gb101, 4, none⟩ = some (.int .i64 a0_4) := (bC BK101.out 4).trans rfl; have hcz6_5 : w5.cell? ⟨gb101, 5, none⟩ = some (.int .i64 a0_5) := (bC BK101.out 5).trans rfl; have hfz6_0 := bF BK101.out 0; have hfz6_1 := bF BK101.out 1; have hfz6_2 := bF BK101.out 2; have hfz6_3 := bF BK101.out 3; have hfz6_4 := bF BK101.out 4; have hfz6_5 := bF BK101.out 5))
   go_ret2
   exact ⟨by first | rfl | (simp [errW_none, errW_some] <;> rfl) | (simp only [← hji3]; first | rfl | (simp [errW_none, errW_some] <;> rfl)) | (simp [*, errW_none, errW_some] <;> rfl), by repeat (first | (with_reducible first | exact HB.out | apply lA | apply lN | apply lW | refine lS ?_ GE101.out) | exact HB.out)⟩
  ·replace c4 := Bool.eq_false_iff.mpr c4
   subst c4
   have H1 : (some (0, wrap64 ((ji3) - 1))) = some (r1, r2) := by rw [if_neg (show ¬ (false = true) by decide)] at H; exact H
   clear H
   have H := H1
   clear H1
   simp only [Option.some.injEq, Prod.mk.injEq] at H
   obtain ⟨rfl, rfl⟩ := H
   go_enter Try.func32, Try.ntmps32
   go_wp2_with (first | ((with_reducible refine gate_dst (N := 1) rfl ?_); refine box_event ?hg (N := 1) ?hd (cs := #[.int .i64 a0_0, .int .i64 a0_1, .bool a0_2, .bool false, .int .i64 a0_4, .int .i64 a0_5]) (t := 23) ?hr ?_; (case hd => rfl); (case hg => rfl); (case hr => first | (go_simp; done) | (go_simp; rfl)); intro gb101 hg w7 hbox hb; have n0_ := aM (lT (by repeat (first | (with_reducible first | exact HB.out | apply lA | apply lN | apply lW) | exact HB.out)) hb); have n1_ := aM (hbox); have n2_ := aM ((by rw [hg]; exact (lZ (by repeat (first | (with_reducible first | exact HB.out | apply lA | apply lN | apply lW) | exact HB.out))) : w.heap.size ≤ gb101)); have n3_ := aM ((by rw [hg]; exact (lZ (by repeat (first | (with_reducible first | exact HB.out | apply lA | apply lN | apply lW) | exact HB.out))) : w.heap.size ≤ gb101)); clear HB; have HB := n0_; have BK101 := n1_; have GW101 := n2_; have GE101 := n3_; clear n0_ n1_ n2_ n3_; clear hb hbox hg; have hcz8_0 : w7.cell? ⟨gb101, 0, none⟩ = some (.int .i64 a0_0) := (bC BK101.out 0).trans rfl; have hcz8_1 : w7.cell? ⟨gb101, 1, none⟩ = some (.int .i64 a0_1) := (bC BK101.out 1).trans rfl; have hcz8_2 : w7.cell? ⟨gb101, 2, none⟩ = some (.bool a0_2) := (bC BK101.out 2).trans rfl; have hcz8_3 : w7.cell? ⟨gb101, 3, none⟩ = some (.bool false) := (bC BK101.out 3).trans rfl; have hcz8_4 : w7.cell? ⟨gb101, 4, none⟩ = some (.int .i64 a0_4) := (bC BK101.out 4).trans rfl; have hcz8_5 : w7.cell? ⟨gb101, 5, none⟩ = some (.int .i64 a0_5) := (bC BK101.out 5).trans rfl; have hfz8_0 := bF BK101.out 0; have hfz8_1 := bF BK101.out 1; have hfz8_2 := bF BK101.out 2; have hfz8_3 := bF BK101.out 3; have hfz8_4 := bF BK101.out 4; have hfz8_5 := bF BK101.out 5))
   go_ret2
   exact ⟨by first | rfl | (simp [errW_none, errW_some] <;> rfl) | (simp only [← hji3]; first | rfl | (simp [errW_none, errW_some] <;> rfl)) | (simp [*, errW_none, errW_some] <;> rfl), by repeat (first | (with_reducible first | exact HB.out | apply lA | apply lN | apply lW | refine lS ?_ GE101.out) | exact HB.out)⟩
 ·rw [if_neg c2] at H
  exact absurd H (by simp)

/-! ### sig_fits: function 29 -/
def sig_fits.f (a0_0 : Int) (a0_1 : Int) (a0_2 : Bool) (a0_3 : Bool) (a0_4 : Int) (a0_5 : Int) (a1 : Int) : Option (Bool) := (sig_ends.f a0_0 a0_1 a0_2 a0_3 a0_4 a0_5).bind fun bt103 => (if a1 ≥ bt103.1 then (some (decide (a1 ≤ bt103.2))) else (some false))
set_option maxHeartbeats 8000000 in
set_option maxRecDepth 100000 in
theorem sig_fits.calls (a0_0 : Int) (a0_1 : Int) (a0_2 : Bool) (a0_3 : Bool) (a0_4 : Int) (a0_5 : Int) (a1 : Int) (r : Bool) (w : World) (h : sig_fits.f a0_0 a0_1 a0_2 a0_3 a0_4 a0_5 a1 = some r) :
  Calls Try.prog 29 #[.agg #[.int .i64 a0_0, .int .i64 a0_1, .bool a0_2, .bool a0_3, .int .i64 a0_4, .int .i64 a0_5], .int .i64 a1] w fun e w' => e = .returned (.bool r) ∧ Below w.heap.size w w' := by
 have hu23 := Try.underlying23
 have HB := aM (Below.refl w.heap.size w)
 have H : ((sig_ends.f a0_0 a0_1 a0_2 a0_3 a0_4 a0_5).bind fun bt103 => (if a1 ≥ bt103.1 then (some (decide (a1 ≤ bt103.2))) else (some false))) = some r := h
 clear h
 replace H := Option.bind_eq_some_iff.mp H
 obtain ⟨⟨t103, t104⟩, A30, H⟩ := H
 replace H : (if a1 ≥ t103 then (some (decide (a1 ≤ t104))) else (some false)) = some r := H
 have A3 := aM A30
 clear A30
 by_cases c4 : a1 ≥ t103
 ·rw [if_pos c4] at H
  have c4b0 : decide (t103 ≤ a1) = true := decide_eq_true c4
  clear c4
  obtain rfl := Option.some.inj H
  go_enter Try.func29, Try.ntmps29
  go_wp2_with (first | ((with_reducible refine gate_dst (N := 2) rfl ?_); refine box_event ?hg (N := 2) ?hd (cs := #[.int .i64 a0_0, .int .i64 a0_1, .bool a0_2, .bool a0_3, .int .i64 a0_4, .int .i64 a0_5]) (t := 23) ?hr ?_; (case hd => rfl); (case hg => rfl); (case hr => first | (go_simp; done) | (go_simp; rfl)); intro gb102 hg w5 hbox hb; have n0_ := aM (lT (by repeat (first | (with_reducible first | exact HB.out | apply lA | apply lN | apply lW) | exact HB.out)) hb); have n1_ := aM (hbox); have n2_ := aM ((by rw [hg]; exact (lZ (by repeat (first | (with_reducible first | exact HB.out | apply lA | apply lN | apply lW) | exact HB.out))) : w.heap.size ≤ gb102)); have n3_ := aM ((by rw [hg]; exact (lZ (by repeat (first | (with_reducible first | exact HB.out | apply lA | apply lN | apply lW) | exact HB.out))) : w.heap.size ≤ gb102)); clear HB; have HB := n0_; have BK102 := n1_; have GW102 := n2_; have GE102 := n3_; clear n0_ n1_ n2_ n3_; clear hb hbox hg; have hcz6_0 : w5.cell? ⟨gb102, 0, none⟩ = some (.int .i64 a0_0) := (bC BK102.out 0).trans rfl; have hcz6_1 : w5.cell? ⟨gb102, 1, none⟩ = some (.int .i64 a0_1) := (bC BK102.out 1).trans rfl; have hcz6_2 : w5.cell? ⟨gb102, 2, none⟩ = some (.bool a0_2) := (bC BK102.out 2).trans rfl; have hcz6_3 : w5.cell? ⟨gb102, 3, none⟩ = some (.bool a0_3) := (bC BK102.out 3).trans rfl; have hcz6_4 : w5.cell? ⟨gb102, 4, none⟩ = some (.int .i64 a0_4) := (bC BK102.out 4).trans rfl; have hcz6_5 : w5.cell? ⟨gb102, 5, none⟩ = some (.int .i64 a0_5) := (bC BK102.out 5).trans rfl; have hfz6_0 := bF BK102.out 0; have hfz6_1 := bF BK102.out 1; have hfz6_2 := bF BK102.out 2; have hfz6_3 := bF BK102.out 3; have hfz6_4 := bF BK102.out 4; have hfz6_5 := bF BK102.out 5) | ((with_reducible refine gate_callee (f := 32) rfl ?_); refine goesL_ (some 9) rfl rfl Try.func32 (by kernel_rfl) rfl #[.agg #[.int .i64 a0_0, .int .i64 a0_1, .bool a0_2, .bool a0_3, .int .i64 a0_4, .int .i64 a0_5]] rfl (by (try simp only [List.map_toArray, List.map_cons, List.map_nil]); first | done | rfl | (simp only [List.length_drop, List.length_take]; rfl)) ?_; (with_reducible refine (sig_ends.calls a0_0 a0_1 a0_2 a0_3 a0_4 a0_5 t103 t104 _ A3.out).mono ?_); rintro e w7 ⟨rfl, hb⟩; refine ⟨_, rfl, ?_⟩; have n0_ := aM (blk_below (g := gb102) (o := .cells #[.int .i64 a0_0, .int .i64 a0_1, .bool a0_2, .bool a0_3, .int .i64 a0_4, .int .i64 a0_5] 23 (0, 0)) (by (with_reducible repeat (first | refine bN ?_ _ | refine bW ?_ | refine bA ?_ _)); exact BK102.out) hb); have n1_ := aM (lT (by repeat (first | (with_reducible first | exact HB.out | apply lA | apply lN | apply lW | refine lS ?_ GE102.out) | exact HB.out)) hb); clear BK102; clear HB; have BK102 := n0_; have HB := n1_; clear n0_ n1_; (try clear hb); (try clear hb2); (try clear hk); (try clear hi)))
  go_ret
  exact ⟨by first | rfl | (simp [errW_none, errW_some] <;> rfl) | (simp [*, errW_none, errW_some] <;> rfl), by repeat (first | (with_reducible first | exact HB.out | apply lA | apply lN | apply lW | refine lS ?_ GE102.out) | exact HB.out)⟩
 ·rw [if_neg c4] at H
  have c4b0 : decide (t103 ≤ a1) = false := decide_eq_false c4
  clear c4
  obtain rfl := Option.some.inj H
  go_enter Try.func29, Try.ntmps29
  go_wp2_with (first | ((with_reducible refine gate_dst (N := 2) rfl ?_); refine box_event ?hg (N := 2) ?hd (cs := #[.int .i64 a0_0, .int .i64 a0_1, .bool a0_2, .bool a0_3, .int .i64 a0_4, .int .i64 a0_5]) (t := 23) ?hr ?_; (case hd => rfl); (case hg => rfl); (case hr => first | (go_simp; done) | (go_simp; rfl)); intro gb102 hg w8 hbox hb; have n0_ := aM (lT (by repeat (first | (with_reducible first | exact HB.out | apply lA | apply lN | apply lW) | exact HB.out)) hb); have n1_ := aM (hbox); have n2_ := aM ((by rw [hg]; exact (lZ (by repeat (first | (with_reducible first | exact HB.out | apply lA | apply lN | apply lW) | exact HB.out))) : w.heap.size ≤ gb102)); have n3_ := aM ((by rw [hg]; exact (lZ (by repeat (first | (with_reducible first | exact HB.out | apply lA | apply lN | apply lW) | exact HB.out))) : w.heap.size ≤ gb102)); clear HB; have HB := n0_; have BK102 := n1_; have GW102 := n2_; have GE102 := n3_; clear n0_ n1_ n2_ n3_; clear hb hbox hg; have hcz9_0 : w8.cell? ⟨gb102, 0, none⟩ = some (.int .i64 a0_0) := (bC BK102.out 0).trans rfl; have hcz9_1 : w8.cell? ⟨gb102, 1, none⟩ = some (.int .i64 a0_1) := (bC BK102.out 1).trans rfl; have hcz9_2 : w8.cell? ⟨gb102, 2, none⟩ = some (.bool a0_2) := (bC BK102.out 2).trans rfl; have hcz9_3 : w8.cell? ⟨gb102, 3, none⟩ = some (.bool a0_3) := (bC BK102.out 3).trans rfl; have hcz9_4 : w8.cell? ⟨gb102, 4, none⟩ = some (.int .i64 a0_4) := (bC BK102.out 4).trans rfl; have hcz9_5 : w8.cell? ⟨gb102, 5, none⟩ = some (.int .i64 a0_5) := (bC BK102.out 5).trans rfl; have hfz9_0 := bF BK102.out 0; have hfz9_1 := bF BK102.out 1; have hfz9_2 := bF BK102.out 2; have hfz9_3 := bF BK102.out 3; have hfz9_4 := bF BK102.out 4; have hfz9_5 := bF BK102.out 5) | ((with_reducible refine gate_callee (f := 32) rfl ?_); refine goesL_ (some 9) rfl rfl Try.func32 (by kernel_rfl) rfl #[.agg #[.int .i64 a0_0, .int .i64 a0_1, .bool a0_2, .bool a0_3, .int .i64 a0_4, .int .i64 a0_5]] rfl (by (try simp only [List.map_toArray, List.map_cons, List.map_nil]); first | done | rfl | (simp only [List.length_drop, List.length_take]; rfl)) ?_; (with_reducible refine (sig_ends.calls a0_0 a0_1 a0_2 a0_3 a0_4 a0_5 t103 t104 _ A3.out).mono ?_); rintro e w10 ⟨rfl, hb⟩; refine ⟨_, rfl, ?_⟩; have n0_ := aM (blk_below (g := gb102) (o := .cells #[.int .i64 a0_0, .int .i64 a0_1, .bool a0_2, .bool a0_3, .int .i64 a0_4, .int .i64 a0_5] 23 (0, 0)) (by (with_reducible repeat (first | refine bN ?_ _ | refine bW ?_ | refine bA ?_ _)); exact BK102.out) hb); have n1_ := aM (lT (by repeat (first | (with_reducible first | exact HB.out | apply lA | apply lN | apply lW | refine lS ?_ GE102.out) | exact HB.out)) hb); clear BK102; clear HB; have BK102 := n0_; have HB := n1_; clear n0_ n1_; (try clear hb); (try clear hb2); (try clear hk); (try clear hi)))
  go_ret
  exact ⟨by first | rfl | (simp [errW_none, errW_some] <;> rfl) | (simp [*, errW_none, errW_some] <;> rfl), by repeat (first | (with_reducible first | exact HB.out | apply lA | apply lN | apply lW | refine lS ?_ GE102.out) | exact HB.out)⟩

end Go.Proofs.Ytcgkkjimonfhbaa.P

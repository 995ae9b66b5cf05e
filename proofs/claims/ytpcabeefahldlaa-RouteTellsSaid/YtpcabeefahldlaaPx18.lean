/- Go functions that the laws of this seat reach, each as a Lean function, and a proof that a call of the Go code comes to its answers; written by a program (the kit's print, turned in a few places). Conditions: each theorem's own premises. -/
import Derived.Test.YtpcabeefahldlaaPx0
import Derived.Test.YtpcabeefahldlaaPx14
import Derived.Test.YtpcabeefahldlaaPx17
namespace Go.Proofs.Ytpcabeefahldlaa.P
open Go.RowKit Go.Proofs.YtpcabeefahldlaaW.PrintWords Go.Proofs.YtpcabeefahldlaaW.PrintLast Go.Proofs.YtpcabeefahldlaaW.PrintMore
attribute [local go_sem] max2_int min2_int max_two min_two max_three min_three max_four min_four   -- for this text's walks alone
set_option linter.unusedVariables false
set_option linter.unusedSimpArgs false

/-! ### phaetonref12_Reach: function 21 -/
mutual
def phaetonref12_Reach.l0 : Nat → List (S45) → List (S38) → List (S38) → Option ((List (S38)))
 | 0, _, _, _ => none
 | k + 1, x0, x9, x10 => if (x10.length : Int) > 0 then (if x9.length + x10.length < 2199023255552 then (phaetonref12_Reach.l1 k x0 (x9 ++ x10) x10 (([] : List (S38))) 0) else (none)) else (some x9)
def phaetonref12_Reach.l1 : Nat → List (S45) → List (S38) → List (S38) → List (S38) → Int → Option ((List (S38)))
 | 0, _, _, _, _, _ => none
 | k + 1, x0, x9, x10, x11, x12 => if x12 < (x10.length : Int) then (if 0 ≤ x12 then ((phaetonref12_Hops.f k x0 ((rd_T38 x10 x12).f0) ((rd_T38 x10 x12).f1.f0) ((rd_T38 x10 x12).f1.f1) ((rd_T38 x10 x12).f1.f2) ((rd_T38 x10 x12).f1.f3) ((rd_T38 x10 x12).f1.f4)).bind fun t248 => (if x11.length + t248.length < 2199023255552 then (phaetonref12_Reach.l1 k x0 x9 x10 (x11 ++ t248) (wrap64 (x12 + 1))) else (none))) else (none)) else (phaetonref12_Reach.l0 k x0 x9 x11)
end
def phaetonref12_Reach.f (k : Nat) (l0 : List (S45)) (a1 : Int) (a2 : Int) (a3_0 : Bool) (a3_1 : Int) (a3_2 : Bool) (a3_3 : Int) (l3_4 : List Int) : Option ((List (S38))) := (some (([] : List (S38)) : List (S38))).bind fun y233 => ((phaetonref12_Loopless.f k l0 a1).bind fun t236 => (if t236 = true then ((phaetonref12_Hops.f k l0 a2 a3_0 a3_1 a3_2 a3_3 l3_4).bind fun t237 => (phaetonref12_Reach.l0 k l0 y233 t237)) else (some y233)))
def phaetonref12_Reach.T11 : Bool × List (List Nat × List Nat) := (true, [([], []), ([], []), ([], []), ([], []), ([2, 3], [2, 3]), ([4], [4]), ([5], [5]), ([], []), ([], []), ([7, 8], [7, 8]), ([9], [9]), ([10], [10]), ([1, 6, 11], [1, 6, 11]), ([0, 12, 12], [0, 12]), ([13, 13, 0, 1, 2, 3, 4, 5, 6, 7, 8, 9, 10, 11, 12, 13], [0, 13])])
def phaetonref12_Reach.B11 : List Nat := [0, 0, 0, 0, 12, 28, 60, 0, 0, 384, 896, 1920, 4094, 8191, 16383]
theorem phaetonref12_Reach.tab11 : rtab .any (opsOf Try.f21 11) = phaetonref12_Reach.T11 := by kernel_rfl
theorem phaetonref12_Reach.bits11 : waitsOk phaetonref12_Reach.T11.2 phaetonref12_Reach.B11 = true := by kernel_rfl
set_option maxHeartbeats 8000000 in
set_option maxRecDepth 100000 in
theorem phaetonref12_Reach.calls (k : Nat) (A0 : Option Addr) (c0 : Nat) (l0 : List (S45)) (a1 : Int) (a2 : Int) (a3_0 : Bool) (a3_1 : Int) (a3_2 : Bool) (a3_3 : Int) (P3_4_ : Nat → Prop) (A3_4 : Option Addr) (c3_4 : Nat) (l3_4 : List Int) (r : List (S38)) (w : World) (hr0 : Kd.C k45 w A0 l0.length l0) (hc0 : l0.length ≤ c0) (hs3_4 : Kd.V (Kd.int .u8) 5 w w.heap.size (fun k_ => P3_4_ k_) (.slice A3_4 l3_4.length c3_4) l3_4) (h : phaetonref12_Reach.f k l0 a1 a2 a3_0 a3_1 a3_2 a3_3 l3_4 = some r) :
  Calls Try.prog 21 #[.slice A0 l0.length c0, .int .i64 a1, .int .i64 a2, .agg #[.bool a3_0, .int .i64 a3_1, .bool a3_2, .int .i64 a3_3, .slice A3_4 l3_4.length c3_4]] w fun e w' => ∃ v0_ : Value, e = .returned (v0_) ∧ Kd.N k38 38 w' w.heap.size (fun k_ => (P3_4_ k_ ∨ w.heap.size ≤ k_)) v0_ r ∧ Below w.heap.size w w' := by
 have hu25 := Try.underlying25
 have HR0 := aM hr0
 have HC0 := aM hc0
 clear hr0 hc0
 have HO3_4 := aM (show Kd.V (Kd.int .u8) 5 w w.heap.size (fun k_ => (P3_4_ k_ ∨ w.heap.size ≤ k_)) (.slice A3_4 l3_4.length c3_4) l3_4 from Kd.V_mono hs3_4 (fun k_ hk => .inl hk))
 have HB := aM (Below.refl w.heap.size w)
 have H : ((some (([] : List (S38)) : List (S38))).bind fun y233 => ((phaetonref12_Loopless.f k l0 a1).bind fun t236 => (if t236 = true then ((phaetonref12_Hops.f k l0 a2 a3_0 a3_1 a3_2 a3_3 l3_4).bind fun t237 => (phaetonref12_Reach.l0 k l0 y233 t237)) else (some y233)))) = some r := h
 clear h
 obtain ⟨y233, hy233⟩ : ∃ y_ : List (S38), y_ = (([] : List (S38))) := ⟨_, rfl⟩
 replace H : ((phaetonref12_Loopless.f k l0 a1).bind fun t236 => (if t236 = true then ((phaetonref12_Hops.f k l0 a2 a3_0 a3_1 a3_2 a3_3 l3_4).bind fun t237 => (phaetonref12_Reach.l0 k l0 y233 t237)) else (some y233))) = some r := by first | (rw [hy233]; with_reducible exact H) | (have H2_ := (Option.bind_some _ _).symm.trans H; rw [hy233]; with_reducible exact H2_) | (have H2_ := (Option.bind_some _ _).symm.trans H; with_reducible exact H2_) | with_reducible exact H | (rw [hy233]; exact H) | exact H
 have Ny233 := aM hy233
 clear hy233
 replace H := Option.bind_eq_some_iff.mp H
 obtain ⟨t236, A50, H⟩ := H
 replace H : (if t236 = true then ((phaetonref12_Hops.f k l0 a2 a3_0 a3_1 a3_2 a3_3 l3_4).bind fun t237 => (phaetonref12_Reach.l0 k l0 y233 t237)) else (some y233)) = some r := H
 have A5 := aM A50
 clear A50
 by_cases c6 : t236 = true
 ·subst c6
  have H1 : ((phaetonref12_Hops.f k l0 a2 a3_0 a3_1 a3_2 a3_3 l3_4).bind fun t237 => (phaetonref12_Reach.l0 k l0 y233 t237)) = some r := by rw [if_pos rfl] at H; exact H
  clear H
  have H := H1
  clear H1
  replace H := Option.bind_eq_some_iff.mp H
  obtain ⟨t237, A70, H⟩ := H
  replace H : (phaetonref12_Reach.l0 k l0 y233 t237) = some r := H
  have A7 := aM A70
  clear A70
  have H' := aM H
  clear H
  go_enter Try.func21, Try.ntmps21
  go_wp2_with (first | ((with_reducible refine gate_dst (N := 7) rfl ?_); refine box_event ?hg (N := 7) ?hd (cs := #[.bool a3_0, .int .i64 a3_1, .bool a3_2, .int .i64 a3_3, .slice A3_4 l3_4.length c3_4]) (t := 25) ?hr ?_; (case hd => rfl); (case hg => rfl); (case hr => first | (go_simp; done) | (go_simp; rfl)); intro gb232 hg w8 hbox hb; have n0_ := aM (Kd.V_below (Kd.V_elderB (by (with_reducible repeat (first | apply Kd.V_alloc | apply Kd.V_drewN | apply Kd.V_drew)); exact HO3_4.out) gb232 (Nat.le_of_eq hg.symm)) hb); have n1_ := aM (lT (by repeat (first | (with_reducible first | exact HB.out | apply lA | apply lN | apply lW) | exact HB.out)) hb); have n2_ := aM (hbox); have n3_ := aM ((by rw [hg]; exact (lZ (by repeat (first | (with_reducible first | exact HB.out | apply lA | apply lN | apply lW) | exact HB.out))) : w.heap.size ≤ gb232)); have n4_ := aM ((by rw [hg]; exact (lZ (by repeat (first | (with_reducible first | exact HB.out | apply lA | apply lN | apply lW) | exact HB.out))) : w.heap.size ≤ gb232)); clear HO3_4; clear HB; have HO3_4 := n0_; have HB := n1_; have BK232 := n2_; have GW232 := n3_; have GE232 := n4_; clear n0_ n1_ n2_ n3_ n4_; clear hb hbox hg) | ((with_reducible refine gate_dst (N := 13) rfl ?_); refine Kd.N_lit k38 _ 38 ?hg (N' := 13) ?hd (xs := ([] : List (S38))) (inner := []) (ok := (fun k_ => (P3_4_ k_ ∨ w.heap.size ≤ k_) ∧ k_ ≠ gb232)) (okp := (fun k_ => (P3_4_ k_ ∨ w.heap.size ≤ k_) ∧ k_ ≠ gb232)) ?hr ?hp (fun _ hk => hk) ((show ∀ k_, w8.heap.size ≤ k_ → (fun k_ => (P3_4_ k_ ∨ w.heap.size ≤ k_) ∧ k_ ≠ gb232) k_ from fun k_ hk => ⟨(.inr (Nat.le_trans (lZ (by repeat (first | (with_reducible first | exact HB.out | apply lA | apply lN | apply lW | refine lS ?_ GE232.out) | exact HB.out))) hk)), Kd.freshB (g := gb232) (o := .cells #[.bool a3_0, .int .i64 a3_1, .bool a3_2, .int .i64 a3_3, .slice A3_4 l3_4.length c3_4] 25 (0, 0)) (by (with_reducible repeat (first | refine bN ?_ _ | refine bW ?_ | refine bA ?_ _)); exact BK232.out) k_ hk⟩) _ (Nat.le_refl _)) (Below.refl _ _) (Nat.le_refl _) (by simp) ?_; (case hd => rfl); (case hg => rfl); (case hr => first | (go_simp; done) | (go_simp; rfl)); (case hp => exact (Reps.none _ _)); intro v234 w9 ho10 hb hg_ hnew_; clear hg_ hnew_; (first | rw [← Ny233.out] at ho10 | (simp only [Int.reduceToNat] at ho10; rw [← Ny233.out] at ho10)); have n0_ := aM (Kd.V_elder' (by (with_reducible repeat (first | apply Kd.V_alloc | apply Kd.V_drewN | apply Kd.V_drew)); exact HO3_4.out) (Kd.N_base ho10) hb); have n1_ := aM (Kd.N_lower ho10 (lZ (by repeat (first | (with_reducible first | exact HB.out | apply lA | apply lN | apply lW | refine lS ?_ GE232.out) | exact HB.out)))); have n2_ := aM (blk_below (g := gb232) (o := .cells #[.bool a3_0, .int .i64 a3_1, .bool a3_2, .int .i64 a3_3, .slice A3_4 l3_4.length c3_4] 25 (0, 0)) (by (with_reducible repeat (first | refine bN ?_ _ | refine bW ?_ | refine bA ?_ _)); exact BK232.out) hb); have n3_ := aM (lT (by repeat (first | (with_reducible first | exact HB.out | apply lA | apply lN | apply lW | refine lS ?_ GE232.out) | exact HB.out)) hb); clear HO3_4; clear BK232; clear HB; have HO3_4 := n0_; have HO235 := n1_; have BK232 := n2_; have HB := n3_; clear n0_ n1_ n2_ n3_; clear hb ho10) | ((with_reducible refine gate_callee (f := 15) rfl ?_); refine goesL_ (some 16) rfl rfl Try.func15 (by kernel_rfl) rfl #[.slice A0 l0.length c0, .int .i64 a1] rfl (by (try simp only [List.map_toArray, List.map_cons, List.map_nil]); first | done | rfl | (simp only [List.length_drop, List.length_take]; rfl)) ?_; (with_reducible refine (phaetonref12_Loopless.calls k _ _ l0 a1 true _ ?side1 ?side2 A5.out).mono ?_); (case side1 => repeat (first | exact (Kd.C_below HR0.out HB.out) | (with_reducible refine Kd.C_alloc ?_ _) | (with_reducible refine Kd.C_drewN ?_ _) | (with_reducible refine Kd.C_drew ?_))); (case side2 => exact HC0.out); rintro e w11 ⟨rfl, hb⟩; refine ⟨_, rfl, ?_⟩; have n0_ := aM (Kd.V_below (by (with_reducible repeat (first | apply Kd.V_alloc | apply Kd.V_drewN | apply Kd.V_drew)); exact HO3_4.out) hb); have n1_ := aM (Kd.N_below (by (with_reducible repeat (first | apply Kd.N_alloc | apply Kd.N_drewN | apply Kd.N_drew)); exact HO235.out) hb); have n2_ := aM (blk_below (g := gb232) (o := .cells #[.bool a3_0, .int .i64 a3_1, .bool a3_2, .int .i64 a3_3, .slice A3_4 l3_4.length c3_4] 25 (0, 0)) (by (with_reducible repeat (first | refine bN ?_ _ | refine bW ?_ | refine bA ?_ _)); exact BK232.out) hb); have n3_ := aM (lT (by repeat (first | (with_reducible first | exact HB.out | apply lA | apply lN | apply lW | refine lS ?_ GE232.out) | exact HB.out)) hb); clear HO3_4; clear HO235; clear BK232; clear HB; have HO3_4 := n0_; have HO235 := n1_; have BK232 := n2_; have HB := n3_; clear n0_ n1_ n2_ n3_; (try clear hb); (try clear hb2); (try clear hk); (try clear hi); have hcz12_0 : w11.cell? ⟨gb232, 0, none⟩ = some (.bool a3_0) := (bC BK232.out 0).trans rfl; have hcz12_1 : w11.cell? ⟨gb232, 1, none⟩ = some (.int .i64 a3_1) := (bC BK232.out 1).trans rfl; have hcz12_2 : w11.cell? ⟨gb232, 2, none⟩ = some (.bool a3_2) := (bC BK232.out 2).trans rfl; have hcz12_3 : w11.cell? ⟨gb232, 3, none⟩ = some (.int .i64 a3_3) := (bC BK232.out 3).trans rfl; have hcz12_4 : w11.cell? ⟨gb232, 4, none⟩ = some (.slice A3_4 l3_4.length c3_4) := (bC BK232.out 4).trans rfl; have hfz12_0 := bF BK232.out 0; have hfz12_1 := bF BK232.out 1; have hfz12_2 := bF BK232.out 2; have hfz12_3 := bF BK232.out 3; have hfz12_4 := bF BK232.out 4) | ((with_reducible refine gate_callee (f := 19) rfl ?_); refine goesL_ (some 22) rfl rfl Try.func19 (by kernel_rfl) rfl #[.slice A0 l0.length c0, .int .i64 a2, .agg #[.bool a3_0, .int .i64 a3_1, .bool a3_2, .int .i64 a3_3, .slice A3_4 l3_4.length c3_4]] rfl (by (try simp only [List.map_toArray, List.map_cons, List.map_nil]); first | done | rfl | (simp only [List.length_drop, List.length_take]; rfl)) ?_; (with_reducible refine (phaetonref12_Hops.calls k _ _ l0 a2 a3_0 a3_1 a3_2 a3_3 (fun k_ => (((P3_4_ k_ ∨ w.heap.size ≤ k_) ∧ k_ ≠ gb232) ∧ some k_ ≠ (v234 : Value).ownBlock)) _ _ l3_4 t237 _ ?side1 ?side2 ?side3 A7.out).mono ?_); (case side1 => repeat (first | exact (Kd.C_below HR0.out HB.out) | (with_reducible refine Kd.C_alloc ?_ _) | (with_reducible refine Kd.C_drewN ?_ _) | (with_reducible refine Kd.C_drew ?_))); (case side2 => exact HC0.out); (case side3 => exact HO3_4.out); rintro e w13 ⟨v238, rfl, ho0, hb⟩; refine ⟨_, rfl, ?_⟩; have n0_ := aM (Kd.V_elder' (by (with_reducible repeat (first | apply Kd.V_alloc | apply Kd.V_drewN | apply Kd.V_drew)); exact HO3_4.out) (Kd.N_base ho0) hb); have n1_ := aM (Kd.N_elder' (by (with_reducible repeat (first | apply Kd.N_alloc | apply Kd.N_drewN | apply Kd.N_drew)); exact HO235.out) (Kd.N_base ho0) hb); have n2_ := aM (Kd.N_lower (Kd.N_mono (ok' := fun k_ => (P3_4_ k_ ∨ w.heap.size ≤ k_) ∧ some k_ ≠ (v234 : Value).ownBlock ∧ k_ ≠ gb232) ho0 (fun k_ hk_ => ⟨Or.elim hk_ (fun hs_ => hs_.1.1) (fun hn_ => (.inr (Nat.le_trans (lZ (by repeat (first | (with_reducible first | exact HB.out | apply lA | apply lN | apply lW | refine lS ?_ GE232.out) | exact HB.out))) hn_))), Or.elim hk_ (fun hs_ => hs_.2) (fun hn_ => (Kd.fresh' (Kd.N_lt (by (with_reducible repeat (first | apply Kd.N_alloc | apply Kd.N_drewN | apply Kd.N_drew)); exact HO235.out)) k_ hn_)), Or.elim hk_ (fun hs_ => hs_.1.2) (fun hn_ => (Kd.freshB (g := gb232) (o := .cells #[.bool a3_0, .int .i64 a3_1, .bool a3_2, .int .i64 a3_3, .slice A3_4 l3_4.length c3_4] 25 (0, 0)) (by (with_reducible repeat (first | refine bN ?_ _ | refine bW ?_ | refine bA ?_ _)); exact BK232.out) k_ hn_))⟩)) (lZ (by repeat (first | (with_reducible first | exact HB.out | apply lA | apply lN | apply lW | refine lS ?_ GE232.out) | exact HB.out)))); have n3_ := aM (blk_below (g := gb232) (o := .cells #[.bool a3_0, .int .i64 a3_1, .bool a3_2, .int .i64 a3_3, .slice A3_4 l3_4.length c3_4] 25 (0, 0)) (by (with_reducible repeat (first | refine bN ?_ _ | refine bW ?_ | refine bA ?_ _)); exact BK232.out) hb); have n4_ := aM (lT (by repeat (first | (with_reducible first | exact HB.out | apply lA | apply lN | apply lW | refine lS ?_ GE232.out) | exact HB.out)) hb); clear HO3_4; clear HO235; clear BK232; clear HB; have HO3_4 := n0_; have HO235 := n1_; have HO239 := n2_; have BK232 := n3_; have HB := n4_; clear n0_ n1_ n2_ n3_ n4_; (try clear hb); (try clear hb2); (try clear hk); (try clear hi); (try clear ho0)))
  go_loopg [9, 10] k (fun kq v9 v10 w' => ∃ (x9_1 : List (S38)) (x10_1 : List (S38)), Aside0 (phaetonref12_Reach.l0 kq l0 x9_1 x10_1 = some r) ∧ Aside0 (kq ≤ k) ∧ Aside0 (Kd.N k38 38 w' w.heap.size (fun k_ => (P3_4_ k_ ∨ w.heap.size ≤ k_) ∧ k_ ≠ gb232) v9 x9_1) ∧ Aside0 (Kd.N k38 38 w' w.heap.size (fun k_ => (P3_4_ k_ ∨ w.heap.size ≤ k_) ∧ some k_ ≠ (v9 : Value).ownBlock ∧ k_ ≠ gb232) v10 x10_1) ∧ Aside0 (Kd.V (Kd.int .u8) 5 w' w.heap.size (fun k_ => (P3_4_ k_ ∨ w.heap.size ≤ k_) ∧ some k_ ≠ (v9 : Value).ownBlock ∧ some k_ ≠ (v10 : Value).ownBlock ∧ k_ ≠ gb232) (.slice A3_4 l3_4.length c3_4) l3_4) ∧ Aside0 (w'.heap[gb232]? = some (.cells #[.bool a3_0, .int .i64 a3_1, .bool a3_2, .int .i64 a3_3, (.slice A3_4 l3_4.length c3_4)] 25 (0, 0))) ∧ Aside0 (Below w.heap.size w w'))
  case atStart => exact ⟨(y233), (t237), H', ⟨Nat.le_refl _⟩, ⟨by (with_reducible repeat (first | apply Kd.N_alloc | apply Kd.N_drewN | apply Kd.N_drew)); exact Kd.N_mono HO235.out (fun _ hk => ⟨hk.1.1, hk.1.2⟩)⟩, ⟨by (with_reducible repeat (first | apply Kd.N_alloc | apply Kd.N_drewN | apply Kd.N_drew)); exact HO239.out⟩, ⟨by (with_reducible repeat (first | apply Kd.V_alloc | apply Kd.V_drewN | apply Kd.V_drew)); exact Kd.V_mono HO3_4.out (fun _ hk => ⟨hk.1.1.1, ⟨hk.1.2, ⟨hk.2, hk.1.1.2⟩⟩⟩)⟩, ⟨by (with_reducible repeat (first | refine bN ?_ _ | refine bW ?_ | refine bA ?_ _)); exact BK232.out⟩, ⟨by repeat (first | (with_reducible first | exact HB.out | apply lA | apply lN | apply lW | refine lS ?_ GE232.out) | exact HB.out)⟩⟩
  case round =>
   clear H'
   try clear c1
   try clear c2
   try clear p2
   try clear c3
   try clear c6
   try clear hcz12_0
   try clear hcz12_1
   try clear hcz12_2
   try clear hcz12_3
   try clear hcz12_4
   try clear hfz12_0
   try clear hfz12_1
   try clear hfz12_2
   try clear hfz12_3
   try clear hfz12_4
   obtain ⟨x9_1, x10_1, HA, HK1, HO_9, HO_10, HO_233004, BK232, HB⟩ := hrel
   cases gk with
   | zero => exact absurd HA.out (by simp [phaetonref12_Reach.l0])
   | succ k1 =>
    have H := HA.out
    clear HA
    simp only [phaetonref12_Reach.l0] at H
    by_cases c14 : (x10_1.length : Int) > 0
    ·rw [if_pos c14] at H
     have c14b0 : decide (0 < (x10_1.length : Int)) = true := decide_eq_true c14
     have c14b1 : decide (0 < x10_1.length) = true := decide_eq_true (by omega)
     clear c14
     by_cases c15 : x9_1.length + x10_1.length < 2199023255552
     ·rw [if_pos c15] at H
      have LMc15 := aM c15
      clear c15
      obtain ⟨y240, hy240⟩ : ∃ y_ : List (S38), y_ = (x9_1 ++ x10_1) := ⟨_, rfl⟩
      replace H : (phaetonref12_Reach.l1 k1 l0 y240 x10_1 (([] : List (S38))) 0) = some r := by first | (rw [hy240]; with_reducible exact H) | (have H2_ := (Option.bind_some _ _).symm.trans H; rw [hy240]; with_reducible exact H2_) | (have H2_ := (Option.bind_some _ _).symm.trans H; with_reducible exact H2_) | with_reducible exact H | (rw [hy240]; exact H) | exact H
      have Ny240 := aM hy240
      clear hy240
      obtain ⟨y243, hy243⟩ : ∃ y_ : List (S38), y_ = (([] : List (S38))) := ⟨_, rfl⟩
      replace H : (phaetonref12_Reach.l1 k1 l0 y240 x10_1 y243 0) = some r := by first | (rw [hy243]; with_reducible exact H) | (have H2_ := (Option.bind_some _ _).symm.trans H; rw [hy243]; with_reducible exact H2_) | (have H2_ := (Option.bind_some _ _).symm.trans H; with_reducible exact H2_) | with_reducible exact H | (rw [hy243]; exact H) | exact H
      have Ny243 := aM hy243
      clear hy243
      have H' := aM H
      clear H
      obtain ⟨Ao16, co16, eo16⟩ := Kd.N_slice HO_10.out
      subst eo16
      go_wp2_with (first | ((with_reducible refine gate_builtin (b := .append) (xs := #[.tmp 26, .tmp 27]) rfl ?_); at_builtin; refine Kd.N_append_rows k38 (w0 := w) w.heap.size rfl (.tmp 26) (.tmp 27) 33 38 (.agg #[(.int .i64 0), (.bool false), (.int .i64 0), (.bool false), (.int .i64 0), (.slice none 0 0)]) 64 rfl Try.underlying33 info38 rfl (by decide) (by omega) u9 x9_1 x10_1 _ _ _ (fun k_ => (P3_4_ k_ ∨ w.heap.size ≤ k_) ∧ k_ ≠ gb232) (fun k_ => ((fun k_ => (P3_4_ k_ ∨ w.heap.size ≤ k_) ∧ k_ ≠ gb232)) k_ ∧ some k_ ≠ (u9 : Value).ownBlock) rfl rfl ?aO ?aR (fun _ hk => hk) ?aF ?aB ?aS ?aL ?_; (case aR => exact (by skip; exact Kd.N_F (Kd.N_mono (ok' := (fun k_ => ((fun k_ => (P3_4_ k_ ∨ w.heap.size ≤ k_) ∧ k_ ≠ gb232)) k_ ∧ some k_ ≠ (u9 : Value).ownBlock)) (HO_10.out) (fun k_ hk => ⟨⟨hk.1, hk.2.2⟩, hk.2.1⟩)))); (case aB => exact (by repeat (first | (with_reducible first | exact HB.out | apply lA | apply lN | apply lW | refine lS ?_ GE232.out) | exact HB.out))); (case aF => exact (fun k_ hk => ⟨(.inr (Nat.le_trans (lZ (by repeat (first | (with_reducible first | exact HB.out | apply lA | apply lN | apply lW | refine lS ?_ GE232.out) | exact HB.out))) hk)), Kd.freshB (g := gb232) (o := .cells #[.bool a3_0, .int .i64 a3_1, .bool a3_2, .int .i64 a3_3, .slice A3_4 l3_4.length c3_4] 25 (0, 0)) (by (with_reducible repeat (first | refine bN ?_ _ | refine bW ?_ | refine bA ?_ _)); exact BK232.out) k_ hk⟩)); (case aO => exact (by (with_reducible repeat (first | apply Kd.N_alloc | apply Kd.N_drewN | apply Kd.N_drew)); exact HO_9.out)); (case aS => exact (lZ (by repeat (first | (with_reducible first | exact HB.out | apply lA | apply lN | apply lW | refine lS ?_ GE232.out) | exact HB.out)))); (case aL => have := LMc15.out; omega); intro v241 w17 ho hb hg hat; rw [← Ny240.out] at ho; have n0_ := aM (Kd.N_afterv (ok := (fun k_ => (P3_4_ k_ ∨ w.heap.size ≤ k_) ∧ k_ ≠ gb232)) (by (with_reducible repeat (first | apply Kd.N_alloc | apply Kd.N_drewN | apply Kd.N_drew)); exact Kd.N_mono HO_10.out (fun _ hk => ⟨⟨hk.1, hk.2.2⟩, hk.2.1⟩)) hg hat); have n1_ := aM (Kd.V_afterv (ok := (fun k_ => (P3_4_ k_ ∨ w.heap.size ≤ k_) ∧ some k_ ≠ (.slice Ao16 x10_1.length co16 : Value).ownBlock ∧ k_ ≠ gb232)) (by (with_reducible repeat (first | apply Kd.V_alloc | apply Kd.V_drewN | apply Kd.V_drew)); exact Kd.V_mono HO_233004.out (fun _ hk => ⟨⟨hk.1, ⟨hk.2.2.1, hk.2.2.2⟩⟩, hk.2.1⟩)) hg hat); have n2_ := aM (blk_grown (g := gb232) (o := .cells #[.bool a3_0, .int .i64 a3_1, .bool a3_2, .int .i64 a3_3, .slice A3_4 l3_4.length c3_4] 25 (0, 0)) (by (with_reducible repeat (first | refine bN ?_ _ | refine bW ?_ | refine bA ?_ _)); exact BK232.out) hg (Kd.N_ne HO_9.out BK232.out (by decide))); have n3_ := aM (hb); have n4_ := aM (ho); clear HO_10; clear HO_233004; clear BK232; clear HB; clear HO_9; have HO_10 := n0_; have HO_233004 := n1_; have BK232 := n2_; have HB := n3_; have HO242 := n4_; clear n0_ n1_ n2_ n3_ n4_; clear ho hb hg hat) | ((with_reducible refine gate_dst (N := 29) rfl ?_); refine Kd.N_lit k38 _ 38 ?hg (N' := 29) ?hd (xs := ([] : List (S38))) (inner := []) (ok := (fun k_ => (P3_4_ k_ ∨ w.heap.size ≤ k_) ∧ some k_ ≠ (.slice Ao16 x10_1.length co16 : Value).ownBlock ∧ some k_ ≠ (v241 : Value).ownBlock ∧ k_ ≠ gb232)) (okp := (fun k_ => (P3_4_ k_ ∨ w.heap.size ≤ k_) ∧ some k_ ≠ (.slice Ao16 x10_1.length co16 : Value).ownBlock ∧ some k_ ≠ (v241 : Value).ownBlock ∧ k_ ≠ gb232)) ?hr ?hp (fun _ hk => hk) ((show ∀ k_, w17.heap.size ≤ k_ → (fun k_ => (P3_4_ k_ ∨ w.heap.size ≤ k_) ∧ some k_ ≠ (.slice Ao16 x10_1.length co16 : Value).ownBlock ∧ some k_ ≠ (v241 : Value).ownBlock ∧ k_ ≠ gb232) k_ from fun k_ hk => ⟨(.inr (Nat.le_trans (lZ (by repeat (first | (with_reducible first | exact HB.out | apply lA | apply lN | apply lW | refine lS ?_ GE232.out) | exact HB.out))) hk)), Kd.fresh' (Kd.N_lt (by (with_reducible repeat (first | apply Kd.N_alloc | apply Kd.N_drewN | apply Kd.N_drew)); exact HO_10.out)) k_ hk, Kd.fresh' (Kd.N_lt (by (with_reducible repeat (first | apply Kd.N_alloc | apply Kd.N_drewN | apply Kd.N_drew)); exact HO242.out)) k_ hk, Kd.freshB (g := gb232) (o := .cells #[.bool a3_0, .int .i64 a3_1, .bool a3_2, .int .i64 a3_3, .slice A3_4 l3_4.length c3_4] 25 (0, 0)) (by (with_reducible repeat (first | refine bN ?_ _ | refine bW ?_ | refine bA ?_ _)); exact BK232.out) k_ hk⟩) _ (Nat.le_refl _)) (Below.refl _ _) (Nat.le_refl _) (by simp) ?_; (case hd => rfl); (case hg => rfl); (case hr => first | (go_simp; done) | (go_simp; rfl)); (case hp => exact (Reps.none _ _)); intro v244 w18 ho19 hb hg_ hnew_; clear hg_ hnew_; (first | rw [← Ny243.out] at ho19 | (simp only [Int.reduceToNat] at ho19; rw [← Ny243.out] at ho19)); have n0_ := aM (Kd.N_elder' (by (with_reducible repeat (first | apply Kd.N_alloc | apply Kd.N_drewN | apply Kd.N_drew)); exact HO_10.out) (Kd.N_base ho19) hb); have n1_ := aM (Kd.V_elder' (by (with_reducible repeat (first | apply Kd.V_alloc | apply Kd.V_drewN | apply Kd.V_drew)); exact HO_233004.out) (Kd.N_base ho19) hb); have n2_ := aM (Kd.N_elder' (by (with_reducible repeat (first | apply Kd.N_alloc | apply Kd.N_drewN | apply Kd.N_drew)); exact HO242.out) (Kd.N_base ho19) hb); have n3_ := aM (Kd.N_lower ho19 (lZ (by repeat (first | (with_reducible first | exact HB.out | apply lA | apply lN | apply lW | refine lS ?_ GE232.out) | exact HB.out)))); have n4_ := aM (blk_below (g := gb232) (o := .cells #[.bool a3_0, .int .i64 a3_1, .bool a3_2, .int .i64 a3_3, .slice A3_4 l3_4.length c3_4] 25 (0, 0)) (by (with_reducible repeat (first | refine bN ?_ _ | refine bW ?_ | refine bA ?_ _)); exact BK232.out) hb); have n5_ := aM (lT (by repeat (first | (with_reducible first | exact HB.out | apply lA | apply lN | apply lW | refine lS ?_ GE232.out) | exact HB.out)) hb); clear HO_10; clear HO_233004; clear HO242; clear BK232; clear HB; have HO_10 := n0_; have HO_233004 := n1_; have HO242 := n2_; have HO245 := n3_; have BK232 := n4_; have HB := n5_; clear n0_ n1_ n2_ n3_ n4_ n5_; clear hb ho19))
      go_loopg [11, 12] k1 (fun kq v11 v12 w' => ∃ (x11_2 : List (S38)) (x12_2 : Int), v12 = .int .i64 x12_2 ∧ Aside0 (phaetonref12_Reach.l1 kq l0 y240 x10_1 x11_2 x12_2 = some r) ∧ Aside0 (kq ≤ k1) ∧ Aside0 (Kd.N k38 38 w' w.heap.size (fun k_ => (P3_4_ k_ ∨ w.heap.size ≤ k_) ∧ some k_ ≠ (v11 : Value).ownBlock ∧ k_ ≠ gb232) v241 y240) ∧ Aside0 (Kd.N k38 38 w' w.heap.size (fun k_ => (P3_4_ k_ ∨ w.heap.size ≤ k_) ∧ some k_ ≠ (v241 : Value).ownBlock ∧ some k_ ≠ (v11 : Value).ownBlock ∧ k_ ≠ gb232) (.slice Ao16 x10_1.length co16) x10_1) ∧ Aside0 (Kd.N k38 38 w' w.heap.size (fun k_ => (P3_4_ k_ ∨ w.heap.size ≤ k_) ∧ some k_ ≠ (v241 : Value).ownBlock ∧ some k_ ≠ ((.slice Ao16 x10_1.length co16) : Value).ownBlock ∧ k_ ≠ gb232) v11 x11_2) ∧ Aside0 (Kd.V (Kd.int .u8) 5 w' w.heap.size (fun k_ => (P3_4_ k_ ∨ w.heap.size ≤ k_) ∧ some k_ ≠ (v241 : Value).ownBlock ∧ some k_ ≠ ((.slice Ao16 x10_1.length co16) : Value).ownBlock ∧ some k_ ≠ (v11 : Value).ownBlock ∧ k_ ≠ gb232) (.slice A3_4 l3_4.length c3_4) l3_4) ∧ Aside0 (w'.heap[gb232]? = some (.cells #[.bool a3_0, .int .i64 a3_1, .bool a3_2, .int .i64 a3_3, (.slice A3_4 l3_4.length c3_4)] 25 (0, 0))) ∧ Aside0 (Below w.heap.size w w'))
      case atStart => exact ⟨(y243), (0), (by first | rfl | (simp; done) | (simp [*]; done)), H', ⟨Nat.le_refl _⟩, ⟨by (with_reducible repeat (first | apply Kd.N_alloc | apply Kd.N_drewN | apply Kd.N_drew)); exact Kd.N_mono HO242.out (fun _ hk => ⟨hk.1.1, ⟨hk.2, hk.1.2⟩⟩)⟩, ⟨by (with_reducible repeat (first | apply Kd.N_alloc | apply Kd.N_drewN | apply Kd.N_drew)); exact Kd.N_mono HO_10.out (fun _ hk => ⟨hk.1.1.1, ⟨hk.1.2, ⟨hk.2, hk.1.1.2⟩⟩⟩)⟩, ⟨by (with_reducible repeat (first | apply Kd.N_alloc | apply Kd.N_drewN | apply Kd.N_drew)); exact Kd.N_mono HO245.out (fun _ hk => ⟨hk.1, ⟨hk.2.2.1, ⟨hk.2.1, hk.2.2.2⟩⟩⟩)⟩, ⟨by (with_reducible repeat (first | apply Kd.V_alloc | apply Kd.V_drewN | apply Kd.V_drew)); exact Kd.V_mono HO_233004.out (fun _ hk => ⟨hk.1.1.1, ⟨hk.1.2, ⟨hk.1.1.2.1, ⟨hk.2, hk.1.1.2.2⟩⟩⟩⟩)⟩, ⟨by (with_reducible repeat (first | refine bN ?_ _ | refine bW ?_ | refine bA ?_ _)); exact BK232.out⟩, ⟨by repeat (first | (with_reducible first | exact HB.out | apply lA | apply lN | apply lW | refine lS ?_ GE232.out) | exact HB.out)⟩⟩
      case round =>
       clear H'
       try clear c1
       try clear c2
       try clear p2
       try clear c3
       try clear c6
       try clear c14
       try clear c14b0
       try clear c14b1
       try clear c15
       try clear c19
       try clear hcz12_0
       try clear hcz12_1
       try clear hcz12_2
       try clear hcz12_3
       try clear hcz12_4
       try clear hfz12_0
       try clear hfz12_1
       try clear hfz12_2
       try clear hfz12_3
       try clear hfz12_4
       try clear p2
       obtain ⟨x11_2, x12_2, rfl, HA, HK2, HO_9, HO_10, HO_11, HO_233004, BK232, HB⟩ := hrel
       cases gk with
       | zero => exact absurd HA.out (by simp [phaetonref12_Reach.l1])
       | succ k2 =>
        have H := HA.out
        clear HA
        simp only [phaetonref12_Reach.l1] at H
        by_cases c20 : x12_2 < (x10_1.length : Int)
        ·rw [if_pos c20] at H
         have c20b0 : decide (x12_2 < (x10_1.length : Int)) = true := decide_eq_true c20
         clear c20
         by_cases c21 : 0 ≤ x12_2
         ·rw [if_pos c21] at H
          have c21b0 : decide (0 ≤ x12_2) = true := decide_eq_true c21
          clear c21
          replace H := Option.bind_eq_some_iff.mp H
          obtain ⟨t248, A220, H⟩ := H
          replace H : (if x11_2.length + t248.length < 2199023255552 then (phaetonref12_Reach.l1 k2 l0 y240 x10_1 (x11_2 ++ t248) (wrap64 (x12_2 + 1))) else (none)) = some r := H
          have A22 := aM A220
          clear A220
          by_cases c23 : x11_2.length + t248.length < 2199023255552
          ·rw [if_pos c23] at H
           have LMc23 := aM c23
           clear c23
           obtain ⟨y251, hy251⟩ : ∃ y_ : List (S38), y_ = (x11_2 ++ t248) := ⟨_, rfl⟩
           replace H : (phaetonref12_Reach.l1 k2 l0 y240 x10_1 y251 (wrap64 (x12_2 + 1))) = some r := by first | (rw [hy251]; with_reducible exact H) | (have H2_ := (Option.bind_some _ _).symm.trans H; rw [hy251]; with_reducible exact H2_) | (have H2_ := (Option.bind_some _ _).symm.trans H; with_reducible exact H2_) | with_reducible exact H | (rw [hy251]; exact H) | exact H
           have Ny251 := aM hy251
           clear hy251
           have H' := aM H
           clear H
           try go_wp2
           have n0_ := aM (Kd.N_drew HO_9.out)
           have n1_ := aM (Kd.N_drew HO_10.out)
           have n2_ := aM (Kd.N_drew HO_11.out)
           have n3_ := aM (Kd.V_drew HO_233004.out)
           have n4_ := aM (bW BK232.out)
           have n5_ := aM (lW HB.out)
           clear HO_9
           clear HO_10
           clear HO_11
           clear HO_233004
           clear BK232
           clear HB
           have HO_9 := n0_
           have HO_10 := n1_
           have HO_11 := n2_
           have HO_233004 := n3_
           have BK232 := n4_
           have HB := n5_
           clear n0_ n1_ n2_ n3_ n4_ n5_
           have p246 : 0 ≤ (x12_2 : Int) := oD (by first | (with_reducible assumption) | assumption)
           have q246 : x12_2 < (x10_1.length : Int) := oD (by first | (with_reducible assumption) | assumption)
           obtain ⟨ad246, A246_5, c246_5, e246, hx246_0, hx246_1, hx246_2, hx246_3, hx246_4, hx246_5, hl246_5, hi246_5⟩ := at_T38 (Kd.N_reads' HO_10.out).2.2 x12_2 p246 q246
           cases e246
           obtain ⟨ce246, hce246, hMe246, hcc246⟩ := Kd.N_get HO_10.out z38 x12_2 p246 (by first | exact q246 | exact oD (by first | (with_reducible assumption) | assumption) | (have e_ := (Kd.N_reads' HO_10.out).1; omega))
           obtain ⟨ua246_5, uc246_5, rfl, ul246_5, ge246_5⟩ := k38_openF hMe246
           have hv246_5 := hcc246 5 _ rfl
           rw [add_field _ _ 5 (by omega)] at hv246_5
           replace hv246_5 := Option.some.inj (hv246_5.symm.trans hx246_5)
           injection hv246_5 with hva_ hvn_ hvc_
           rw [hva_] at ge246_5
           rw [hvc_] at ul246_5
           have HL246_5 := aM (show Kd.V (Kd.int .u8) 5 _ w.heap.size _ _ ((rd_T38 x10_1 x12_2).f1.f4) from Kd.V_mk ul246_5 ge246_5)
           clear hva_ hvn_ hvc_ ge246_5 ul246_5
           clear hcc246 hce246
           have HR246_5 := aM hi246_5
           have HC246_5 := aM hl246_5
           clear hi246_5 hl246_5
           replace p246 := eq_true p246
           replace q246 := eq_true q246
           have p247 : 0 ≤ (x12_2 : Int) := oD (by first | (with_reducible assumption) | assumption)
           have q247 : x12_2 < (x10_1.length : Int) := oD (by first | (with_reducible assumption) | assumption)
           obtain ⟨ad247, A247_5, c247_5, e247, hx247_0, hx247_1, hx247_2, hx247_3, hx247_4, hx247_5, hl247_5, hi247_5⟩ := at_T38 (Kd.N_reads' HO_10.out).2.2 x12_2 p247 q247
           obtain rfl : ad246 = ad247 := (by injection e247)
           obtain ⟨ce247, hce247, hMe247, hcc247⟩ := Kd.N_get HO_10.out z38 x12_2 p247 (by first | exact q247 | exact oD (by first | (with_reducible assumption) | assumption) | (have e_ := (Kd.N_reads' HO_10.out).1; omega))
           obtain ⟨ua247_5, uc247_5, rfl, ul247_5, ge247_5⟩ := k38_openF hMe247
           have hv247_5 := hcc247 5 _ rfl
           rw [add_field _ _ 5 (by omega)] at hv247_5
           replace hv247_5 := Option.some.inj (hv247_5.symm.trans hx247_5)
           injection hv247_5 with hva_ hvn_ hvc_
           rw [hva_] at ge247_5
           rw [hvc_] at ul247_5
           have HL247_5 := aM (show Kd.V (Kd.int .u8) 5 _ w.heap.size _ _ ((rd_T38 x10_1 x12_2).f1.f4) from Kd.V_mk ul247_5 ge247_5)
           clear hva_ hvn_ hvc_ ge247_5 ul247_5
           clear hcc247 hce247
           have HR247_5 := aM hi247_5
           have HC247_5 := aM hl247_5
           clear hi247_5 hl247_5
           replace p247 := eq_true p247
           replace q247 := eq_true q247
           have ea_ := Option.some.inj (hx246_5.symm.trans hx247_5)
           injection ea_ with ea_ en_ ec_
           subst ea_
           subst ec_
           clear en_
           refine start_ (n := 15) (S := fun w' => w'.cell? (ad246.add ((x12_2).toNat * 6)) = some (.int .i64 ((rd_T38 x10_1 x12_2).f0)) ∧ w'.cell? ⟨(ad246.add ((x12_2).toNat * 6)).block, (ad246.add ((x12_2).toNat * 6)).off + 1, none⟩ = some (.bool ((rd_T38 x10_1 x12_2).f1.f0)) ∧ w'.cell? ⟨(ad246.add ((x12_2).toNat * 6)).block, (ad246.add ((x12_2).toNat * 6)).off + 2, none⟩ = some (.int .i64 ((rd_T38 x10_1 x12_2).f1.f1)) ∧ w'.cell? ⟨(ad246.add ((x12_2).toNat * 6)).block, (ad246.add ((x12_2).toNat * 6)).off + 3, none⟩ = some (.bool ((rd_T38 x10_1 x12_2).f1.f2)) ∧ w'.cell? ⟨(ad246.add ((x12_2).toNat * 6)).block, (ad246.add ((x12_2).toNat * 6)).off + 4, none⟩ = some (.int .i64 ((rd_T38 x10_1 x12_2).f1.f3)) ∧ w'.cell? ⟨(ad246.add ((x12_2).toNat * 6)).block, (ad246.add ((x12_2).toNat * 6)).off + 5, none⟩ = some (.slice A246_5 ((rd_T38 x10_1 x12_2).f1.f4).length c246_5) ∧ w'.cell? (ad246.add ((x12_2).toNat * 6)) = some (.int .i64 ((rd_T38 x10_1 x12_2).f0)) ∧ w'.cell? ⟨(ad246.add ((x12_2).toNat * 6)).block, (ad246.add ((x12_2).toNat * 6)).off + 1, none⟩ = some (.bool ((rd_T38 x10_1 x12_2).f1.f0)) ∧ w'.cell? ⟨(ad246.add ((x12_2).toNat * 6)).block, (ad246.add ((x12_2).toNat * 6)).off + 2, none⟩ = some (.int .i64 ((rd_T38 x10_1 x12_2).f1.f1)) ∧ w'.cell? ⟨(ad246.add ((x12_2).toNat * 6)).block, (ad246.add ((x12_2).toNat * 6)).off + 3, none⟩ = some (.bool ((rd_T38 x10_1 x12_2).f1.f2)) ∧ w'.cell? ⟨(ad246.add ((x12_2).toNat * 6)).block, (ad246.add ((x12_2).toNat * 6)).off + 4, none⟩ = some (.int .i64 ((rd_T38 x10_1 x12_2).f1.f3)) ∧ w'.cell? ⟨(ad246.add ((x12_2).toNat * 6)).block, (ad246.add ((x12_2).toNat * 6)).off + 5, none⟩ = some (.slice A246_5 ((rd_T38 x10_1 x12_2).f1.f4).length c246_5)) (ds := [13]) #[false, false, false, false, false, false, false, false, false, false, false, false, false, false, false] (by kernel_rfl) rfl rfl ⟨hx246_0, hx246_1, hx246_2, hx246_3, hx246_4, hx246_5, hx247_0, hx247_1, hx247_2, hx247_3, hx247_4, hx247_5⟩ (fun hHeld => ?_); refine with_tabW phaetonref12_Reach.tab11 phaetonref12_Reach.bits11 (fun HT_ HW_ => ?_)
           generalize wr.drew = w24 at HO_9 HO_10 HO_11 HO_233004 BK232 HB HL246_5 HL247_5 HR246_5 HR247_5 hx246_0 hx246_1 hx246_2 hx246_3 hx246_4 hx246_5 hx247_0 hx247_1 hx247_2 hx247_3 hx247_4 hx247_5 hHeld ⊢
           refine pure_ (i := 0) (N := some 36) (v := ?_) (a' := ?_) #[true, false, false, false, false, false, false, false, false, false, false, false, false, false, false] rfl rfl (any_of HT_.out (by kernel_rfl)) (fun _ _ _ h => h) (Or.inl ⟨by rfl, ?_⟩) ?_ ?_
           rotate_left
           ·intro w'
            go_simp
            with_reducible rfl
           rotate_left
           ·simp only [Act.put, sT, sZ, sS, i64_w, i32_w]
            rfl
           refine pure_ (i := 1) (N := some 37) (v := ?_) (a' := ?_) #[true, true, false, false, false, false, false, false, false, false, false, false, false, false, false] rfl rfl (any_of HT_.out (by kernel_rfl)) (fun _ _ _ h => h) (Or.inl ⟨by rfl, ?_⟩) ?_ ?_
           rotate_left
           ·intro w'
            go_simp
            with_reducible rfl
           rotate_left
           ·simp only [Act.put, sT, sZ, sS, i64_w, i32_w]
            rfl
           refine pure_ (i := 2) (N := some 38) (v := ?_) (a' := ?_) #[true, true, true, false, false, false, false, false, false, false, false, false, false, false, false] rfl rfl (any_of HT_.out (by kernel_rfl)) (fun _ _ _ h => h) (Or.inl ⟨by rfl, ?_⟩) ?_ ?_
           rotate_left
           ·intro w'
            go_simp
            with_reducible rfl
           rotate_left
           ·simp only [Act.put, sT, sZ, sS, i64_w, i32_w]
            rfl
           refine pure_ (i := 3) (N := some 39) (v := ?_) (a' := ?_) #[true, true, true, true, false, false, false, false, false, false, false, false, false, false, false] rfl rfl (any_of HT_.out (by kernel_rfl)) (fun _ _ _ h => h) (Or.inl ⟨by rfl, ?_⟩) ?_ ?_
           rotate_left
           ·intro w'
            go_simp
            with_reducible rfl
           rotate_left
           ·simp only [Act.put, sT, sZ, sS, i64_w, i32_w]
            rfl
           refine pure_ (i := 4) (N := some 40) (v := ?_) (a' := ?_) #[true, true, true, true, true, false, false, false, false, false, false, false, false, false, false] rfl rfl (any_of HT_.out (by kernel_rfl)) (fun _ _ _ h => h) (Or.inl ⟨by rfl, ?_⟩) ?_ ?_
           rotate_left
           ·intro w'
            go_simp
            with_reducible rfl
           rotate_left
           ·simp only [Act.put, sT, sZ, sS, i64_w, i32_w]
            rfl
           refine pure_ (i := 5) (N := some 41) (v := ?_) (a' := ?_) #[true, true, true, true, true, true, false, false, false, false, false, false, false, false, false] rfl rfl (any_of HT_.out (by kernel_rfl)) (fun _ _ _ h => h) (Or.inl ⟨by rfl, ?_⟩) ?_ ?_
           rotate_left
           ·intro w'
            go_simp
            with_reducible rfl
           rotate_left
           ·simp only [Act.put, sT, sZ, sS, i64_w, i32_w]
            rfl
           refine pure_ (i := 7) (N := some 43) (v := ?_) (a' := ?_) #[true, true, true, true, true, true, false, true, false, false, false, false, false, false, false] rfl rfl (any_of HT_.out (by kernel_rfl)) (fun _ _ _ h => h) (Or.inl ⟨by rfl, ?_⟩) ?_ ?_
           rotate_left
           ·intro w'
            go_simp
            with_reducible rfl
           rotate_left
           ·simp only [Act.put, sT, sZ, sS, i64_w, i32_w]
            rfl
           refine pure_ (i := 8) (N := some 44) (v := ?_) (a' := ?_) #[true, true, true, true, true, true, false, true, true, false, false, false, false, false, false] rfl rfl (any_of HT_.out (by kernel_rfl)) (fun _ _ _ h => h) (Or.inl ⟨by rfl, ?_⟩) ?_ ?_
           rotate_left
           ·intro w'
            go_simp
            with_reducible rfl
           rotate_left
           ·simp only [Act.put, sT, sZ, sS, i64_w, i32_w]
            rfl
           refine pure_ (i := 9) (N := some 45) (v := ?_) (a' := ?_) #[true, true, true, true, true, true, false, true, true, true, false, false, false, false, false] rfl rfl (any_of HT_.out (by kernel_rfl)) (fun _ _ _ h => h) (Or.inl ⟨by rfl, ?_⟩) ?_ ?_
           rotate_left
           ·intro w'
            go_simp
            with_reducible rfl
           rotate_left
           ·simp only [Act.put, sT, sZ, sS, i64_w, i32_w]
            rfl
           refine pure_ (i := 10) (N := some 46) (v := ?_) (a' := ?_) #[true, true, true, true, true, true, false, true, true, true, true, false, false, false, false] rfl rfl (any_of HT_.out (by kernel_rfl)) (fun _ _ _ h => h) (Or.inl ⟨by rfl, ?_⟩) ?_ ?_
           rotate_left
           ·intro w'
            go_simp
            with_reducible rfl
           rotate_left
           ·simp only [Act.put, sT, sZ, sS, i64_w, i32_w]
            rfl
           refine take_ (i := 6) (N := some 42) (v := ?_) (a' := ?_) #[true, true, true, true, true, true, true, true, true, true, true, false, false, false, false] rfl rfl (take_ofW HT_.out HW_.out (by kernel_rfl)) (fun _ _ _ h => h) (Or.inl ⟨by rfl, ?_⟩) hHeld ?_ ?_
           rotate_left
           ·rintro w' ⟨s0, s1, s2, s3, s4, s5, s6, s7, s8, s9, s10, s11⟩
            go_simp
            with_reducible rfl
           rotate_left
           ·simp only [Act.put, sT, sZ, sS, i64_w, i32_w]
            rfl
           refine take_ (i := 11) (N := some 47) (v := ?_) (a' := ?_) #[true, true, true, true, true, true, true, true, true, true, true, true, false, false, false] rfl rfl (take_ofW HT_.out HW_.out (by kernel_rfl)) (fun _ _ _ h => h) (Or.inl ⟨by rfl, ?_⟩) hHeld ?_ ?_
           rotate_left
           ·rintro w' ⟨s0, s1, s2, s3, s4, s5, s6, s7, s8, s9, s10, s11⟩
            go_simp
            with_reducible rfl
           rotate_left
           ·simp only [Act.put, sT, sZ, sS, i64_w, i32_w]
            rfl
           refine one_ (i := 12) (N := some 48) #[true, true, true, true, true, true, true, true, true, true, true, true, true, false, false] rfl rfl (one_of HT_.out (by kernel_rfl)) (by decide) (fun K hK => ?_)
           refine goes_ Try.func19 (by kernel_rfl) rfl #[.slice A0 l0.length c0, .int .i64 ((rd_T38 x10_1 x12_2).f0), .agg #[.bool ((rd_T38 x10_1 x12_2).f1.f0), .int .i64 ((rd_T38 x10_1 x12_2).f1.f1), .bool ((rd_T38 x10_1 x12_2).f1.f2), .int .i64 ((rd_T38 x10_1 x12_2).f1.f3), .slice A246_5 ((rd_T38 x10_1 x12_2).f1.f4).length c246_5]] (by rfl) rfl rfl (by (try simp only [List.map_toArray, List.map_cons, List.map_nil]); first | done | rfl | (simp only [List.length_drop, List.length_take]; rfl)) ?_
           with_reducible refine (phaetonref12_Hops.calls k2 _ _ l0 ((rd_T38 x10_1 x12_2).f0) ((rd_T38 x10_1 x12_2).f1.f0) ((rd_T38 x10_1 x12_2).f1.f1) ((rd_T38 x10_1 x12_2).f1.f2) ((rd_T38 x10_1 x12_2).f1.f3) (fun k_ => (((P3_4_ k_ ∨ w.heap.size ≤ k_) ∧ (some k_ ≠ (v241 : Value).ownBlock ∧ (some k_ ≠ (u11 : Value).ownBlock ∧ k_ ≠ gb232))) ∧ some k_ ≠ (.slice (some ad246) x10_1.length co16 : Value).ownBlock)) _ _ ((rd_T38 x10_1 x12_2).f1.f4) t248 _ ?side1 ?side2 ?side3 A22.out).mono ?_
           (case side1 => repeat (first | exact (Kd.C_below HR0.out HB.out) | (with_reducible refine Kd.C_alloc ?_ _) | (with_reducible refine Kd.C_drewN ?_ _) | (with_reducible refine Kd.C_drew ?_)))
           (case side2 => exact HC0.out)
           (case side3 => exact HL247_5.out)
           rintro e w25 ⟨v249, rfl, ho0, hb⟩
           have HS0_ := (hb.cell (wl _ _ (hHeld.1))).trans (hHeld.1)
           have HS1_ := (hb.cell (wl _ _ (hHeld.2.1))).trans (hHeld.2.1)
           have HS2_ := (hb.cell (wl _ _ (hHeld.2.2.1))).trans (hHeld.2.2.1)
           have HS3_ := (hb.cell (wl _ _ (hHeld.2.2.2.1))).trans (hHeld.2.2.2.1)
           have HS4_ := (hb.cell (wl _ _ (hHeld.2.2.2.2.1))).trans (hHeld.2.2.2.2.1)
           have HS5_ := (hb.cell (wl _ _ (hHeld.2.2.2.2.2.1))).trans (hHeld.2.2.2.2.2.1)
           have HS6_ := (hb.cell (wl _ _ (hHeld.2.2.2.2.2.2.1))).trans (hHeld.2.2.2.2.2.2.1)
           have HS7_ := (hb.cell (wl _ _ (hHeld.2.2.2.2.2.2.2.1))).trans (hHeld.2.2.2.2.2.2.2.1)
           have HS8_ := (hb.cell (wl _ _ (hHeld.2.2.2.2.2.2.2.2.1))).trans (hHeld.2.2.2.2.2.2.2.2.1)
           have HS9_ := (hb.cell (wl _ _ (hHeld.2.2.2.2.2.2.2.2.2.1))).trans (hHeld.2.2.2.2.2.2.2.2.2.1)
           have HS10_ := (hb.cell (wl _ _ (hHeld.2.2.2.2.2.2.2.2.2.2.1))).trans (hHeld.2.2.2.2.2.2.2.2.2.2.1)
           have HS11_ := (hb.cell (wl _ _ (hHeld.2.2.2.2.2.2.2.2.2.2.2))).trans (hHeld.2.2.2.2.2.2.2.2.2.2.2)
           refine ⟨_, rfl, ?_⟩
           have n0_ := aM (Kd.N_elder' (by (with_reducible repeat (first | apply Kd.N_alloc | apply Kd.N_drewN | apply Kd.N_drew)); exact HO_9.out) (Kd.N_base ho0) hb)
           have n1_ := aM (Kd.N_elder' (by (with_reducible repeat (first | apply Kd.N_alloc | apply Kd.N_drewN | apply Kd.N_drew)); exact HO_10.out) (Kd.N_base ho0) hb)
           have n2_ := aM (Kd.N_elder' (by (with_reducible repeat (first | apply Kd.N_alloc | apply Kd.N_drewN | apply Kd.N_drew)); exact HO_11.out) (Kd.N_base ho0) hb)
           have n3_ := aM (Kd.V_elder' (by (with_reducible repeat (first | apply Kd.V_alloc | apply Kd.V_drewN | apply Kd.V_drew)); exact HO_233004.out) (Kd.N_base ho0) hb)
           have n4_ := aM (Kd.V_elder' (by (with_reducible repeat (first | apply Kd.V_alloc | apply Kd.V_drewN | apply Kd.V_drew)); exact HL246_5.out) (Kd.N_base ho0) hb)
           have n5_ := aM (Kd.V_elder' (by (with_reducible repeat (first | apply Kd.V_alloc | apply Kd.V_drewN | apply Kd.V_drew)); exact HL247_5.out) (Kd.N_base ho0) hb)
           have n6_ := aM (Kd.N_lower (Kd.N_mono (ok' := fun k_ => (P3_4_ k_ ∨ w.heap.size ≤ k_) ∧ some k_ ≠ (v241 : Value).ownBlock ∧ some k_ ≠ (.slice (some ad246) x10_1.length co16 : Value).ownBlock ∧ some k_ ≠ (u11 : Value).ownBlock ∧ k_ ≠ gb232) ho0 (fun k_ hk_ => ⟨Or.elim hk_ (fun hs_ => hs_.1.1) (fun hn_ => (.inr (Nat.le_trans (lZ (by repeat (first | (with_reducible first | exact HB.out | apply lA | apply lN | apply lW | refine lS ?_ GE232.out) | exact HB.out))) hn_))), Or.elim hk_ (fun hs_ => hs_.1.2.1) (fun hn_ => (Kd.fresh' (Kd.N_lt (by (with_reducible repeat (first | apply Kd.N_alloc | apply Kd.N_drewN | apply Kd.N_drew)); exact HO_9.out)) k_ hn_)), Or.elim hk_ (fun hs_ => hs_.2) (fun hn_ => (Kd.fresh' (Kd.N_lt (by (with_reducible repeat (first | apply Kd.N_alloc | apply Kd.N_drewN | apply Kd.N_drew)); exact HO_10.out)) k_ hn_)), Or.elim hk_ (fun hs_ => hs_.1.2.2.1) (fun hn_ => (Kd.fresh' (Kd.N_lt (by (with_reducible repeat (first | apply Kd.N_alloc | apply Kd.N_drewN | apply Kd.N_drew)); exact HO_11.out)) k_ hn_)), Or.elim hk_ (fun hs_ => hs_.1.2.2.2) (fun hn_ => (Kd.freshB (g := gb232) (o := .cells #[.bool a3_0, .int .i64 a3_1, .bool a3_2, .int .i64 a3_3, .slice A3_4 l3_4.length c3_4] 25 (0, 0)) (by (with_reducible repeat (first | refine bN ?_ _ | refine bW ?_ | refine bA ?_ _)); exact BK232.out) k_ hn_))⟩)) (lZ (by repeat (first | (with_reducible first | exact HB.out | apply lA | apply lN | apply lW | refine lS ?_ GE232.out) | exact HB.out))))
           have n7_ := aM (blk_below (g := gb232) (o := .cells #[.bool a3_0, .int .i64 a3_1, .bool a3_2, .int .i64 a3_3, .slice A3_4 l3_4.length c3_4] 25 (0, 0)) (by (with_reducible repeat (first | refine bN ?_ _ | refine bW ?_ | refine bA ?_ _)); exact BK232.out) hb)
           have n8_ := aM (Kd.C_below (by repeat (first | (with_reducible exact HR246_5.out) | (with_reducible refine Kd.C_alloc ?_ _) | (with_reducible refine Kd.C_drewN ?_ _) | (with_reducible refine Kd.C_drew ?_) | exact HR246_5.out)) hb)
           have n9_ := aM (Kd.C_below (by repeat (first | (with_reducible exact HR247_5.out) | (with_reducible refine Kd.C_alloc ?_ _) | (with_reducible refine Kd.C_drewN ?_ _) | (with_reducible refine Kd.C_drew ?_) | exact HR247_5.out)) hb)
           have n10_ := aM (lT (by repeat (first | (with_reducible first | exact HB.out | apply lA | apply lN | apply lW | refine lS ?_ GE232.out) | exact HB.out)) hb)
           clear HO_9
           clear HO_10
           clear HO_11
           clear HO_233004
           clear HL246_5
           clear HL247_5
           clear BK232
           clear HR246_5
           clear HR247_5
           clear HB
           have HO_9 := n0_
           have HO_10 := n1_
           have HO_11 := n2_
           have HO_233004 := n3_
           have HL246_5 := n4_
           have HL247_5 := n5_
           have HO250 := n6_
           have BK232 := n7_
           have HR246_5 := n8_
           have HR247_5 := n9_
           have HB := n10_
           clear n0_ n1_ n2_ n3_ n4_ n5_ n6_ n7_ n8_ n9_ n10_
           (try clear hb)
           (try clear hb2)
           (try clear hk)
           (try clear hi)
           (try clear ho0)
           obtain ⟨Ao27, co27, eo27⟩ := Kd.N_slice HO250.out
           (first | subst eo27 | (injection eo27 with f1_ f2_ f3_; have f4_ := f1_.symm; have f5_ := f3_.symm; clear f1_ f2_ f3_; subst f4_; subst f5_))
           refine hK.out _ _ ⟨HS0_, HS1_, HS2_, HS3_, HS4_, HS5_, HS6_, HS7_, HS8_, HS9_, HS10_, HS11_⟩ (fun hHeld => ?_)
           clear hK K
           refine norm_ (a' := ?_) ?_ ?_
           rotate_left
           ·show Act.put _ (some 48) _ = _
            simp only [Act.put, sT, sZ, sS, i64_w, i32_w]
            rfl
           refine last_ (i := 13) (N := some 49) #[true, true, true, true, true, true, true, true, true, true, true, true, true, true, false] rfl rfl (one_of HT_.out (by kernel_rfl)) (by decide) (fun K hK => ?_)
           refine Kd.N_append_rows_step k38 (w0 := w) w.heap.size (by rfl) (.tmp 36) (.tmp 48) 33 38 (.agg #[(.int .i64 0), (.bool false), (.int .i64 0), (.bool false), (.int .i64 0), (.slice none 0 0)]) 64 rfl Try.underlying33 info38 rfl (by decide) (by omega) u11 x11_2 t248 _ _ _ (fun k_ => (P3_4_ k_ ∨ w.heap.size ≤ k_) ∧ some k_ ≠ (v241 : Value).ownBlock ∧ some k_ ≠ (.slice (some ad246) x10_1.length co16 : Value).ownBlock ∧ k_ ≠ gb232) (fun k_ => ((fun k_ => (P3_4_ k_ ∨ w.heap.size ≤ k_) ∧ some k_ ≠ (v241 : Value).ownBlock ∧ some k_ ≠ (.slice (some ad246) x10_1.length co16 : Value).ownBlock ∧ k_ ≠ gb232)) k_ ∧ some k_ ≠ (u11 : Value).ownBlock) rfl rfl ?aO ?aR (fun _ hk => hk) ?aF ?aB ?aS ?aL ?_
           (case aR => exact (by skip; exact Kd.N_F (Kd.N_mono (ok' := (fun k_ => ((fun k_ => (P3_4_ k_ ∨ w.heap.size ≤ k_) ∧ some k_ ≠ (v241 : Value).ownBlock ∧ some k_ ≠ (.slice (some ad246) x10_1.length co16 : Value).ownBlock ∧ k_ ≠ gb232)) k_ ∧ some k_ ≠ (u11 : Value).ownBlock)) (HO250.out) (fun k_ hk => ⟨⟨hk.1, ⟨hk.2.1, ⟨hk.2.2.1, hk.2.2.2.2⟩⟩⟩, hk.2.2.2.1⟩))))
           (case aB => exact (by repeat (first | (with_reducible first | exact HB.out | apply lA | apply lN | apply lW | refine lS ?_ GE232.out) | exact HB.out)))
           (case aF => exact (fun k_ hk => ⟨(.inr (Nat.le_trans (lZ (by repeat (first | (with_reducible first | exact HB.out | apply lA | apply lN | apply lW | refine lS ?_ GE232.out) | exact HB.out))) hk)), Kd.fresh' (Kd.N_lt (by (with_reducible repeat (first | apply Kd.N_alloc | apply Kd.N_drewN | apply Kd.N_drew)); exact HO_9.out)) k_ hk, Kd.fresh' (Kd.N_lt (by (with_reducible repeat (first | apply Kd.N_alloc | apply Kd.N_drewN | apply Kd.N_drew)); exact HO_10.out)) k_ hk, Kd.freshB (g := gb232) (o := .cells #[.bool a3_0, .int .i64 a3_1, .bool a3_2, .int .i64 a3_3, .slice A3_4 l3_4.length c3_4] 25 (0, 0)) (by (with_reducible repeat (first | refine bN ?_ _ | refine bW ?_ | refine bA ?_ _)); exact BK232.out) k_ hk⟩))
           (case aO => exact (by (with_reducible repeat (first | apply Kd.N_alloc | apply Kd.N_drewN | apply Kd.N_drew)); exact Kd.N_mono HO_11.out (fun _ hk => ⟨hk.1.1, ⟨hk.1.2.1, ⟨hk.1.2.2.1, hk.1.2.2.2⟩⟩⟩)))
           (case aS => exact (lZ (by repeat (first | (with_reducible first | exact HB.out | apply lA | apply lN | apply lW | refine lS ?_ GE232.out) | exact HB.out))))
           (case aL => have := LMc23.out; omega)
           intro v252 w26 ho hb hg hat
           rw [← Ny251.out] at ho
           have n0_ := aM (Kd.N_afterv (ok := (fun k_ => (P3_4_ k_ ∨ w.heap.size ≤ k_) ∧ some k_ ≠ (.slice Ao27 t248.length co27 : Value).ownBlock ∧ k_ ≠ gb232)) (by (with_reducible repeat (first | apply Kd.N_alloc | apply Kd.N_drewN | apply Kd.N_drew)); exact Kd.N_mono HO_9.out (fun _ hk => ⟨⟨hk.1.1, ⟨hk.2, hk.1.2.2⟩⟩, hk.1.2.1⟩)) hg hat)
           have n1_ := aM (Kd.N_afterv (ok := (fun k_ => (P3_4_ k_ ∨ w.heap.size ≤ k_) ∧ some k_ ≠ (v241 : Value).ownBlock ∧ some k_ ≠ (.slice Ao27 t248.length co27 : Value).ownBlock ∧ k_ ≠ gb232)) (by (with_reducible repeat (first | apply Kd.N_alloc | apply Kd.N_drewN | apply Kd.N_drew)); exact Kd.N_mono HO_10.out (fun _ hk => ⟨⟨hk.1.1, ⟨hk.1.2.1, ⟨hk.2, hk.1.2.2.2⟩⟩⟩, hk.1.2.2.1⟩)) hg hat)
           have n2_ := aM (Kd.V_afterv (ok := (fun k_ => (P3_4_ k_ ∨ w.heap.size ≤ k_) ∧ some k_ ≠ (v241 : Value).ownBlock ∧ some k_ ≠ (.slice (some ad246) x10_1.length co16 : Value).ownBlock ∧ some k_ ≠ (.slice Ao27 t248.length co27 : Value).ownBlock ∧ k_ ≠ gb232)) (by (with_reducible repeat (first | apply Kd.V_alloc | apply Kd.V_drewN | apply Kd.V_drew)); exact Kd.V_mono HO_233004.out (fun _ hk => ⟨⟨hk.1.1, ⟨hk.1.2.1, ⟨hk.1.2.2.1, ⟨hk.2, hk.1.2.2.2.2⟩⟩⟩⟩, hk.1.2.2.2.1⟩)) hg hat)
           have n3_ := aM (blk_grown (g := gb232) (o := .cells #[.bool a3_0, .int .i64 a3_1, .bool a3_2, .int .i64 a3_3, .slice A3_4 l3_4.length c3_4] 25 (0, 0)) (by (with_reducible repeat (first | refine bN ?_ _ | refine bW ?_ | refine bA ?_ _)); exact BK232.out) hg (Kd.N_ne HO_11.out BK232.out (by decide)))
           have n4_ := aM (Kd.V_afterv (ok := (fun k_ => (P3_4_ k_ ∨ w.heap.size ≤ k_) ∧ some k_ ≠ (v241 : Value).ownBlock ∧ some k_ ≠ (.slice (some ad246) x10_1.length co16 : Value).ownBlock ∧ some k_ ≠ (.slice Ao27 t248.length co27 : Value).ownBlock ∧ k_ ≠ gb232)) (by (with_reducible repeat (first | apply Kd.V_alloc | apply Kd.V_drewN | apply Kd.V_drew)); exact Kd.V_mono HL246_5.out (fun _ hk => ⟨⟨hk.1.1.1, ⟨hk.1.1.2.1, ⟨hk.1.2, ⟨hk.2, hk.1.1.2.2.2⟩⟩⟩⟩, hk.1.1.2.2.1⟩)) hg hat)
           have n5_ := aM (Kd.V_afterv (ok := (fun k_ => (P3_4_ k_ ∨ w.heap.size ≤ k_) ∧ some k_ ≠ (v241 : Value).ownBlock ∧ some k_ ≠ (.slice (some ad246) x10_1.length co16 : Value).ownBlock ∧ some k_ ≠ (.slice Ao27 t248.length co27 : Value).ownBlock ∧ k_ ≠ gb232)) (by (with_reducible repeat (first | apply Kd.V_alloc | apply Kd.V_drewN | apply Kd.V_drew)); exact Kd.V_mono HL247_5.out (fun _ hk => ⟨⟨hk.1.1.1, ⟨hk.1.1.2.1, ⟨hk.1.2, ⟨hk.2, hk.1.1.2.2.2⟩⟩⟩⟩, hk.1.1.2.2.1⟩)) hg hat)
           have n6_ := aM (Kd.N_afterv (ok := (fun k_ => (P3_4_ k_ ∨ w.heap.size ≤ k_) ∧ some k_ ≠ (v241 : Value).ownBlock ∧ some k_ ≠ (.slice (some ad246) x10_1.length co16 : Value).ownBlock ∧ k_ ≠ gb232)) (by (with_reducible repeat (first | apply Kd.N_alloc | apply Kd.N_drewN | apply Kd.N_drew)); exact Kd.N_mono HO250.out (fun _ hk => ⟨⟨hk.1, ⟨hk.2.1, ⟨hk.2.2.1, hk.2.2.2.2⟩⟩⟩, hk.2.2.2.1⟩)) hg hat)
           have n7_ := aM (hb)
           have n8_ := aM (ho)
           clear HO_9
           clear HO_10
           clear HO_233004
           clear BK232
           clear HL246_5
           clear HL247_5
           clear HO250
           clear HB
           clear HO_11
           have HO_9 := n0_
           have HO_10 := n1_
           have HO_233004 := n2_
           have BK232 := n3_
           have HL246_5 := n4_
           have HL247_5 := n5_
           have HO250 := n6_
           have HB := n7_
           have HO253 := n8_
           clear n0_ n1_ n2_ n3_ n4_ n5_ n6_ n7_ n8_
           clear ho hb hg hat
           refine hK.out _ _ ?_
           clear hK K
           refine norm_ (a' := ?_) ?_ ?_
           rotate_left
           ·show Act.put _ (some 49) _ = _
            simp only [Act.put, sT, sZ, sS, i64_w, i32_w]
            rfl
           refine pure_ (i := 14) (N := some 11) (v := ?_) (a' := ?_) #[true, true, true, true, true, true, true, true, true, true, true, true, true, true, true] rfl rfl (any_of HT_.out (by kernel_rfl)) (fun _ _ _ h => h) (Or.inl ⟨by rfl, ?_⟩) ?_ ?_
           rotate_left
           ·intro w'
            go_simp
            with_reducible rfl
           rotate_left
           ·simp only [Act.put, sT, sZ, sS, i64_w, i32_w]
            rfl
           refine done_ (done_of HT_.out (by kernel_rfl)) ?_
           try go_wp2
           go_roundg k2
           case measure => have := HK1.out; have := HK2.out; omega
           case rel => exact ⟨(y251), (wrap64 (x12_2 + 1)), (by first | rfl | (simp; done) | (simp [*]; done)), H', ⟨by have := HK1.out; have := HK2.out; omega⟩, ⟨by (with_reducible repeat (first | apply Kd.N_alloc | apply Kd.N_drewN | apply Kd.N_drew)); exact Kd.N_mono HO_9.out (fun _ hk => ⟨hk.1.1, ⟨hk.2, hk.1.2.2⟩⟩)⟩, ⟨by (with_reducible repeat (first | apply Kd.N_alloc | apply Kd.N_drewN | apply Kd.N_drew)); exact Kd.N_mono HO_10.out (fun _ hk => ⟨hk.1.1, ⟨hk.1.2.1, ⟨hk.2, hk.1.2.2.2⟩⟩⟩)⟩, ⟨by (with_reducible repeat (first | apply Kd.N_alloc | apply Kd.N_drewN | apply Kd.N_drew)); exact HO253.out⟩, ⟨by (with_reducible repeat (first | apply Kd.V_alloc | apply Kd.V_drewN | apply Kd.V_drew)); exact Kd.V_mono HO_233004.out (fun _ hk => ⟨hk.1.1, ⟨hk.1.2.1, ⟨hk.1.2.2.1, ⟨hk.2, hk.1.2.2.2.2⟩⟩⟩⟩)⟩, ⟨by (with_reducible repeat (first | refine bN ?_ _ | refine bW ?_ | refine bA ?_ _)); exact BK232.out⟩, ⟨by repeat (first | (with_reducible first | exact HB.out | apply lA | apply lN | apply lW | refine lS ?_ GE232.out) | exact HB.out)⟩⟩
          ·rw [if_neg c23] at H
           exact absurd H (by simp)
         ·rw [if_neg c21] at H
          exact absurd H (by simp)
        ·rw [if_neg c20] at H
         have c20b0 : decide (x12_2 < (x10_1.length : Int)) = false := decide_eq_false c20
         clear c20
         have H' := aM H
         clear H
         go_wp2
         go_roundg k2
         case measure => have := HK1.out; have := HK2.out; omega
         case rel => exact ⟨(y240), (x11_2), H', ⟨by have := HK1.out; have := HK2.out; omega⟩, ⟨by (with_reducible repeat (first | apply Kd.N_alloc | apply Kd.N_drewN | apply Kd.N_drew)); exact Kd.N_mono HO_9.out (fun _ hk => ⟨hk.1, hk.2.2⟩)⟩, ⟨by (with_reducible repeat (first | apply Kd.N_alloc | apply Kd.N_drewN | apply Kd.N_drew)); exact Kd.N_mono HO_11.out (fun _ hk => ⟨hk.1, ⟨hk.2.1, hk.2.2.2⟩⟩)⟩, ⟨by (with_reducible repeat (first | apply Kd.V_alloc | apply Kd.V_drewN | apply Kd.V_drew)); exact Kd.V_mono HO_233004.out (fun _ hk => ⟨hk.1, ⟨hk.2.1, ⟨hk.2.2.2.1, hk.2.2.2.2⟩⟩⟩)⟩, ⟨by (with_reducible repeat (first | refine bN ?_ _ | refine bW ?_ | refine bA ?_ _)); exact BK232.out⟩, ⟨by repeat (first | (with_reducible first | exact HB.out | apply lA | apply lN | apply lW | refine lS ?_ GE232.out) | exact HB.out)⟩⟩
     ·rw [if_neg c15] at H
      exact absurd H (by simp)
    ·rw [if_neg c14] at H
     have c14b0 : decide (0 < (x10_1.length : Int)) = false := decide_eq_false c14
     have c14b1 : decide (0 < x10_1.length) = false := decide_eq_false (by omega)
     clear c14
     obtain rfl := Option.some.inj H
     obtain ⟨Ao28, co28, eo28⟩ := Kd.N_slice HO_10.out
     subst eo28
     go_wp2
     go_ret
     exact ⟨_, by first | rfl | (simp [errW_none, errW_some] <;> rfl) | (simp [*, errW_none, errW_some] <;> rfl), by (with_reducible repeat (first | apply Kd.N_alloc | apply Kd.N_drewN | apply Kd.N_drew)); exact Kd.N_mono HO_9.out (fun _ hk => hk.1), by repeat (first | (with_reducible first | exact HB.out | apply lA | apply lN | apply lW | refine lS ?_ GE232.out) | exact HB.out)⟩
 ·replace c6 := Bool.eq_false_iff.mpr c6
  subst c6
  have H1 : (some y233) = some r := by rw [if_neg (show ¬ (false = true) by decide)] at H; exact H
  clear H
  have H := H1
  clear H1
  obtain rfl := Option.some.inj H
  go_enter Try.func21, Try.ntmps21
  go_wp2_with (first | ((with_reducible refine gate_dst (N := 7) rfl ?_); refine box_event ?hg (N := 7) ?hd (cs := #[.bool a3_0, .int .i64 a3_1, .bool a3_2, .int .i64 a3_3, .slice A3_4 l3_4.length c3_4]) (t := 25) ?hr ?_; (case hd => rfl); (case hg => rfl); (case hr => first | (go_simp; done) | (go_simp; rfl)); intro gb232 hg w29 hbox hb; have n0_ := aM (Kd.V_below (Kd.V_elderB (by (with_reducible repeat (first | apply Kd.V_alloc | apply Kd.V_drewN | apply Kd.V_drew)); exact HO3_4.out) gb232 (Nat.le_of_eq hg.symm)) hb); have n1_ := aM (lT (by repeat (first | (with_reducible first | exact HB.out | apply lA | apply lN | apply lW) | exact HB.out)) hb); have n2_ := aM (hbox); have n3_ := aM ((by rw [hg]; exact (lZ (by repeat (first | (with_reducible first | exact HB.out | apply lA | apply lN | apply lW) | exact HB.out))) : w.heap.size ≤ gb232)); have n4_ := aM ((by rw [hg]; exact (lZ (by repeat (first | (with_reducible first | exact HB.out | apply lA | apply lN | apply lW) | exact HB.out))) : w.heap.size ≤ gb232)); clear HO3_4; clear HB; have HO3_4 := n0_; have HB := n1_; have BK232 := n2_; have GW232 := n3_; have GE232 := n4_; clear n0_ n1_ n2_ n3_ n4_; clear hb hbox hg) | ((with_reducible refine gate_dst (N := 13) rfl ?_); refine Kd.N_lit k38 _ 38 ?hg (N' := 13) ?hd (xs := ([] : List (S38))) (inner := []) (ok := (fun k_ => (P3_4_ k_ ∨ w.heap.size ≤ k_) ∧ k_ ≠ gb232)) (okp := (fun k_ => (P3_4_ k_ ∨ w.heap.size ≤ k_) ∧ k_ ≠ gb232)) ?hr ?hp (fun _ hk => hk) ((show ∀ k_, w29.heap.size ≤ k_ → (fun k_ => (P3_4_ k_ ∨ w.heap.size ≤ k_) ∧ k_ ≠ gb232) k_ from fun k_ hk => ⟨(.inr (Nat.le_trans (lZ (by repeat (first | (with_reducible first | exact HB.out | apply lA | apply lN | apply lW | refine lS ?_ GE232.out) | exact HB.out))) hk)), Kd.freshB (g := gb232) (o := .cells #[.bool a3_0, .int .i64 a3_1, .bool a3_2, .int .i64 a3_3, .slice A3_4 l3_4.length c3_4] 25 (0, 0)) (by (with_reducible repeat (first | refine bN ?_ _ | refine bW ?_ | refine bA ?_ _)); exact BK232.out) k_ hk⟩) _ (Nat.le_refl _)) (Below.refl _ _) (Nat.le_refl _) (by simp) ?_; (case hd => rfl); (case hg => rfl); (case hr => first | (go_simp; done) | (go_simp; rfl)); (case hp => exact (Reps.none _ _)); intro v234 w30 ho31 hb hg_ hnew_; clear hg_ hnew_; (first | rw [← Ny233.out] at ho31 | (simp only [Int.reduceToNat] at ho31; rw [← Ny233.out] at ho31)); have n0_ := aM (Kd.V_elder' (by (with_reducible repeat (first | apply Kd.V_alloc | apply Kd.V_drewN | apply Kd.V_drew)); exact HO3_4.out) (Kd.N_base ho31) hb); have n1_ := aM (Kd.N_lower ho31 (lZ (by repeat (first | (with_reducible first | exact HB.out | apply lA | apply lN | apply lW | refine lS ?_ GE232.out) | exact HB.out)))); have n2_ := aM (blk_below (g := gb232) (o := .cells #[.bool a3_0, .int .i64 a3_1, .bool a3_2, .int .i64 a3_3, .slice A3_4 l3_4.length c3_4] 25 (0, 0)) (by (with_reducible repeat (first | refine bN ?_ _ | refine bW ?_ | refine bA ?_ _)); exact BK232.out) hb); have n3_ := aM (lT (by repeat (first | (with_reducible first | exact HB.out | apply lA | apply lN | apply lW | refine lS ?_ GE232.out) | exact HB.out)) hb); clear HO3_4; clear BK232; clear HB; have HO3_4 := n0_; have HO235 := n1_; have BK232 := n2_; have HB := n3_; clear n0_ n1_ n2_ n3_; clear hb ho31) | ((with_reducible refine gate_callee (f := 15) rfl ?_); refine goesL_ (some 16) rfl rfl Try.func15 (by kernel_rfl) rfl #[.slice A0 l0.length c0, .int .i64 a1] rfl (by (try simp only [List.map_toArray, List.map_cons, List.map_nil]); first | done | rfl | (simp only [List.length_drop, List.length_take]; rfl)) ?_; (with_reducible refine (phaetonref12_Loopless.calls k _ _ l0 a1 false _ ?side1 ?side2 A5.out).mono ?_); (case side1 => repeat (first | exact (Kd.C_below HR0.out HB.out) | (with_reducible refine Kd.C_alloc ?_ _) | (with_reducible refine Kd.C_drewN ?_ _) | (with_reducible refine Kd.C_drew ?_))); (case side2 => exact HC0.out); rintro e w32 ⟨rfl, hb⟩; refine ⟨_, rfl, ?_⟩; have n0_ := aM (Kd.V_below (by (with_reducible repeat (first | apply Kd.V_alloc | apply Kd.V_drewN | apply Kd.V_drew)); exact HO3_4.out) hb); have n1_ := aM (Kd.N_below (by (with_reducible repeat (first | apply Kd.N_alloc | apply Kd.N_drewN | apply Kd.N_drew)); exact HO235.out) hb); have n2_ := aM (blk_below (g := gb232) (o := .cells #[.bool a3_0, .int .i64 a3_1, .bool a3_2, .int .i64 a3_3, .slice A3_4 l3_4.length c3_4] 25 (0, 0)) (by (with_reducible repeat (first | refine bN ?_ _ | refine bW ?_ | refine bA ?_ _)); exact BK232.out) hb); have n3_ := aM (lT (by repeat (first | (with_reducible first | exact HB.out | apply lA | apply lN | apply lW | refine lS ?_ GE232.out) | exact HB.out)) hb); clear HO3_4; clear HO235; clear BK232; clear HB; have HO3_4 := n0_; have HO235 := n1_; have BK232 := n2_; have HB := n3_; clear n0_ n1_ n2_ n3_; (try clear hb); (try clear hb2); (try clear hk); (try clear hi)))
  go_ret
  exact ⟨_, by first | rfl | (simp [errW_none, errW_some] <;> rfl) | (simp [*, errW_none, errW_some] <;> rfl), by (with_reducible repeat (first | apply Kd.N_alloc | apply Kd.N_drewN | apply Kd.N_drew)); exact Kd.N_mono HO235.out (fun _ hk => hk.1), by repeat (first | (with_reducible first | exact HB.out | apply lA | apply lN | apply lW | refine lS ?_ GE232.out) | exact HB.out)⟩

end Go.Proofs.Ytpcabeefahldlaa.P

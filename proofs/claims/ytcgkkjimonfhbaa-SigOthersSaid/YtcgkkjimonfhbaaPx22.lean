/- Go functions that the laws of this seat reach, each as a Lean function, and a proof that a call of the Go code comes to its answers; written by a program (the kit's print, turned in a few places). Conditions: each theorem's own premises. -/
import Derived.Test.YtcgkkjimonfhbaaPx0
import Derived.Test.YtcgkkjimonfhbaaPx4
import Derived.Test.YtcgkkjimonfhbaaPx6
import Derived.Test.YtcgkkjimonfhbaaPx9
import Derived.Test.YtcgkkjimonfhbaaPx12
import Derived.Test.YtcgkkjimonfhbaaPx18
import Derived.Test.YtcgkkjimonfhbaaPx20
namespace Go.Proofs.Ytcgkkjimonfhbaa.P
open Go.RowKit Go.Proofs.YtcgkkjimonfhbaaW.PrintWords Go.Proofs.YtcgkkjimonfhbaaW.PrintLast Go.Proofs.YtcgkkjimonfhbaaW.PrintMore
attribute [local go_sem] max2_int min2_int max_two min_two max_three min_three max_four min_four   -- for this text's walks alone
set_option linter.unusedVariables false
set_option linter.unusedSimpArgs false

/-! ### phaetonlaw15_SigOthers: function 6 -/
mutual
def phaetonlaw15_SigOthers.j0 : Nat → List Int → Bool → List Int → Bool → Bool → Int → Int → Bool → Bool → Int → Int → Option (Bool)
 | 0, _, _, _, _, _, _, _, _, _, _, _ => none
 | k + 1, x1, x7, x9, x10, x38, x379000, x379001, x379002, x379003, x379004, x379005 => if x38 = true then (none) else (if x10 = true then ((phaetonref15_Places.f k x379000 x379001 x379002 x379003 x379004 x379005).bind fun t394 => (if (x9.length : Int) = (x1.length : Int) then (phaetonlaw15_SigOthers.l0 k x1 x7 x9 t394 0) else (none))) else (some x7))
def phaetonlaw15_SigOthers.l0 : Nat → List Int → Bool → List Int → List Int → Int → Option (Bool)
 | 0, _, _, _, _, _ => none
 | k + 1, x1, x7, x9, x11, x12 => if x12 < (wrap64 (8 * (x1.length : Int))) then ((phaetonref15_In.f k x11 x12).bind fun t397 => (if t397 = true then (phaetonlaw15_SigOthers.l0 k x1 x7 x9 x11 (wrap64 (x12 + 1))) else (if 0 ≤ (wrap64 (Int.tdiv x12 8)) then (if (wrap64 (Int.tdiv x12 8)) < (x9.length : Int) then (if (wrap64 (Int.tdiv x12 8)) < (x1.length : Int) then (if 0 ≤ (Int.tmod x12 8) then (if (Go.bits .and .u8 (shr .u8 (Go.bits .xor .u8 (rd x9 (wrap64 (Int.tdiv x12 8))) (rd x1 (wrap64 (Int.tdiv x12 8)))) (Int.tmod x12 8)) 1) = 1 then (none) else (phaetonlaw15_SigOthers.l0 k x1 x7 x9 x11 (wrap64 (x12 + 1)))) else (none)) else (none)) else (none)) else (none)))) else (some x7)
end
def phaetonlaw15_SigOthers.f (k : Nat) (a0_0 : Int) (a0_1 : Int) (a0_2 : Bool) (a0_3 : Bool) (a0_4 : Int) (a0_5 : Int) (l1 : List Int) (a2 : Int) : Option (Bool) := (phaetonlaw15_head.f k).bind fun t379 => ((phaetonlaw15_data.f l1).bind fun t380 => ((some (([] : List Int) : List Int)).bind fun y383 => (if y383.length + t380.length < 140737488355328 then ((sig_Put.f k t380 a0_0 a0_1 a0_2 a0_3 a0_4 a0_5 a2).bind fun bt389 => ((phaetonref15_Bytes.f k t380 (y383 ++ t380)).bind fun t393 => (if t393 = true then (if bt389.2 = true then (phaetonlaw15_SigOthers.j0 k t380 t379 bt389.1 bt389.2 false a0_0 a0_1 a0_2 a0_3 a0_4 a0_5) else (phaetonlaw15_SigOthers.j0 k t380 t379 bt389.1 bt389.2 (decide ((bt389.1.length : Int) > 0)) a0_0 a0_1 a0_2 a0_3 a0_4 a0_5)) else (phaetonlaw15_SigOthers.j0 k t380 t379 bt389.1 bt389.2 true a0_0 a0_1 a0_2 a0_3 a0_4 a0_5)))) else (none))))
theorem phaetonlaw15_SigOthers.mono_l : ∀ k, (∀ y0 y1 y2 y3 y4 y5 y6 y7 y8 y9 y10, LeO (phaetonlaw15_SigOthers.j0 k y0 y1 y2 y3 y4 y5 y6 y7 y8 y9 y10) (phaetonlaw15_SigOthers.j0 (k + 1) y0 y1 y2 y3 y4 y5 y6 y7 y8 y9 y10)) ∧ (∀ y0 y1 y2 y3 y4, LeO (phaetonlaw15_SigOthers.l0 k y0 y1 y2 y3 y4) (phaetonlaw15_SigOthers.l0 (k + 1) y0 y1 y2 y3 y4))
 | 0 => ⟨fun _ _ _ _ _ _ _ _ _ _ _ r h => by simp [phaetonlaw15_SigOthers.j0] at h, fun _ _ _ _ _ r h => by simp [phaetonlaw15_SigOthers.l0] at h⟩
 | k + 1 => by
  obtain ⟨ih0, ih1⟩ := phaetonlaw15_SigOthers.mono_l k
  refine ⟨?_, ?_⟩
  ·intro y0 y1 y2 y3 y4 y5 y6 y7 y8 y9 y10
   unfold phaetonlaw15_SigOthers.j0
   repeat' first
   | (with_reducible exact ih0 _ _ _ _ _ _ _ _ _ _ _)
   | (with_reducible exact ih1 _ _ _ _ _)
   | (with_reducible exact phaetonlaw15_head.mono _)
   | (with_reducible exact phaetonref15_Bytes.mono _ _ _)
   | (with_reducible exact phaetonref15_In.mono _ _ _)
   | (with_reducible exact phaetonref15_Places.mono _ _ _ _ _ _ _)
   | (with_reducible exact sig_Put.mono _ _ _ _ _ _ _ _ _)
   | (with_reducible exact LeO.refl _)
   | (with_reducible exact LeO.none _)
   | (with_reducible refine LeO.ite ?_ ?_)
   | (with_reducible refine LeO.bind ?_ (fun _ => ?_))
   | exact ih0 _ _ _ _ _ _ _ _ _ _ _
   | exact ih1 _ _ _ _ _
   | exact phaetonlaw15_head.mono _
   | exact phaetonref15_Bytes.mono _ _ _
   | exact phaetonref15_In.mono _ _ _
   | exact phaetonref15_Places.mono _ _ _ _ _ _ _
   | exact sig_Put.mono _ _ _ _ _ _ _ _ _
   | exact LeO.none _
   | refine LeO.ite ?_ ?_
   | refine LeO.bind ?_ (fun _ => ?_)
  ·intro y0 y1 y2 y3 y4
   unfold phaetonlaw15_SigOthers.l0
   repeat' first
   | (with_reducible exact ih0 _ _ _ _ _ _ _ _ _ _ _)
   | (with_reducible exact ih1 _ _ _ _ _)
   | (with_reducible exact phaetonlaw15_head.mono _)
   | (with_reducible exact phaetonref15_Bytes.mono _ _ _)
   | (with_reducible exact phaetonref15_In.mono _ _ _)
   | (with_reducible exact phaetonref15_Places.mono _ _ _ _ _ _ _)
   | (with_reducible exact sig_Put.mono _ _ _ _ _ _ _ _ _)
   | (with_reducible exact LeO.refl _)
   | (with_reducible exact LeO.none _)
   | (with_reducible refine LeO.ite ?_ ?_)
   | (with_reducible refine LeO.bind ?_ (fun _ => ?_))
   | exact ih0 _ _ _ _ _ _ _ _ _ _ _
   | exact ih1 _ _ _ _ _
   | exact phaetonlaw15_head.mono _
   | exact phaetonref15_Bytes.mono _ _ _
   | exact phaetonref15_In.mono _ _ _
   | exact phaetonref15_Places.mono _ _ _ _ _ _ _
   | exact sig_Put.mono _ _ _ _ _ _ _ _ _
   | exact LeO.none _
   | refine LeO.ite ?_ ?_
   | refine LeO.bind ?_ (fun _ => ?_)
theorem phaetonlaw15_SigOthers.mono : ∀ a0 a1 a2 a3 a4 a5 a6 a7 k, LeO (phaetonlaw15_SigOthers.f k a0 a1 a2 a3 a4 a5 a6 a7) (phaetonlaw15_SigOthers.f (k + 1) a0 a1 a2 a3 a4 a5 a6 a7) := by
 intro a0 a1 a2 a3 a4 a5 a6 a7 k
 obtain ⟨ih0, ih1⟩ := phaetonlaw15_SigOthers.mono_l k
 unfold phaetonlaw15_SigOthers.f
 repeat' first
   | (with_reducible exact ih0 _ _ _ _ _ _ _ _ _ _ _)
   | (with_reducible exact ih1 _ _ _ _ _)
   | (with_reducible exact phaetonlaw15_head.mono _)
   | (with_reducible exact phaetonref15_Bytes.mono _ _ _)
   | (with_reducible exact phaetonref15_In.mono _ _ _)
   | (with_reducible exact phaetonref15_Places.mono _ _ _ _ _ _ _)
   | (with_reducible exact sig_Put.mono _ _ _ _ _ _ _ _ _)
   | (with_reducible exact LeO.refl _)
   | (with_reducible exact LeO.none _)
   | (with_reducible refine LeO.ite ?_ ?_)
   | (with_reducible refine LeO.bind ?_ (fun _ => ?_))
   | exact ih0 _ _ _ _ _ _ _ _ _ _ _
   | exact ih1 _ _ _ _ _
   | exact phaetonlaw15_head.mono _
   | exact phaetonref15_Bytes.mono _ _ _
   | exact phaetonref15_In.mono _ _ _
   | exact phaetonref15_Places.mono _ _ _ _ _ _ _
   | exact sig_Put.mono _ _ _ _ _ _ _ _ _
   | exact LeO.none _
   | refine LeO.ite ?_ ?_
   | refine LeO.bind ?_ (fun _ => ?_)
set_option maxHeartbeats 8000000 in
set_option maxRecDepth 100000 in
theorem phaetonlaw15_SigOthers.calls (k : Nat) (a0_0 : Int) (a0_1 : Int) (a0_2 : Bool) (a0_3 : Bool) (a0_4 : Int) (a0_5 : Int) (A1 : Option Addr) (c1 : Nat) (l1 : List Int) (a2 : Int) (r : Bool) (w : World) (hr1 : Kd.C (Kd.int .u8) w A1 l1.length l1) (hc1 : l1.length ≤ c1) (h : phaetonlaw15_SigOthers.f k a0_0 a0_1 a0_2 a0_3 a0_4 a0_5 l1 a2 = some r) :
  Calls Try.prog 6 #[.agg #[.int .i64 a0_0, .int .i64 a0_1, .bool a0_2, .bool a0_3, .int .i64 a0_4, .int .i64 a0_5], .slice A1 l1.length c1, .int .i64 a2] w fun e w' => e = .returned (.bool r) ∧ Below w.heap.size w w' := by
 have hu23 := Try.underlying23
 have HR1 := aM hr1
 have HC1 := aM hc1
 clear hr1 hc1
 have HB := aM (Below.refl w.heap.size w)
 have H : ((phaetonlaw15_head.f k).bind fun t379 => ((phaetonlaw15_data.f l1).bind fun t380 => ((some (([] : List Int) : List Int)).bind fun y383 => (if y383.length + t380.length < 140737488355328 then ((sig_Put.f k t380 a0_0 a0_1 a0_2 a0_3 a0_4 a0_5 a2).bind fun bt389 => ((phaetonref15_Bytes.f k t380 (y383 ++ t380)).bind fun t393 => (if t393 = true then (if bt389.2 = true then (phaetonlaw15_SigOthers.j0 k t380 t379 bt389.1 bt389.2 false a0_0 a0_1 a0_2 a0_3 a0_4 a0_5) else (phaetonlaw15_SigOthers.j0 k t380 t379 bt389.1 bt389.2 (decide ((bt389.1.length : Int) > 0)) a0_0 a0_1 a0_2 a0_3 a0_4 a0_5)) else (phaetonlaw15_SigOthers.j0 k t380 t379 bt389.1 bt389.2 true a0_0 a0_1 a0_2 a0_3 a0_4 a0_5)))) else (none))))) = some r := h
 clear h
 replace H := Option.bind_eq_some_iff.mp H
 obtain ⟨t379, A40, H⟩ := H
 replace H : ((phaetonlaw15_data.f l1).bind fun t380 => ((some (([] : List Int) : List Int)).bind fun y383 => (if y383.length + t380.length < 140737488355328 then ((sig_Put.f k t380 a0_0 a0_1 a0_2 a0_3 a0_4 a0_5 a2).bind fun bt389 => ((phaetonref15_Bytes.f k t380 (y383 ++ t380)).bind fun t393 => (if t393 = true then (if bt389.2 = true then (phaetonlaw15_SigOthers.j0 k t380 t379 bt389.1 bt389.2 false a0_0 a0_1 a0_2 a0_3 a0_4 a0_5) else (phaetonlaw15_SigOthers.j0 k t380 t379 bt389.1 bt389.2 (decide ((bt389.1.length : Int) > 0)) a0_0 a0_1 a0_2 a0_3 a0_4 a0_5)) else (phaetonlaw15_SigOthers.j0 k t380 t379 bt389.1 bt389.2 true a0_0 a0_1 a0_2 a0_3 a0_4 a0_5)))) else (none)))) = some r := H
 have A4 := aM A40
 clear A40
 replace H := Option.bind_eq_some_iff.mp H
 obtain ⟨t380, A50, H⟩ := H
 replace H : ((some (([] : List Int) : List Int)).bind fun y383 => (if y383.length + t380.length < 140737488355328 then ((sig_Put.f k t380 a0_0 a0_1 a0_2 a0_3 a0_4 a0_5 a2).bind fun bt389 => ((phaetonref15_Bytes.f k t380 (y383 ++ t380)).bind fun t393 => (if t393 = true then (if bt389.2 = true then (phaetonlaw15_SigOthers.j0 k t380 t379 bt389.1 bt389.2 false a0_0 a0_1 a0_2 a0_3 a0_4 a0_5) else (phaetonlaw15_SigOthers.j0 k t380 t379 bt389.1 bt389.2 (decide ((bt389.1.length : Int) > 0)) a0_0 a0_1 a0_2 a0_3 a0_4 a0_5)) else (phaetonlaw15_SigOthers.j0 k t380 t379 bt389.1 bt389.2 true a0_0 a0_1 a0_2 a0_3 a0_4 a0_5)))) else (none))) = some r := H
 have A5 := aM A50
 clear A50
 obtain ⟨y383, hy383⟩ : ∃ y_ : List Int, y_ = (([] : List Int)) := ⟨_, rfl⟩
 replace H : (if y383.length + t380.length < 140737488355328 then ((sig_Put.f k t380 a0_0 a0_1 a0_2 a0_3 a0_4 a0_5 a2).bind fun bt389 => ((phaetonref15_Bytes.f k t380 (y383 ++ t380)).bind fun t393 => (if t393 = true then (if bt389.2 = true then (phaetonlaw15_SigOthers.j0 k t380 t379 bt389.1 bt389.2 false a0_0 a0_1 a0_2 a0_3 a0_4 a0_5) else (phaetonlaw15_SigOthers.j0 k t380 t379 bt389.1 bt389.2 (decide ((bt389.1.length : Int) > 0)) a0_0 a0_1 a0_2 a0_3 a0_4 a0_5)) else (phaetonlaw15_SigOthers.j0 k t380 t379 bt389.1 bt389.2 true a0_0 a0_1 a0_2 a0_3 a0_4 a0_5)))) else (none)) = some r := by first | (rw [hy383]; with_reducible exact H) | (have H2_ := (Option.bind_some _ _).symm.trans H; rw [hy383]; with_reducible exact H2_) | (have H2_ := (Option.bind_some _ _).symm.trans H; with_reducible exact H2_) | with_reducible exact H | (rw [hy383]; exact H) | exact H
 have Ny383 := aM hy383
 clear hy383
 by_cases c6 : y383.length + t380.length < 140737488355328
 ·rw [if_pos c6] at H
  have LMc6 := aM c6
  clear c6
  obtain ⟨y386, hy386⟩ : ∃ y_ : List Int, y_ = (y383 ++ t380) := ⟨_, rfl⟩
  replace H : ((sig_Put.f k t380 a0_0 a0_1 a0_2 a0_3 a0_4 a0_5 a2).bind fun bt389 => ((phaetonref15_Bytes.f k t380 y386).bind fun t393 => (if t393 = true then (if bt389.2 = true then (phaetonlaw15_SigOthers.j0 k t380 t379 bt389.1 bt389.2 false a0_0 a0_1 a0_2 a0_3 a0_4 a0_5) else (phaetonlaw15_SigOthers.j0 k t380 t379 bt389.1 bt389.2 (decide ((bt389.1.length : Int) > 0)) a0_0 a0_1 a0_2 a0_3 a0_4 a0_5)) else (phaetonlaw15_SigOthers.j0 k t380 t379 bt389.1 bt389.2 true a0_0 a0_1 a0_2 a0_3 a0_4 a0_5)))) = some r := by first | (rw [hy386]; with_reducible exact H) | (have H2_ := (Option.bind_some _ _).symm.trans H; rw [hy386]; with_reducible exact H2_) | (have H2_ := (Option.bind_some _ _).symm.trans H; with_reducible exact H2_) | with_reducible exact H | (rw [hy386]; exact H) | exact H
  have Ny386 := aM hy386
  clear hy386
  replace H := Option.bind_eq_some_iff.mp H
  obtain ⟨⟨t389, t392⟩, A70, H⟩ := H
  replace H : ((phaetonref15_Bytes.f k t380 y386).bind fun t393 => (if t393 = true then (if t392 = true then (phaetonlaw15_SigOthers.j0 k t380 t379 t389 t392 false a0_0 a0_1 a0_2 a0_3 a0_4 a0_5) else (phaetonlaw15_SigOthers.j0 k t380 t379 t389 t392 (decide ((t389.length : Int) > 0)) a0_0 a0_1 a0_2 a0_3 a0_4 a0_5)) else (phaetonlaw15_SigOthers.j0 k t380 t379 t389 t392 true a0_0 a0_1 a0_2 a0_3 a0_4 a0_5))) = some r := H
  have A7 := aM A70
  clear A70
  have HC8 := aM H
  clear H
  go_enter Try.func6, Try.ntmps6
  go_upto_region 5 with (first | ((with_reducible refine gate_dst (N := 3) rfl ?_); (try (refine gate_guard (by rfl) ?_; dsimp only)); refine box_event ?hg (N := 3) ?hd (cs := #[.int .i64 a0_0, .int .i64 a0_1, .bool a0_2, .bool a0_3, .int .i64 a0_4, .int .i64 a0_5]) (t := 23) ?hr ?_; (case hd => rfl); (case hg => rfl); (case hr => first | (go_simp; done) | (go_simp; rfl)); intro gb378 hg w9 hbox hb; have n0_ := aM (lT (by repeat (first | (with_reducible first | exact HB.out | apply lA | apply lN | apply lW) | exact HB.out)) hb); have n1_ := aM (hbox); have n2_ := aM ((by rw [hg]; exact (lZ (by repeat (first | (with_reducible first | exact HB.out | apply lA | apply lN | apply lW) | exact HB.out))) : w.heap.size ≤ gb378)); have n3_ := aM ((by rw [hg]; exact (lZ (by repeat (first | (with_reducible first | exact HB.out | apply lA | apply lN | apply lW) | exact HB.out))) : w.heap.size ≤ gb378)); clear HB; have HB := n0_; have BK378 := n1_; have GW378 := n2_; have GE378 := n3_; clear n0_ n1_ n2_ n3_; clear hb hbox hg) | (go_at_call 11; (with_reducible refine (phaetonlaw15_head.calls k  t379 _ A4.out).mono ?_); rintro e w10 ⟨rfl, hb⟩; have n0_ := aM (blk_below (g := gb378) (o := .cells #[.int .i64 a0_0, .int .i64 a0_1, .bool a0_2, .bool a0_3, .int .i64 a0_4, .int .i64 a0_5] 23 (0, 0)) (by (with_reducible repeat (first | refine bN ?_ _ | refine bW ?_ | refine bA ?_ _)); exact BK378.out) hb); have n1_ := aM (lT (by repeat (first | (with_reducible first | exact HB.out | apply lA | apply lN | apply lW | refine lS ?_ GE378.out) | exact HB.out)) hb); clear BK378; clear HB; have BK378 := n0_; have HB := n1_; clear n0_ n1_; (try clear hb); (try clear hb2); (try clear hk); (try clear hi)) | (go_at_call 24; (with_reducible refine (phaetonlaw15_data.calls _ _ l1 t380 _ ?side1 ?side2 A5.out).mono ?_); (case side1 => repeat (first | exact (Kd.C_below HR1.out HB.out) | (with_reducible refine Kd.C_alloc ?_ _) | (with_reducible refine Kd.C_drewN ?_ _) | (with_reducible refine Kd.C_drew ?_))); (case side2 => exact HC1.out); rintro e w11 ⟨v381, rfl, ho0, hb⟩; have n0_ := aM (Kd.R_lower ho0 (lZ (by repeat (first | (with_reducible first | exact HB.out | apply lA | apply lN | apply lW | refine lS ?_ GE378.out) | exact HB.out)))); have n1_ := aM (blk_below (g := gb378) (o := .cells #[.int .i64 a0_0, .int .i64 a0_1, .bool a0_2, .bool a0_3, .int .i64 a0_4, .int .i64 a0_5] 23 (0, 0)) (by (with_reducible repeat (first | refine bN ?_ _ | refine bW ?_ | refine bA ?_ _)); exact BK378.out) hb); have n2_ := aM (lT (by repeat (first | (with_reducible first | exact HB.out | apply lA | apply lN | apply lW | refine lS ?_ GE378.out) | exact HB.out)) hb); clear BK378; clear HB; have HO382 := n0_; have BK378 := n1_; have HB := n2_; clear n0_ n1_ n2_; (try clear hb); (try clear hb2); (try clear hk); (try clear hi); (try clear ho0)) | ((with_reducible refine gate_dst (N := 16) rfl ?_); (try (refine gate_guard (by rfl) ?_; dsimp only)); refine Kd.R_lit (Kd.int .u8) _ 5 ?hg (N := 16) ?hd (xs := ([] : List Int)) (inner := []) (ok := fun _ => True) (okp := fun _ => True) ?hr ?hp (fun _ hk => hk) trivial (Below.refl _ _) (Nat.le_refl _) (by simp) ?_; (case hd => rfl); (case hg => rfl); (case hr => first | (go_simp; done) | (go_simp; rfl)); (case hp => exact (Reps.none _ _)); intro v384 w12 ho13 hb hg_ hnew_; clear hg_ hnew_; (first | rw [← Ny383.out] at ho13 | (simp only [Int.reduceToNat] at ho13; rw [← Ny383.out] at ho13)); have n0_ := aM (Kd.R_elder' (by (with_reducible repeat (first | apply rA | apply rN | apply rW)); exact HO382.out) (Kd.R_base ho13) hb); have n1_ := aM (Kd.R_lower (Kd.R_new' ho13 (Kd.R_lt (by (with_reducible repeat (first | apply rA | apply rN | apply rW)); exact HO382.out))) (lZ (by repeat (first | (with_reducible first | exact HB.out | apply lA | apply lN | apply lW | refine lS ?_ GE378.out) | exact HB.out)))); have n2_ := aM (blk_below (g := gb378) (o := .cells #[.int .i64 a0_0, .int .i64 a0_1, .bool a0_2, .bool a0_3, .int .i64 a0_4, .int .i64 a0_5] 23 (0, 0)) (by (with_reducible repeat (first | refine bN ?_ _ | refine bW ?_ | refine bA ?_ _)); exact BK378.out) hb); have n3_ := aM (lT (by repeat (first | (with_reducible first | exact HB.out | apply lA | apply lN | apply lW | refine lS ?_ GE378.out) | exact HB.out)) hb); clear HO382; clear BK378; clear HB; have HO382 := n0_; have HO385 := n1_; have BK378 := n2_; have HB := n3_; clear n0_ n1_ n2_ n3_; clear hb ho13; obtain ⟨Ao15, co15, eo15⟩ := Kd.R_slice HO382.out; subst eo15) | ((with_reducible refine gate_builtin (b := .append) (xs := #[.tmp 16, .tmp 17]) rfl ?_); (try (refine gate_guard (by rfl) ?_; dsimp only)); at_builtin; refine Kd.R_append_rows (Kd.int .u8) (w0 := w) w.heap.size rfl (.tmp 16) (.tmp 17) 24 5 (.int .u8 0) 1 rfl Try.underlying24 info5 rfl (by decide) (by omega) v384 y383 t380 _ _ _ (fun k_ => some k_ ≠ (.slice Ao15 t380.length co15 : Value).ownBlock) (fun _ => False) rfl rfl ?aO ?aR (fun _ _ h => h) (fun _ h => h.elim) ?aF ?aB ?aS ?aL ?_; (case aR => repeat (first | exact (Kd.R_reads' HO382.out).2.2 | (with_reducible refine Kd.C_alloc ?_ _) | (with_reducible refine Kd.C_drewN ?_ _) | (with_reducible refine Kd.C_drew ?_))); (case aB => exact (by repeat (first | (with_reducible first | exact HB.out | apply lA | apply lN | apply lW | refine lS ?_ GE378.out) | exact HB.out))); (case aF => exact (fun k_ hk => Kd.fresh' (Kd.R_lt (by (with_reducible repeat (first | apply rA | apply rN | apply rW)); exact HO382.out)) k_ hk)); (case aO => exact (by (with_reducible repeat (first | apply rA | apply rN | apply rW)); exact Kd.R_mono HO385.out (fun _ hk => hk.2))); (case aS => exact (lZ (by repeat (first | (with_reducible first | exact HB.out | apply lA | apply lN | apply lW | refine lS ?_ GE378.out) | exact HB.out)))); (case aL => have := LMc6.out; omega); intro v387 w14 ho hb hg hat; rw [← Ny386.out] at ho; have n0_ := aM (blk_grown (g := gb378) (o := .cells #[.int .i64 a0_0, .int .i64 a0_1, .bool a0_2, .bool a0_3, .int .i64 a0_4, .int .i64 a0_5] 23 (0, 0)) (by (with_reducible repeat (first | refine bN ?_ _ | refine bW ?_ | refine bA ?_ _)); exact BK378.out) hg (Kd.R_ne HO385.out BK378.out (by decide))); have n1_ := aM (Kd.R_after (ok := (fun _ => True)) (by (with_reducible repeat (first | apply rA | apply rN | apply rW)); exact HO382.out) hg hat); have n2_ := aM (hb); have n3_ := aM (ho); clear BK378; clear HO382; clear HB; clear HO385; have BK378 := n0_; have HO382 := n1_; have HB := n2_; have HO388 := n3_; clear n0_ n1_ n2_ n3_; clear ho hb hg hat; have hcz16_0 : w14.cell? ⟨gb378, 0, none⟩ = some (.int .i64 a0_0) := (bC BK378.out 0).trans rfl; have hcz16_1 : w14.cell? ⟨gb378, 1, none⟩ = some (.int .i64 a0_1) := (bC BK378.out 1).trans rfl; have hcz16_2 : w14.cell? ⟨gb378, 2, none⟩ = some (.bool a0_2) := (bC BK378.out 2).trans rfl; have hcz16_3 : w14.cell? ⟨gb378, 3, none⟩ = some (.bool a0_3) := (bC BK378.out 3).trans rfl; have hcz16_4 : w14.cell? ⟨gb378, 4, none⟩ = some (.int .i64 a0_4) := (bC BK378.out 4).trans rfl; have hcz16_5 : w14.cell? ⟨gb378, 5, none⟩ = some (.int .i64 a0_5) := (bC BK378.out 5).trans rfl; have hfz16_0 := bF BK378.out 0; have hfz16_1 := bF BK378.out 1; have hfz16_2 := bF BK378.out 2; have hfz16_3 := bF BK378.out 3; have hfz16_4 := bF BK378.out 4; have hfz16_5 := bF BK378.out 5) | (go_at_call 12; (with_reducible refine (sig_Put.calls k _ _ t380 a0_0 a0_1 a0_2 a0_3 a0_4 a0_5 a2 t389 t392 _ ?side1 ?side2 A7.out).mono ?_); (case side1 => repeat (first | exact (Kd.R_reads' HO382.out).2.2 | (with_reducible refine Kd.C_alloc ?_ _) | (with_reducible refine Kd.C_drewN ?_ _) | (with_reducible refine Kd.C_drew ?_))); (case side2 => exact (Kd.R_reads' HO382.out).2.1); rintro e w17 ⟨v390, rfl, ho0, hb⟩; have n0_ := aM (Kd.R_elder' (by (with_reducible repeat (first | apply rA | apply rN | apply rW)); exact HO382.out) (Kd.R_base ho0) hb); have n1_ := aM (Kd.R_elder' (by (with_reducible repeat (first | apply rA | apply rN | apply rW)); exact HO388.out) (Kd.R_base ho0) hb); have n2_ := aM (Kd.R_lower (Kd.R_new' (Kd.R_new' ho0 (Kd.R_lt (by (with_reducible repeat (first | apply rA | apply rN | apply rW)); exact HO382.out))) (Kd.R_lt (by (with_reducible repeat (first | apply rA | apply rN | apply rW)); exact HO388.out))) (lZ (by repeat (first | (with_reducible first | exact HB.out | apply lA | apply lN | apply lW | refine lS ?_ GE378.out) | exact HB.out)))); have n3_ := aM (blk_below (g := gb378) (o := .cells #[.int .i64 a0_0, .int .i64 a0_1, .bool a0_2, .bool a0_3, .int .i64 a0_4, .int .i64 a0_5] 23 (0, 0)) (by (with_reducible repeat (first | refine bN ?_ _ | refine bW ?_ | refine bA ?_ _)); exact BK378.out) hb); have n4_ := aM (lT (by repeat (first | (with_reducible first | exact HB.out | apply lA | apply lN | apply lW | refine lS ?_ GE378.out) | exact HB.out)) hb); clear HO382; clear HO388; clear BK378; clear HB; have HO382 := n0_; have HO388 := n1_; have HO391 := n2_; have BK378 := n3_; have HB := n4_; clear n0_ n1_ n2_ n3_ n4_; (try clear hb); (try clear hb2); (try clear hk); (try clear hi); (try clear ho0)))
  repeat (go_quiet (first | ((with_reducible refine gate_dst (N := 3) rfl ?_); (try (refine gate_guard (by rfl) ?_; dsimp only)); refine box_event ?hg (N := 3) ?hd (cs := #[.int .i64 a0_0, .int .i64 a0_1, .bool a0_2, .bool a0_3, .int .i64 a0_4, .int .i64 a0_5]) (t := 23) ?hr ?_; (case hd => rfl); (case hg => rfl); (case hr => first | (go_simp; done) | (go_simp; rfl)); intro gb378 hg w9 hbox hb; have n0_ := aM (lT (by repeat (first | (with_reducible first | exact HB.out | apply lA | apply lN | apply lW) | exact HB.out)) hb); have n1_ := aM (hbox); have n2_ := aM ((by rw [hg]; exact (lZ (by repeat (first | (with_reducible first | exact HB.out | apply lA | apply lN | apply lW) | exact HB.out))) : w.heap.size ≤ gb378)); have n3_ := aM ((by rw [hg]; exact (lZ (by repeat (first | (with_reducible first | exact HB.out | apply lA | apply lN | apply lW) | exact HB.out))) : w.heap.size ≤ gb378)); clear HB; have HB := n0_; have BK378 := n1_; have GW378 := n2_; have GE378 := n3_; clear n0_ n1_ n2_ n3_; clear hb hbox hg) | (go_at_call 11; (with_reducible refine (phaetonlaw15_head.calls k  t379 _ A4.out).mono ?_); rintro e w10 ⟨rfl, hb⟩; have n0_ := aM (blk_below (g := gb378) (o := .cells #[.int .i64 a0_0, .int .i64 a0_1, .bool a0_2, .bool a0_3, .int .i64 a0_4, .int .i64 a0_5] 23 (0, 0)) (by (with_reducible repeat (first | refine bN ?_ _ | refine bW ?_ | refine bA ?_ _)); exact BK378.out) hb); have n1_ := aM (lT (by repeat (first | (with_reducible first | exact HB.out | apply lA | apply lN | apply lW | refine lS ?_ GE378.out) | exact HB.out)) hb); clear BK378; clear HB; have BK378 := n0_; have HB := n1_; clear n0_ n1_; (try clear hb); (try clear hb2); (try clear hk); (try clear hi)) | (go_at_call 24; (with_reducible refine (phaetonlaw15_data.calls _ _ l1 t380 _ ?side1 ?side2 A5.out).mono ?_); (case side1 => repeat (first | exact (Kd.C_below HR1.out HB.out) | (with_reducible refine Kd.C_alloc ?_ _) | (with_reducible refine Kd.C_drewN ?_ _) | (with_reducible refine Kd.C_drew ?_))); (case side2 => exact HC1.out); rintro e w11 ⟨v381, rfl, ho0, hb⟩; have n0_ := aM (Kd.R_lower ho0 (lZ (by repeat (first | (with_reducible first | exact HB.out | apply lA | apply lN | apply lW | refine lS ?_ GE378.out) | exact HB.out)))); have n1_ := aM (blk_below (g := gb378) (o := .cells #[.int .i64 a0_0, .int .i64 a0_1, .bool a0_2, .bool a0_3, .int .i64 a0_4, .int .i64 a0_5] 23 (0, 0)) (by (with_reducible repeat (first | refine bN ?_ _ | refine bW ?_ | refine bA ?_ _)); exact BK378.out) hb); have n2_ := aM (lT (by repeat (first | (with_reducible first | exact HB.out | apply lA | apply lN | apply lW | refine lS ?_ GE378.out) | exact HB.out)) hb); clear BK378; clear HB; have HO382 := n0_; have BK378 := n1_; have HB := n2_; clear n0_ n1_ n2_; (try clear hb); (try clear hb2); (try clear hk); (try clear hi); (try clear ho0)) | ((with_reducible refine gate_dst (N := 16) rfl ?_); (try (refine gate_guard (by rfl) ?_; dsimp only)); refine Kd.R_lit (Kd.int .u8) _ 5 ?hg (N := 16) ?hd (xs := ([] : List Int)) (inner := []) (ok := fun _ => True) (okp := fun _ => True) ?hr ?hp (fun _ hk => hk) trivial (Below.refl _ _) (Nat.le_refl _) (by simp) ?_; (case hd => rfl); (case hg => rfl); (case hr => first | (go_simp; done) | (go_simp; rfl)); (case hp => exact (Reps.none _ _)); intro v384 w12 ho13 hb hg_ hnew_; clear hg_ hnew_; (first | rw [← Ny383.out] at ho13 | (simp only [Int.reduceToNat] at ho13; rw [← Ny383.out] at ho13)); have n0_ := aM (Kd.R_elder' (by (with_reducible repeat (first | apply rA | apply rN | apply rW)); exact HO382.out) (Kd.R_base ho13) hb); have n1_ := aM (Kd.R_lower (Kd.R_new' ho13 (Kd.R_lt (by (with_reducible repeat (first | apply rA | apply rN | apply rW)); exact HO382.out))) (lZ (by repeat (first | (with_reducible first | exact HB.out | apply lA | apply lN | apply lW | refine lS ?_ GE378.out) | exact HB.out)))); have n2_ := aM (blk_below (g := gb378) (o := .cells #[.int .i64 a0_0, .int .i64 a0_1, .bool a0_2, .bool a0_3, .int .i64 a0_4, .int .i64 a0_5] 23 (0, 0)) (by (with_reducible repeat (first | refine bN ?_ _ | refine bW ?_ | refine bA ?_ _)); exact BK378.out) hb); have n3_ := aM (lT (by repeat (first | (with_reducible first | exact HB.out | apply lA | apply lN | apply lW | refine lS ?_ GE378.out) | exact HB.out)) hb); clear HO382; clear BK378; clear HB; have HO382 := n0_; have HO385 := n1_; have BK378 := n2_; have HB := n3_; clear n0_ n1_ n2_ n3_; clear hb ho13; obtain ⟨Ao15, co15, eo15⟩ := Kd.R_slice HO382.out; subst eo15) | ((with_reducible refine gate_builtin (b := .append) (xs := #[.tmp 16, .tmp 17]) rfl ?_); (try (refine gate_guard (by rfl) ?_; dsimp only)); at_builtin; refine Kd.R_append_rows (Kd.int .u8) (w0 := w) w.heap.size rfl (.tmp 16) (.tmp 17) 24 5 (.int .u8 0) 1 rfl Try.underlying24 info5 rfl (by decide) (by omega) v384 y383 t380 _ _ _ (fun k_ => some k_ ≠ (.slice Ao15 t380.length co15 : Value).ownBlock) (fun _ => False) rfl rfl ?aO ?aR (fun _ _ h => h) (fun _ h => h.elim) ?aF ?aB ?aS ?aL ?_; (case aR => repeat (first | exact (Kd.R_reads' HO382.out).2.2 | (with_reducible refine Kd.C_alloc ?_ _) | (with_reducible refine Kd.C_drewN ?_ _) | (with_reducible refine Kd.C_drew ?_))); (case aB => exact (by repeat (first | (with_reducible first | exact HB.out | apply lA | apply lN | apply lW | refine lS ?_ GE378.out) | exact HB.out))); (case aF => exact (fun k_ hk => Kd.fresh' (Kd.R_lt (by (with_reducible repeat (first | apply rA | apply rN | apply rW)); exact HO382.out)) k_ hk)); (case aO => exact (by (with_reducible repeat (first | apply rA | apply rN | apply rW)); exact Kd.R_mono HO385.out (fun _ hk => hk.2))); (case aS => exact (lZ (by repeat (first | (with_reducible first | exact HB.out | apply lA | apply lN | apply lW | refine lS ?_ GE378.out) | exact HB.out)))); (case aL => have := LMc6.out; omega); intro v387 w14 ho hb hg hat; rw [← Ny386.out] at ho; have n0_ := aM (blk_grown (g := gb378) (o := .cells #[.int .i64 a0_0, .int .i64 a0_1, .bool a0_2, .bool a0_3, .int .i64 a0_4, .int .i64 a0_5] 23 (0, 0)) (by (with_reducible repeat (first | refine bN ?_ _ | refine bW ?_ | refine bA ?_ _)); exact BK378.out) hg (Kd.R_ne HO385.out BK378.out (by decide))); have n1_ := aM (Kd.R_after (ok := (fun _ => True)) (by (with_reducible repeat (first | apply rA | apply rN | apply rW)); exact HO382.out) hg hat); have n2_ := aM (hb); have n3_ := aM (ho); clear BK378; clear HO382; clear HB; clear HO385; have BK378 := n0_; have HO382 := n1_; have HB := n2_; have HO388 := n3_; clear n0_ n1_ n2_ n3_; clear ho hb hg hat; have hcz16_0 : w14.cell? ⟨gb378, 0, none⟩ = some (.int .i64 a0_0) := (bC BK378.out 0).trans rfl; have hcz16_1 : w14.cell? ⟨gb378, 1, none⟩ = some (.int .i64 a0_1) := (bC BK378.out 1).trans rfl; have hcz16_2 : w14.cell? ⟨gb378, 2, none⟩ = some (.bool a0_2) := (bC BK378.out 2).trans rfl; have hcz16_3 : w14.cell? ⟨gb378, 3, none⟩ = some (.bool a0_3) := (bC BK378.out 3).trans rfl; have hcz16_4 : w14.cell? ⟨gb378, 4, none⟩ = some (.int .i64 a0_4) := (bC BK378.out 4).trans rfl; have hcz16_5 : w14.cell? ⟨gb378, 5, none⟩ = some (.int .i64 a0_5) := (bC BK378.out 5).trans rfl; have hfz16_0 := bF BK378.out 0; have hfz16_1 := bF BK378.out 1; have hfz16_2 := bF BK378.out 2; have hfz16_3 := bF BK378.out 3; have hfz16_4 := bF BK378.out 4; have hfz16_5 := bF BK378.out 5) | (go_at_call 12; (with_reducible refine (sig_Put.calls k _ _ t380 a0_0 a0_1 a0_2 a0_3 a0_4 a0_5 a2 t389 t392 _ ?side1 ?side2 A7.out).mono ?_); (case side1 => repeat (first | exact (Kd.R_reads' HO382.out).2.2 | (with_reducible refine Kd.C_alloc ?_ _) | (with_reducible refine Kd.C_drewN ?_ _) | (with_reducible refine Kd.C_drew ?_))); (case side2 => exact (Kd.R_reads' HO382.out).2.1); rintro e w17 ⟨v390, rfl, ho0, hb⟩; have n0_ := aM (Kd.R_elder' (by (with_reducible repeat (first | apply rA | apply rN | apply rW)); exact HO382.out) (Kd.R_base ho0) hb); have n1_ := aM (Kd.R_elder' (by (with_reducible repeat (first | apply rA | apply rN | apply rW)); exact HO388.out) (Kd.R_base ho0) hb); have n2_ := aM (Kd.R_lower (Kd.R_new' (Kd.R_new' ho0 (Kd.R_lt (by (with_reducible repeat (first | apply rA | apply rN | apply rW)); exact HO382.out))) (Kd.R_lt (by (with_reducible repeat (first | apply rA | apply rN | apply rW)); exact HO388.out))) (lZ (by repeat (first | (with_reducible first | exact HB.out | apply lA | apply lN | apply lW | refine lS ?_ GE378.out) | exact HB.out)))); have n3_ := aM (blk_below (g := gb378) (o := .cells #[.int .i64 a0_0, .int .i64 a0_1, .bool a0_2, .bool a0_3, .int .i64 a0_4, .int .i64 a0_5] 23 (0, 0)) (by (with_reducible repeat (first | refine bN ?_ _ | refine bW ?_ | refine bA ?_ _)); exact BK378.out) hb); have n4_ := aM (lT (by repeat (first | (with_reducible first | exact HB.out | apply lA | apply lN | apply lW | refine lS ?_ GE378.out) | exact HB.out)) hb); clear HO382; clear HO388; clear BK378; clear HB; have HO382 := n0_; have HO388 := n1_; have HO391 := n2_; have BK378 := n3_; have HB := n4_; clear n0_ n1_ n2_ n3_ n4_; (try clear hb); (try clear hb2); (try clear hk); (try clear hi); (try clear ho0))); go_upto_region 5 with (first | ((with_reducible refine gate_dst (N := 3) rfl ?_); (try (refine gate_guard (by rfl) ?_; dsimp only)); refine box_event ?hg (N := 3) ?hd (cs := #[.int .i64 a0_0, .int .i64 a0_1, .bool a0_2, .bool a0_3, .int .i64 a0_4, .int .i64 a0_5]) (t := 23) ?hr ?_; (case hd => rfl); (case hg => rfl); (case hr => first | (go_simp; done) | (go_simp; rfl)); intro gb378 hg w9 hbox hb; have n0_ := aM (lT (by repeat (first | (with_reducible first | exact HB.out | apply lA | apply lN | apply lW) | exact HB.out)) hb); have n1_ := aM (hbox); have n2_ := aM ((by rw [hg]; exact (lZ (by repeat (first | (with_reducible first | exact HB.out | apply lA | apply lN | apply lW) | exact HB.out))) : w.heap.size ≤ gb378)); have n3_ := aM ((by rw [hg]; exact (lZ (by repeat (first | (with_reducible first | exact HB.out | apply lA | apply lN | apply lW) | exact HB.out))) : w.heap.size ≤ gb378)); clear HB; have HB := n0_; have BK378 := n1_; have GW378 := n2_; have GE378 := n3_; clear n0_ n1_ n2_ n3_; clear hb hbox hg) | (go_at_call 11; (with_reducible refine (phaetonlaw15_head.calls k  t379 _ A4.out).mono ?_); rintro e w10 ⟨rfl, hb⟩; have n0_ := aM (blk_below (g := gb378) (o := .cells #[.int .i64 a0_0, .int .i64 a0_1, .bool a0_2, .bool a0_3, .int .i64 a0_4, .int .i64 a0_5] 23 (0, 0)) (by (with_reducible repeat (first | refine bN ?_ _ | refine bW ?_ | refine bA ?_ _)); exact BK378.out) hb); have n1_ := aM (lT (by repeat (first | (with_reducible first | exact HB.out | apply lA | apply lN | apply lW | refine lS ?_ GE378.out) | exact HB.out)) hb); clear BK378; clear HB; have BK378 := n0_; have HB := n1_; clear n0_ n1_; (try clear hb); (try clear hb2); (try clear hk); (try clear hi)) | (go_at_call 24; (with_reducible refine (phaetonlaw15_data.calls _ _ l1 t380 _ ?side1 ?side2 A5.out).mono ?_); (case side1 => repeat (first | exact (Kd.C_below HR1.out HB.out) | (with_reducible refine Kd.C_alloc ?_ _) | (with_reducible refine Kd.C_drewN ?_ _) | (with_reducible refine Kd.C_drew ?_))); (case side2 => exact HC1.out); rintro e w11 ⟨v381, rfl, ho0, hb⟩; have n0_ := aM (Kd.R_lower ho0 (lZ (by repeat (first | (with_reducible first | exact HB.out | apply lA | apply lN | apply lW | refine lS ?_ GE378.out) | exact HB.out)))); have n1_ := aM (blk_below (g := gb378) (o := .cells #[.int .i64 a0_0, .int .i64 a0_1, .bool a0_2, .bool a0_3, .int .i64 a0_4, .int .i64 a0_5] 23 (0, 0)) (by (with_reducible repeat (first | refine bN ?_ _ | refine bW ?_ | refine bA ?_ _)); exact BK378.out) hb); have n2_ := aM (lT (by repeat (first | (with_reducible first | exact HB.out | apply lA | apply lN | apply lW | refine lS ?_ GE378.out) | exact HB.out)) hb); clear BK378; clear HB; have HO382 := n0_; have BK378 := n1_; have HB := n2_; clear n0_ n1_ n2_; (try clear hb); (try clear hb2); (try clear hk); (try clear hi); (try clear ho0)) | ((with_reducible refine gate_dst (N := 16) rfl ?_); (try (refine gate_guard (by rfl) ?_; dsimp only)); refine Kd.R_lit (Kd.int .u8) _ 5 ?hg (N := 16) ?hd (xs := ([] : List Int)) (inner := []) (ok := fun _ => True) (okp := fun _ => True) ?hr ?hp (fun _ hk => hk) trivial (Below.refl _ _) (Nat.le_refl _) (by simp) ?_; (case hd => rfl); (case hg => rfl); (case hr => first | (go_simp; done) | (go_simp; rfl)); (case hp => exact (Reps.none _ _)); intro v384 w12 ho13 hb hg_ hnew_; clear hg_ hnew_; (first | rw [← Ny383.out] at ho13 | (simp only [Int.reduceToNat] at ho13; rw [← Ny383.out] at ho13)); have n0_ := aM (Kd.R_elder' (by (with_reducible repeat (first | apply rA | apply rN | apply rW)); exact HO382.out) (Kd.R_base ho13) hb); have n1_ := aM (Kd.R_lower (Kd.R_new' ho13 (Kd.R_lt (by (with_reducible repeat (first | apply rA | apply rN | apply rW)); exact HO382.out))) (lZ (by repeat (first | (with_reducible first | exact HB.out | apply lA | apply lN | apply lW | refine lS ?_ GE378.out) | exact HB.out)))); have n2_ := aM (blk_below (g := gb378) (o := .cells #[.int .i64 a0_0, .int .i64 a0_1, .bool a0_2, .bool a0_3, .int .i64 a0_4, .int .i64 a0_5] 23 (0, 0)) (by (with_reducible repeat (first | refine bN ?_ _ | refine bW ?_ | refine bA ?_ _)); exact BK378.out) hb); have n3_ := aM (lT (by repeat (first | (with_reducible first | exact HB.out | apply lA | apply lN | apply lW | refine lS ?_ GE378.out) | exact HB.out)) hb); clear HO382; clear BK378; clear HB; have HO382 := n0_; have HO385 := n1_; have BK378 := n2_; have HB := n3_; clear n0_ n1_ n2_ n3_; clear hb ho13; obtain ⟨Ao15, co15, eo15⟩ := Kd.R_slice HO382.out; subst eo15) | ((with_reducible refine gate_builtin (b := .append) (xs := #[.tmp 16, .tmp 17]) rfl ?_); (try (refine gate_guard (by rfl) ?_; dsimp only)); at_builtin; refine Kd.R_append_rows (Kd.int .u8) (w0 := w) w.heap.size rfl (.tmp 16) (.tmp 17) 24 5 (.int .u8 0) 1 rfl Try.underlying24 info5 rfl (by decide) (by omega) v384 y383 t380 _ _ _ (fun k_ => some k_ ≠ (.slice Ao15 t380.length co15 : Value).ownBlock) (fun _ => False) rfl rfl ?aO ?aR (fun _ _ h => h) (fun _ h => h.elim) ?aF ?aB ?aS ?aL ?_; (case aR => repeat (first | exact (Kd.R_reads' HO382.out).2.2 | (with_reducible refine Kd.C_alloc ?_ _) | (with_reducible refine Kd.C_drewN ?_ _) | (with_reducible refine Kd.C_drew ?_))); (case aB => exact (by repeat (first | (with_reducible first | exact HB.out | apply lA | apply lN | apply lW | refine lS ?_ GE378.out) | exact HB.out))); (case aF => exact (fun k_ hk => Kd.fresh' (Kd.R_lt (by (with_reducible repeat (first | apply rA | apply rN | apply rW)); exact HO382.out)) k_ hk)); (case aO => exact (by (with_reducible repeat (first | apply rA | apply rN | apply rW)); exact Kd.R_mono HO385.out (fun _ hk => hk.2))); (case aS => exact (lZ (by repeat (first | (with_reducible first | exact HB.out | apply lA | apply lN | apply lW | refine lS ?_ GE378.out) | exact HB.out)))); (case aL => have := LMc6.out; omega); intro v387 w14 ho hb hg hat; rw [← Ny386.out] at ho; have n0_ := aM (blk_grown (g := gb378) (o := .cells #[.int .i64 a0_0, .int .i64 a0_1, .bool a0_2, .bool a0_3, .int .i64 a0_4, .int .i64 a0_5] 23 (0, 0)) (by (with_reducible repeat (first | refine bN ?_ _ | refine bW ?_ | refine bA ?_ _)); exact BK378.out) hg (Kd.R_ne HO385.out BK378.out (by decide))); have n1_ := aM (Kd.R_after (ok := (fun _ => True)) (by (with_reducible repeat (first | apply rA | apply rN | apply rW)); exact HO382.out) hg hat); have n2_ := aM (hb); have n3_ := aM (ho); clear BK378; clear HO382; clear HB; clear HO385; have BK378 := n0_; have HO382 := n1_; have HB := n2_; have HO388 := n3_; clear n0_ n1_ n2_ n3_; clear ho hb hg hat; have hcz16_0 : w14.cell? ⟨gb378, 0, none⟩ = some (.int .i64 a0_0) := (bC BK378.out 0).trans rfl; have hcz16_1 : w14.cell? ⟨gb378, 1, none⟩ = some (.int .i64 a0_1) := (bC BK378.out 1).trans rfl; have hcz16_2 : w14.cell? ⟨gb378, 2, none⟩ = some (.bool a0_2) := (bC BK378.out 2).trans rfl; have hcz16_3 : w14.cell? ⟨gb378, 3, none⟩ = some (.bool a0_3) := (bC BK378.out 3).trans rfl; have hcz16_4 : w14.cell? ⟨gb378, 4, none⟩ = some (.int .i64 a0_4) := (bC BK378.out 4).trans rfl; have hcz16_5 : w14.cell? ⟨gb378, 5, none⟩ = some (.int .i64 a0_5) := (bC BK378.out 5).trans rfl; have hfz16_0 := bF BK378.out 0; have hfz16_1 := bF BK378.out 1; have hfz16_2 := bF BK378.out 2; have hfz16_3 := bF BK378.out 3; have hfz16_4 := bF BK378.out 4; have hfz16_5 := bF BK378.out 5) | (go_at_call 12; (with_reducible refine (sig_Put.calls k _ _ t380 a0_0 a0_1 a0_2 a0_3 a0_4 a0_5 a2 t389 t392 _ ?side1 ?side2 A7.out).mono ?_); (case side1 => repeat (first | exact (Kd.R_reads' HO382.out).2.2 | (with_reducible refine Kd.C_alloc ?_ _) | (with_reducible refine Kd.C_drewN ?_ _) | (with_reducible refine Kd.C_drew ?_))); (case side2 => exact (Kd.R_reads' HO382.out).2.1); rintro e w17 ⟨v390, rfl, ho0, hb⟩; have n0_ := aM (Kd.R_elder' (by (with_reducible repeat (first | apply rA | apply rN | apply rW)); exact HO382.out) (Kd.R_base ho0) hb); have n1_ := aM (Kd.R_elder' (by (with_reducible repeat (first | apply rA | apply rN | apply rW)); exact HO388.out) (Kd.R_base ho0) hb); have n2_ := aM (Kd.R_lower (Kd.R_new' (Kd.R_new' ho0 (Kd.R_lt (by (with_reducible repeat (first | apply rA | apply rN | apply rW)); exact HO382.out))) (Kd.R_lt (by (with_reducible repeat (first | apply rA | apply rN | apply rW)); exact HO388.out))) (lZ (by repeat (first | (with_reducible first | exact HB.out | apply lA | apply lN | apply lW | refine lS ?_ GE378.out) | exact HB.out)))); have n3_ := aM (blk_below (g := gb378) (o := .cells #[.int .i64 a0_0, .int .i64 a0_1, .bool a0_2, .bool a0_3, .int .i64 a0_4, .int .i64 a0_5] 23 (0, 0)) (by (with_reducible repeat (first | refine bN ?_ _ | refine bW ?_ | refine bA ?_ _)); exact BK378.out) hb); have n4_ := aM (lT (by repeat (first | (with_reducible first | exact HB.out | apply lA | apply lN | apply lW | refine lS ?_ GE378.out) | exact HB.out)) hb); clear HO382; clear HO388; clear BK378; clear HB; have HO382 := n0_; have HO388 := n1_; have HO391 := n2_; have BK378 := n3_; have HB := n4_; clear n0_ n1_ n2_ n3_ n4_; (try clear hb); (try clear hb2); (try clear hk); (try clear hi); (try clear ho0))))
  (try simp only [Act.put, sT, sZ, sS])
  go_cut [38] (fun v38 wc => ∃ (kq : Nat) (x38_7 : Bool), v38 = .bool x38_7 ∧ Aside0 (phaetonlaw15_SigOthers.j0 kq t380 t379 t389 t392 x38_7 a0_0 a0_1 a0_2 a0_3 a0_4 a0_5 = some r) ∧ Aside0 (kq ≤ k) ∧ Aside0 (Kd.R (Kd.int .u8) 5 wc w.heap.size (fun k_ => some k_ ≠ (v390 : Value).ownBlock) (.slice Ao15 t380.length co15) t380) ∧ Aside0 (Kd.R (Kd.int .u8) 5 wc w.heap.size (fun k_ => some k_ ≠ ((.slice Ao15 t380.length co15) : Value).ownBlock) v390 t389) ∧ Aside0 (wc.heap[gb378]? = some (.cells #[.int .i64 a0_0, .int .i64 a0_1, .bool a0_2, .bool a0_3, .int .i64 a0_4, .int .i64 a0_5] 23 (0, 0))) ∧ Aside0 (Below w.heap.size w wc))
  case first =>
   have H := HC8.out
   clear HC8
   replace H := Option.bind_eq_some_iff.mp H
   obtain ⟨t393, A180, H⟩ := H
   replace H : (if t393 = true then (if t392 = true then (phaetonlaw15_SigOthers.j0 k t380 t379 t389 t392 false a0_0 a0_1 a0_2 a0_3 a0_4 a0_5) else (phaetonlaw15_SigOthers.j0 k t380 t379 t389 t392 (decide ((t389.length : Int) > 0)) a0_0 a0_1 a0_2 a0_3 a0_4 a0_5)) else (phaetonlaw15_SigOthers.j0 k t380 t379 t389 t392 true a0_0 a0_1 a0_2 a0_3 a0_4 a0_5)) = some r := H
   have A18 := aM A180
   clear A180
   by_cases c19 : t393 = true
   ·subst c19
    have H1 : (if t392 = true then (phaetonlaw15_SigOthers.j0 k t380 t379 t389 t392 false a0_0 a0_1 a0_2 a0_3 a0_4 a0_5) else (phaetonlaw15_SigOthers.j0 k t380 t379 t389 t392 (decide ((t389.length : Int) > 0)) a0_0 a0_1 a0_2 a0_3 a0_4 a0_5)) = some r := by rw [if_pos rfl] at H; exact H
    clear H
    have H := H1
    clear H1
    by_cases c20 : t392 = true
    ·subst c20
     have H1 : (phaetonlaw15_SigOthers.j0 k t380 t379 t389 true false a0_0 a0_1 a0_2 a0_3 a0_4 a0_5) = some r := by rw [if_pos rfl] at H; exact H
     clear H
     have H := H1
     clear H1
     have H' := aM H
     clear H
     obtain ⟨Ao21, co21, eo21⟩ := Kd.R_slice HO388.out
     subst eo21
     go_wp2_with (first | (go_at_call 21; (with_reducible refine (phaetonref15_Bytes.calls k _ _ t380 _ _ y386 true _ ?side1 ?side2 ?side3 ?side4 A18.out).mono ?_); (case side1 => repeat (first | exact (Kd.R_reads' HO382.out).2.2 | (with_reducible refine Kd.C_alloc ?_ _) | (with_reducible refine Kd.C_drewN ?_ _) | (with_reducible refine Kd.C_drew ?_))); (case side2 => exact (Kd.R_reads' HO382.out).2.1); (case side3 => repeat (first | exact (Kd.R_reads' HO388.out).2.2 | (with_reducible refine Kd.C_alloc ?_ _) | (with_reducible refine Kd.C_drewN ?_ _) | (with_reducible refine Kd.C_drew ?_))); (case side4 => exact (Kd.R_reads' HO388.out).2.1); rintro e w' ⟨rfl, ⟨nd, rfl⟩⟩; (try first | exact ⟨rfl, _, World.drewN_drewN _ _ _⟩ | exact ⟨rfl, _, Eq.trans (World.drewN_drewN _ _ _) (congrArg (World.drewN _) (Nat.add_assoc _ _ _))⟩)))
     repeat (go_quiet (first | (go_at_call 21; (with_reducible refine (phaetonref15_Bytes.calls k _ _ t380 _ _ y386 true _ ?side1 ?side2 ?side3 ?side4 A18.out).mono ?_); (case side1 => repeat (first | exact (Kd.R_reads' HO382.out).2.2 | (with_reducible refine Kd.C_alloc ?_ _) | (with_reducible refine Kd.C_drewN ?_ _) | (with_reducible refine Kd.C_drew ?_))); (case side2 => exact (Kd.R_reads' HO382.out).2.1); (case side3 => repeat (first | exact (Kd.R_reads' HO388.out).2.2 | (with_reducible refine Kd.C_alloc ?_ _) | (with_reducible refine Kd.C_drewN ?_ _) | (with_reducible refine Kd.C_drew ?_))); (case side4 => exact (Kd.R_reads' HO388.out).2.1); rintro e w' ⟨rfl, ⟨nd, rfl⟩⟩; (try first | exact ⟨rfl, _, World.drewN_drewN _ _ _⟩ | exact ⟨rfl, _, Eq.trans (World.drewN_drewN _ _ _) (congrArg (World.drewN _) (Nat.add_assoc _ _ _))⟩))); try go_wp2_with (first | (go_at_call 21; (with_reducible refine (phaetonref15_Bytes.calls k _ _ t380 _ _ y386 true _ ?side1 ?side2 ?side3 ?side4 A18.out).mono ?_); (case side1 => repeat (first | exact (Kd.R_reads' HO382.out).2.2 | (with_reducible refine Kd.C_alloc ?_ _) | (with_reducible refine Kd.C_drewN ?_ _) | (with_reducible refine Kd.C_drew ?_))); (case side2 => exact (Kd.R_reads' HO382.out).2.1); (case side3 => repeat (first | exact (Kd.R_reads' HO388.out).2.2 | (with_reducible refine Kd.C_alloc ?_ _) | (with_reducible refine Kd.C_drewN ?_ _) | (with_reducible refine Kd.C_drew ?_))); (case side4 => exact (Kd.R_reads' HO388.out).2.1); rintro e w' ⟨rfl, ⟨nd, rfl⟩⟩; (try first | exact ⟨rfl, _, World.drewN_drewN _ _ _⟩ | exact ⟨rfl, _, Eq.trans (World.drewN_drewN _ _ _) (congrArg (World.drewN _) (Nat.add_assoc _ _ _))⟩))))
     go_meet
     case rel => exact ⟨_, (false), (by first | rfl | (simp; done) | (simp [*]; done)), H', ⟨by first | omega | exact Nat.le_refl _⟩, ⟨by (with_reducible repeat (first | apply rA | apply rN | apply rW)); exact Kd.R_mono HO382.out (fun _ hk => hk.2)⟩, ⟨by (with_reducible repeat (first | apply rA | apply rN | apply rW)); exact Kd.R_mono HO391.out (fun _ hk => hk.1.2)⟩, ⟨by (with_reducible repeat (first | refine bN ?_ _ | refine bW ?_ | refine bA ?_ _)); exact BK378.out⟩, ⟨by repeat (first | (with_reducible first | exact HB.out | apply lA | apply lN | apply lW | refine lS ?_ GE378.out) | exact HB.out)⟩⟩
    ·replace c20 := Bool.eq_false_iff.mpr c20
     subst c20
     have H1 : (phaetonlaw15_SigOthers.j0 k t380 t379 t389 false (decide ((t389.length : Int) > 0)) a0_0 a0_1 a0_2 a0_3 a0_4 a0_5) = some r := by rw [if_neg (show ¬ (false = true) by decide)] at H; exact H
     clear H
     have H := H1
     clear H1
     have H' := aM H
     clear H
     obtain ⟨Ao22, co22, eo22⟩ := Kd.R_slice HO388.out
     subst eo22
     go_wp2_with (first | (go_at_call 21; (with_reducible refine (phaetonref15_Bytes.calls k _ _ t380 _ _ y386 true _ ?side1 ?side2 ?side3 ?side4 A18.out).mono ?_); (case side1 => repeat (first | exact (Kd.R_reads' HO382.out).2.2 | (with_reducible refine Kd.C_alloc ?_ _) | (with_reducible refine Kd.C_drewN ?_ _) | (with_reducible refine Kd.C_drew ?_))); (case side2 => exact (Kd.R_reads' HO382.out).2.1); (case side3 => repeat (first | exact (Kd.R_reads' HO388.out).2.2 | (with_reducible refine Kd.C_alloc ?_ _) | (with_reducible refine Kd.C_drewN ?_ _) | (with_reducible refine Kd.C_drew ?_))); (case side4 => exact (Kd.R_reads' HO388.out).2.1); rintro e w' ⟨rfl, ⟨nd, rfl⟩⟩; (try first | exact ⟨rfl, _, World.drewN_drewN _ _ _⟩ | exact ⟨rfl, _, Eq.trans (World.drewN_drewN _ _ _) (congrArg (World.drewN _) (Nat.add_assoc _ _ _))⟩); obtain ⟨Ao23, co23, eo23⟩ := Kd.R_slice HO391.out; subst eo23))
     repeat (go_quiet (first | (go_at_call 21; (with_reducible refine (phaetonref15_Bytes.calls k _ _ t380 _ _ y386 true _ ?side1 ?side2 ?side3 ?side4 A18.out).mono ?_); (case side1 => repeat (first | exact (Kd.R_reads' HO382.out).2.2 | (with_reducible refine Kd.C_alloc ?_ _) | (with_reducible refine Kd.C_drewN ?_ _) | (with_reducible refine Kd.C_drew ?_))); (case side2 => exact (Kd.R_reads' HO382.out).2.1); (case side3 => repeat (first | exact (Kd.R_reads' HO388.out).2.2 | (with_reducible refine Kd.C_alloc ?_ _) | (with_reducible refine Kd.C_drewN ?_ _) | (with_reducible refine Kd.C_drew ?_))); (case side4 => exact (Kd.R_reads' HO388.out).2.1); rintro e w' ⟨rfl, ⟨nd, rfl⟩⟩; (try first | exact ⟨rfl, _, World.drewN_drewN _ _ _⟩ | exact ⟨rfl, _, Eq.trans (World.drewN_drewN _ _ _) (congrArg (World.drewN _) (Nat.add_assoc _ _ _))⟩); obtain ⟨Ao23, co23, eo23⟩ := Kd.R_slice HO391.out; subst eo23)); try go_wp2_with (first | (go_at_call 21; (with_reducible refine (phaetonref15_Bytes.calls k _ _ t380 _ _ y386 true _ ?side1 ?side2 ?side3 ?side4 A18.out).mono ?_); (case side1 => repeat (first | exact (Kd.R_reads' HO382.out).2.2 | (with_reducible refine Kd.C_alloc ?_ _) | (with_reducible refine Kd.C_drewN ?_ _) | (with_reducible refine Kd.C_drew ?_))); (case side2 => exact (Kd.R_reads' HO382.out).2.1); (case side3 => repeat (first | exact (Kd.R_reads' HO388.out).2.2 | (with_reducible refine Kd.C_alloc ?_ _) | (with_reducible refine Kd.C_drewN ?_ _) | (with_reducible refine Kd.C_drew ?_))); (case side4 => exact (Kd.R_reads' HO388.out).2.1); rintro e w' ⟨rfl, ⟨nd, rfl⟩⟩; (try first | exact ⟨rfl, _, World.drewN_drewN _ _ _⟩ | exact ⟨rfl, _, Eq.trans (World.drewN_drewN _ _ _) (congrArg (World.drewN _) (Nat.add_assoc _ _ _))⟩); obtain ⟨Ao23, co23, eo23⟩ := Kd.R_slice HO391.out; subst eo23)))
     go_meet
     case rel => exact ⟨_, (decide ((t389.length : Int) > 0)), (by first | rfl | (simp; done) | (simp [*]; done)), H', ⟨by first | omega | exact Nat.le_refl _⟩, ⟨by (with_reducible repeat (first | apply rA | apply rN | apply rW)); exact Kd.R_mono HO382.out (fun _ hk => hk.2)⟩, ⟨by (with_reducible repeat (first | apply rA | apply rN | apply rW)); exact Kd.R_mono HO391.out (fun _ hk => hk.1.2)⟩, ⟨by (with_reducible repeat (first | refine bN ?_ _ | refine bW ?_ | refine bA ?_ _)); exact BK378.out⟩, ⟨by repeat (first | (with_reducible first | exact HB.out | apply lA | apply lN | apply lW | refine lS ?_ GE378.out) | exact HB.out)⟩⟩
   ·replace c19 := Bool.eq_false_iff.mpr c19
    subst c19
    have H1 : (phaetonlaw15_SigOthers.j0 k t380 t379 t389 t392 true a0_0 a0_1 a0_2 a0_3 a0_4 a0_5) = some r := by rw [if_neg (show ¬ (false = true) by decide)] at H; exact H
    clear H
    have H := H1
    clear H1
    have H' := aM H
    clear H
    obtain ⟨Ao24, co24, eo24⟩ := Kd.R_slice HO388.out
    subst eo24
    go_wp2_with (first | (go_at_call 21; (with_reducible refine (phaetonref15_Bytes.calls k _ _ t380 _ _ y386 false _ ?side1 ?side2 ?side3 ?side4 A18.out).mono ?_); (case side1 => repeat (first | exact (Kd.R_reads' HO382.out).2.2 | (with_reducible refine Kd.C_alloc ?_ _) | (with_reducible refine Kd.C_drewN ?_ _) | (with_reducible refine Kd.C_drew ?_))); (case side2 => exact (Kd.R_reads' HO382.out).2.1); (case side3 => repeat (first | exact (Kd.R_reads' HO388.out).2.2 | (with_reducible refine Kd.C_alloc ?_ _) | (with_reducible refine Kd.C_drewN ?_ _) | (with_reducible refine Kd.C_drew ?_))); (case side4 => exact (Kd.R_reads' HO388.out).2.1); rintro e w' ⟨rfl, ⟨nd, rfl⟩⟩; (try first | exact ⟨rfl, _, World.drewN_drewN _ _ _⟩ | exact ⟨rfl, _, Eq.trans (World.drewN_drewN _ _ _) (congrArg (World.drewN _) (Nat.add_assoc _ _ _))⟩)))
    repeat (go_quiet (first | (go_at_call 21; (with_reducible refine (phaetonref15_Bytes.calls k _ _ t380 _ _ y386 false _ ?side1 ?side2 ?side3 ?side4 A18.out).mono ?_); (case side1 => repeat (first | exact (Kd.R_reads' HO382.out).2.2 | (with_reducible refine Kd.C_alloc ?_ _) | (with_reducible refine Kd.C_drewN ?_ _) | (with_reducible refine Kd.C_drew ?_))); (case side2 => exact (Kd.R_reads' HO382.out).2.1); (case side3 => repeat (first | exact (Kd.R_reads' HO388.out).2.2 | (with_reducible refine Kd.C_alloc ?_ _) | (with_reducible refine Kd.C_drewN ?_ _) | (with_reducible refine Kd.C_drew ?_))); (case side4 => exact (Kd.R_reads' HO388.out).2.1); rintro e w' ⟨rfl, ⟨nd, rfl⟩⟩; (try first | exact ⟨rfl, _, World.drewN_drewN _ _ _⟩ | exact ⟨rfl, _, Eq.trans (World.drewN_drewN _ _ _) (congrArg (World.drewN _) (Nat.add_assoc _ _ _))⟩))); try go_wp2_with (first | (go_at_call 21; (with_reducible refine (phaetonref15_Bytes.calls k _ _ t380 _ _ y386 false _ ?side1 ?side2 ?side3 ?side4 A18.out).mono ?_); (case side1 => repeat (first | exact (Kd.R_reads' HO382.out).2.2 | (with_reducible refine Kd.C_alloc ?_ _) | (with_reducible refine Kd.C_drewN ?_ _) | (with_reducible refine Kd.C_drew ?_))); (case side2 => exact (Kd.R_reads' HO382.out).2.1); (case side3 => repeat (first | exact (Kd.R_reads' HO388.out).2.2 | (with_reducible refine Kd.C_alloc ?_ _) | (with_reducible refine Kd.C_drewN ?_ _) | (with_reducible refine Kd.C_drew ?_))); (case side4 => exact (Kd.R_reads' HO388.out).2.1); rintro e w' ⟨rfl, ⟨nd, rfl⟩⟩; (try first | exact ⟨rfl, _, World.drewN_drewN _ _ _⟩ | exact ⟨rfl, _, Eq.trans (World.drewN_drewN _ _ _) (congrArg (World.drewN _) (Nat.add_assoc _ _ _))⟩))))
    go_meet
    case rel => exact ⟨_, (true), (by first | rfl | (simp; done) | (simp [*]; done)), H', ⟨by first | omega | exact Nat.le_refl _⟩, ⟨by (with_reducible repeat (first | apply rA | apply rN | apply rW)); exact Kd.R_mono HO382.out (fun _ hk => hk.2)⟩, ⟨by (with_reducible repeat (first | apply rA | apply rN | apply rW)); exact Kd.R_mono HO391.out (fun _ hk => hk.1.2)⟩, ⟨by (with_reducible repeat (first | refine bN ?_ _ | refine bW ?_ | refine bA ?_ _)); exact BK378.out⟩, ⟨by repeat (first | (with_reducible first | exact HB.out | apply lA | apply lN | apply lW | refine lS ?_ GE378.out) | exact HB.out)⟩⟩
  case rest =>
   clear HC8
   try clear c1
   try clear c2
   try clear p2
   try clear c6
   try clear c19
   try clear c20
   try clear hcz16_0
   try clear hcz16_1
   try clear hcz16_2
   try clear hcz16_3
   try clear hcz16_4
   try clear hcz16_5
   try clear hfz16_0
   try clear hfz16_1
   try clear hfz16_2
   try clear hfz16_3
   try clear hfz16_4
   try clear hfz16_5
   obtain ⟨kq, x38_7, rfl, HA, HJ7, HO_1, HO_9, BK378, HB⟩ := hcut
   cases kq with
   | zero => exact absurd HA.out (by simp [phaetonlaw15_SigOthers.j0])
   | succ kj7 =>
    have H := HA.out
    clear HA
    simp only [phaetonlaw15_SigOthers.j0] at H
    by_cases c25 : x38_7 = true
    ·subst c25
     have H1 : (none) = some r := by rw [if_pos rfl] at H; exact H
     clear H
     have H := H1
     clear H1
     exact absurd H (by simp)
    ·replace c25 := Bool.eq_false_iff.mpr c25
     subst c25
     have H1 : (if t392 = true then ((phaetonref15_Places.f kj7 a0_0 a0_1 a0_2 a0_3 a0_4 a0_5).bind fun t394 => (if (t389.length : Int) = (t380.length : Int) then (phaetonlaw15_SigOthers.l0 kj7 t380 t379 t389 t394 0) else (none))) else (some t379)) = some r := by rw [if_neg (show ¬ (false = true) by decide)] at H; exact H
     clear H
     have H := H1
     clear H1
     by_cases c26 : t392 = true
     ·subst c26
      have H1 : ((phaetonref15_Places.f kj7 a0_0 a0_1 a0_2 a0_3 a0_4 a0_5).bind fun t394 => (if (t389.length : Int) = (t380.length : Int) then (phaetonlaw15_SigOthers.l0 kj7 t380 t379 t389 t394 0) else (none))) = some r := by rw [if_pos rfl] at H; exact H
      clear H
      have H := H1
      clear H1
      replace H := Option.bind_eq_some_iff.mp H
      obtain ⟨t394, A270, H⟩ := H
      replace H : (if (t389.length : Int) = (t380.length : Int) then (phaetonlaw15_SigOthers.l0 kj7 t380 t379 t389 t394 0) else (none)) = some r := H
      have A27 := aM A270
      clear A270
      by_cases c28 : (t389.length : Int) = (t380.length : Int)
      ·rw [if_pos c28] at H
       have c28b0 : ((t389.length : Int) == (t380.length : Int)) = true := beq_iff_eq.mpr c28
       have c28b1 : ((t389.length : Int) != (t380.length : Int)) = false := bne_eq_false_iff_eq.mpr c28
       have c28b2 : (t389.length == t380.length) = true := by first | simpa using c28 | (simp at c28 ⊢; omega)
       clear c28
       have H' := aM H
       clear H
       have hcz29_0 : wc.cell? ⟨gb378, 0, none⟩ = some (.int .i64 a0_0) := (bC BK378.out 0).trans rfl
       have hcz29_1 : wc.cell? ⟨gb378, 1, none⟩ = some (.int .i64 a0_1) := (bC BK378.out 1).trans rfl
       have hcz29_2 : wc.cell? ⟨gb378, 2, none⟩ = some (.bool a0_2) := (bC BK378.out 2).trans rfl
       have hcz29_3 : wc.cell? ⟨gb378, 3, none⟩ = some (.bool a0_3) := (bC BK378.out 3).trans rfl
       have hcz29_4 : wc.cell? ⟨gb378, 4, none⟩ = some (.int .i64 a0_4) := (bC BK378.out 4).trans rfl
       have hcz29_5 : wc.cell? ⟨gb378, 5, none⟩ = some (.int .i64 a0_5) := (bC BK378.out 5).trans rfl
       have hfz29_0 := bF BK378.out 0
       have hfz29_1 := bF BK378.out 1
       have hfz29_2 := bF BK378.out 2
       have hfz29_3 := bF BK378.out 3
       have hfz29_4 := bF BK378.out 4
       have hfz29_5 := bF BK378.out 5
       go_wp2_with (first | (go_at_call 20; (with_reducible refine (phaetonref15_Places.calls kj7 a0_0 a0_1 a0_2 a0_3 a0_4 a0_5 t394 _ A27.out).mono ?_); rintro e w30 ⟨v395, rfl, ho0, hb⟩; have n0_ := aM (Kd.R_below (by (with_reducible repeat (first | apply rA | apply rN | apply rW)); exact HO_1.out) hb); have n1_ := aM (Kd.R_below (by (with_reducible repeat (first | apply rA | apply rN | apply rW)); exact HO_9.out) hb); have n2_ := aM (Kd.R_lower ho0 (lZ (by repeat (first | (with_reducible first | exact HB.out | apply lA | apply lN | apply lW | refine lS ?_ GE378.out) | exact HB.out)))); have n3_ := aM (blk_below (g := gb378) (o := .cells #[.int .i64 a0_0, .int .i64 a0_1, .bool a0_2, .bool a0_3, .int .i64 a0_4, .int .i64 a0_5] 23 (0, 0)) (by (with_reducible repeat (first | refine bN ?_ _ | refine bW ?_ | refine bA ?_ _)); exact BK378.out) hb); have n4_ := aM (lT (by repeat (first | (with_reducible first | exact HB.out | apply lA | apply lN | apply lW | refine lS ?_ GE378.out) | exact HB.out)) hb); clear HO_1; clear HO_9; clear BK378; clear HB; have HO_1 := n0_; have HO_9 := n1_; have HO396 := n2_; have BK378 := n3_; have HB := n4_; clear n0_ n1_ n2_ n3_ n4_; (try clear hb); (try clear hb2); (try clear hk); (try clear hi); (try clear ho0); obtain ⟨Ao31, co31, eo31⟩ := Kd.R_slice HO_9.out; subst eo31))
       repeat (go_quiet (first | (go_at_call 20; (with_reducible refine (phaetonref15_Places.calls kj7 a0_0 a0_1 a0_2 a0_3 a0_4 a0_5 t394 _ A27.out).mono ?_); rintro e w30 ⟨v395, rfl, ho0, hb⟩; have n0_ := aM (Kd.R_below (by (with_reducible repeat (first | apply rA | apply rN | apply rW)); exact HO_1.out) hb); have n1_ := aM (Kd.R_below (by (with_reducible repeat (first | apply rA | apply rN | apply rW)); exact HO_9.out) hb); have n2_ := aM (Kd.R_lower ho0 (lZ (by repeat (first | (with_reducible first | exact HB.out | apply lA | apply lN | apply lW | refine lS ?_ GE378.out) | exact HB.out)))); have n3_ := aM (blk_below (g := gb378) (o := .cells #[.int .i64 a0_0, .int .i64 a0_1, .bool a0_2, .bool a0_3, .int .i64 a0_4, .int .i64 a0_5] 23 (0, 0)) (by (with_reducible repeat (first | refine bN ?_ _ | refine bW ?_ | refine bA ?_ _)); exact BK378.out) hb); have n4_ := aM (lT (by repeat (first | (with_reducible first | exact HB.out | apply lA | apply lN | apply lW | refine lS ?_ GE378.out) | exact HB.out)) hb); clear HO_1; clear HO_9; clear BK378; clear HB; have HO_1 := n0_; have HO_9 := n1_; have HO396 := n2_; have BK378 := n3_; have HB := n4_; clear n0_ n1_ n2_ n3_ n4_; (try clear hb); (try clear hb2); (try clear hk); (try clear hi); (try clear ho0); obtain ⟨Ao31, co31, eo31⟩ := Kd.R_slice HO_9.out; subst eo31)); try go_wp2_with (first | (go_at_call 20; (with_reducible refine (phaetonref15_Places.calls kj7 a0_0 a0_1 a0_2 a0_3 a0_4 a0_5 t394 _ A27.out).mono ?_); rintro e w30 ⟨v395, rfl, ho0, hb⟩; have n0_ := aM (Kd.R_below (by (with_reducible repeat (first | apply rA | apply rN | apply rW)); exact HO_1.out) hb); have n1_ := aM (Kd.R_below (by (with_reducible repeat (first | apply rA | apply rN | apply rW)); exact HO_9.out) hb); have n2_ := aM (Kd.R_lower ho0 (lZ (by repeat (first | (with_reducible first | exact HB.out | apply lA | apply lN | apply lW | refine lS ?_ GE378.out) | exact HB.out)))); have n3_ := aM (blk_below (g := gb378) (o := .cells #[.int .i64 a0_0, .int .i64 a0_1, .bool a0_2, .bool a0_3, .int .i64 a0_4, .int .i64 a0_5] 23 (0, 0)) (by (with_reducible repeat (first | refine bN ?_ _ | refine bW ?_ | refine bA ?_ _)); exact BK378.out) hb); have n4_ := aM (lT (by repeat (first | (with_reducible first | exact HB.out | apply lA | apply lN | apply lW | refine lS ?_ GE378.out) | exact HB.out)) hb); clear HO_1; clear HO_9; clear BK378; clear HB; have HO_1 := n0_; have HO_9 := n1_; have HO396 := n2_; have BK378 := n3_; have HB := n4_; clear n0_ n1_ n2_ n3_ n4_; (try clear hb); (try clear hb2); (try clear hk); (try clear hi); (try clear ho0); obtain ⟨Ao31, co31, eo31⟩ := Kd.R_slice HO_9.out; subst eo31)))
       go_loopg [12] kj7 (fun kq v12 w' => ∃ (x12_2 : Int), v12 = .int .i64 x12_2 ∧ Aside0 (phaetonlaw15_SigOthers.l0 kq t380 t379 t389 t394 x12_2 = some r) ∧ Aside0 (kq ≤ kj7) ∧ Aside0 (Kd.R (Kd.int .u8) 5 w' w.heap.size (fun k_ => some k_ ≠ ((.slice Ao31 t389.length co31) : Value).ownBlock) (.slice Ao15 t380.length co15) t380) ∧ Aside0 (Kd.R (Kd.int .u8) 5 w' w.heap.size (fun k_ => some k_ ≠ ((.slice Ao15 t380.length co15) : Value).ownBlock) (.slice Ao31 t389.length co31) t389) ∧ Aside0 (Kd.R (Kd.int .i64) 3 w' w.heap.size (fun _ => True) v395 t394) ∧ Aside0 (w'.heap[gb378]? = some (.cells #[.int .i64 a0_0, .int .i64 a0_1, .bool a0_2, .bool a0_3, .int .i64 a0_4, .int .i64 a0_5] 23 (0, 0))) ∧ Aside0 (Below w.heap.size w w'))
       case atStart => exact ⟨(0), (by first | rfl | (simp; done) | (simp [*]; done)), H', ⟨Nat.le_refl _⟩, ⟨by (with_reducible repeat (first | apply rA | apply rN | apply rW)); exact HO_1.out⟩, ⟨by (with_reducible repeat (first | apply rA | apply rN | apply rW)); exact HO_9.out⟩, ⟨by (with_reducible repeat (first | apply rA | apply rN | apply rW)); exact HO396.out⟩, ⟨by (with_reducible repeat (first | refine bN ?_ _ | refine bW ?_ | refine bA ?_ _)); exact BK378.out⟩, ⟨by repeat (first | (with_reducible first | exact HB.out | apply lA | apply lN | apply lW | refine lS ?_ GE378.out) | exact HB.out)⟩⟩
       case round =>
        clear H'
        try clear c1
        try clear c2
        try clear p2
        try clear c6
        try clear c19
        try clear c20
        try clear c25
        try clear c26
        try clear c28
        try clear c28b0
        try clear c28b1
        try clear c28b2
        try clear hcz16_0
        try clear hcz16_1
        try clear hcz16_2
        try clear hcz16_3
        try clear hcz16_4
        try clear hcz16_5
        try clear hcz29_0
        try clear hcz29_1
        try clear hcz29_2
        try clear hcz29_3
        try clear hcz29_4
        try clear hcz29_5
        try clear hfz16_0
        try clear hfz16_1
        try clear hfz16_2
        try clear hfz16_3
        try clear hfz16_4
        try clear hfz16_5
        try clear hfz29_0
        try clear hfz29_1
        try clear hfz29_2
        try clear hfz29_3
        try clear hfz29_4
        try clear hfz29_5
        try clear p2
        obtain ⟨x12_2, rfl, HA, HK2, HO_1, HO_9, HO_11, BK378, HB⟩ := hrel
        cases gk with
        | zero => exact absurd HA.out (by simp [phaetonlaw15_SigOthers.l0])
        | succ k2 =>
         have H := HA.out
         clear HA
         simp only [phaetonlaw15_SigOthers.l0] at H
         by_cases c32 : x12_2 < (wrap64 (8 * (t380.length : Int)))
         ·rw [if_pos c32] at H
          have c32b0 : decide (x12_2 < (wrap64 (8 * (t380.length : Int)))) = true := decide_eq_true c32
          clear c32
          replace H := Option.bind_eq_some_iff.mp H
          obtain ⟨t397, A330, H⟩ := H
          replace H : (if t397 = true then (phaetonlaw15_SigOthers.l0 k2 t380 t379 t389 t394 (wrap64 (x12_2 + 1))) else (if 0 ≤ (wrap64 (Int.tdiv x12_2 8)) then (if (wrap64 (Int.tdiv x12_2 8)) < (t389.length : Int) then (if (wrap64 (Int.tdiv x12_2 8)) < (t380.length : Int) then (if 0 ≤ (Int.tmod x12_2 8) then (if (Go.bits .and .u8 (shr .u8 (Go.bits .xor .u8 (rd t389 (wrap64 (Int.tdiv x12_2 8))) (rd t380 (wrap64 (Int.tdiv x12_2 8)))) (Int.tmod x12_2 8)) 1) = 1 then (none) else (phaetonlaw15_SigOthers.l0 k2 t380 t379 t389 t394 (wrap64 (x12_2 + 1)))) else (none)) else (none)) else (none)) else (none))) = some r := H
          have A33 := aM A330
          clear A330
          by_cases c34 : t397 = true
          ·subst c34
           have H1 : (phaetonlaw15_SigOthers.l0 k2 t380 t379 t389 t394 (wrap64 (x12_2 + 1))) = some r := by rw [if_pos rfl] at H; exact H
           clear H
           have H := H1
           clear H1
           have H' := aM H
           clear H
           obtain ⟨Ao35, co35, eo35⟩ := Kd.R_slice HO_11.out
           subst eo35
           go_wp2_with (first | (go_at_call 26; (with_reducible refine (phaetonref15_In.calls k2 _ _ t394 x12_2 true _ ?side1 ?side2 A33.out).mono ?_); (case side1 => repeat (first | exact (Kd.R_reads' HO_11.out).2.2 | (with_reducible refine Kd.C_alloc ?_ _) | (with_reducible refine Kd.C_drewN ?_ _) | (with_reducible refine Kd.C_drew ?_))); (case side2 => exact (Kd.R_reads' HO_11.out).2.1); rintro e w' ⟨rfl, ⟨nd, rfl⟩⟩; (try first | exact ⟨rfl, _, World.drewN_drewN _ _ _⟩ | exact ⟨rfl, _, Eq.trans (World.drewN_drewN _ _ _) (congrArg (World.drewN _) (Nat.add_assoc _ _ _))⟩)))
           repeat (go_quiet (first | (go_at_call 26; (with_reducible refine (phaetonref15_In.calls k2 _ _ t394 x12_2 true _ ?side1 ?side2 A33.out).mono ?_); (case side1 => repeat (first | exact (Kd.R_reads' HO_11.out).2.2 | (with_reducible refine Kd.C_alloc ?_ _) | (with_reducible refine Kd.C_drewN ?_ _) | (with_reducible refine Kd.C_drew ?_))); (case side2 => exact (Kd.R_reads' HO_11.out).2.1); rintro e w' ⟨rfl, ⟨nd, rfl⟩⟩; (try first | exact ⟨rfl, _, World.drewN_drewN _ _ _⟩ | exact ⟨rfl, _, Eq.trans (World.drewN_drewN _ _ _) (congrArg (World.drewN _) (Nat.add_assoc _ _ _))⟩))); try go_wp2_with (first | (go_at_call 26; (with_reducible refine (phaetonref15_In.calls k2 _ _ t394 x12_2 true _ ?side1 ?side2 A33.out).mono ?_); (case side1 => repeat (first | exact (Kd.R_reads' HO_11.out).2.2 | (with_reducible refine Kd.C_alloc ?_ _) | (with_reducible refine Kd.C_drewN ?_ _) | (with_reducible refine Kd.C_drew ?_))); (case side2 => exact (Kd.R_reads' HO_11.out).2.1); rintro e w' ⟨rfl, ⟨nd, rfl⟩⟩; (try first | exact ⟨rfl, _, World.drewN_drewN _ _ _⟩ | exact ⟨rfl, _, Eq.trans (World.drewN_drewN _ _ _) (congrArg (World.drewN _) (Nat.add_assoc _ _ _))⟩))))
           go_roundg k2
           case measure => have := HJ7.out; have := HK2.out; omega
           case rel => exact ⟨(wrap64 (x12_2 + 1)), (by first | rfl | (simp; done) | (simp [*]; done)), H', ⟨by have := HJ7.out; have := HK2.out; omega⟩, ⟨by (with_reducible repeat (first | apply rA | apply rN | apply rW)); exact HO_1.out⟩, ⟨by (with_reducible repeat (first | apply rA | apply rN | apply rW)); exact HO_9.out⟩, ⟨by (with_reducible repeat (first | apply rA | apply rN | apply rW)); exact HO_11.out⟩, ⟨by (with_reducible repeat (first | refine bN ?_ _ | refine bW ?_ | refine bA ?_ _)); exact BK378.out⟩, ⟨by repeat (first | (with_reducible first | exact HB.out | apply lA | apply lN | apply lW | refine lS ?_ GE378.out) | exact HB.out)⟩⟩
          ·replace c34 := Bool.eq_false_iff.mpr c34
           subst c34
           have H1 : (if 0 ≤ (wrap64 (Int.tdiv x12_2 8)) then (if (wrap64 (Int.tdiv x12_2 8)) < (t389.length : Int) then (if (wrap64 (Int.tdiv x12_2 8)) < (t380.length : Int) then (if 0 ≤ (Int.tmod x12_2 8) then (if (Go.bits .and .u8 (shr .u8 (Go.bits .xor .u8 (rd t389 (wrap64 (Int.tdiv x12_2 8))) (rd t380 (wrap64 (Int.tdiv x12_2 8)))) (Int.tmod x12_2 8)) 1) = 1 then (none) else (phaetonlaw15_SigOthers.l0 k2 t380 t379 t389 t394 (wrap64 (x12_2 + 1)))) else (none)) else (none)) else (none)) else (none)) = some r := by rw [if_neg (show ¬ (false = true) by decide)] at H; exact H
           clear H
           have H := H1
           clear H1
           obtain ⟨ji36, hji36⟩ : ∃ j_ : Int, (wrap64 (Int.tdiv x12_2 8)) = j_ := ⟨_, rfl⟩
           replace H : (if 0 ≤ (ji36) then (if (ji36) < (t389.length : Int) then (if (ji36) < (t380.length : Int) then (if 0 ≤ (Int.tmod x12_2 8) then (if (Go.bits .and .u8 (shr .u8 (Go.bits .xor .u8 (rd t389 (ji36)) (rd t380 (ji36))) (Int.tmod x12_2 8)) 1) = 1 then (none) else (phaetonlaw15_SigOthers.l0 k2 t380 t379 t389 t394 (wrap64 (x12_2 + 1)))) else (none)) else (none)) else (none)) else (none)) = some r := by first | (rw [hji36] at H; exact H) | (simp only [hji36] at H ⊢; exact H)
           (try rw [hji36] at A33)
           have hji36w : (IntKind.i64.wrap (Int.tdiv x12_2 8)) = ji36 := (i64_w _).trans hji36
           by_cases c37 : 0 ≤ (ji36)
           ·rw [if_pos c37] at H
            have c37b0 : decide (0 ≤ (ji36)) = true := decide_eq_true c37
            clear c37
            by_cases c38 : (ji36) < (t389.length : Int)
            ·rw [if_pos c38] at H
             have c38b0 : decide ((ji36) < (t389.length : Int)) = true := decide_eq_true c38
             clear c38
             by_cases c39 : (ji36) < (t380.length : Int)
             ·rw [if_pos c39] at H
              have c39b0 : decide ((ji36) < (t380.length : Int)) = true := decide_eq_true c39
              clear c39
              obtain ⟨ji40, hji40⟩ : ∃ j_ : Int, (Int.tmod x12_2 8) = j_ := ⟨_, rfl⟩
              replace H : (if 0 ≤ (ji40) then (if (Go.bits .and .u8 (shr .u8 (Go.bits .xor .u8 (rd t389 (ji36)) (rd t380 (ji36))) (ji40)) 1) = 1 then (none) else (phaetonlaw15_SigOthers.l0 k2 t380 t379 t389 t394 (wrap64 (x12_2 + 1)))) else (none)) = some r := by first | (rw [hji40] at H; exact H) | (simp only [hji40] at H ⊢; exact H)
              (try rw [hji40] at A33)
              by_cases c41 : 0 ≤ (ji40)
              ·rw [if_pos c41] at H
               have c41b0 := eq_true c41
               have c41b1 : decide (0 ≤ (ji40)) = true := decide_eq_true c41
               clear c41
               obtain ⟨ji42, hji42⟩ : ∃ j_ : Int, (shr .u8 (Go.bits .xor .u8 (rd t389 (ji36)) (rd t380 (ji36))) (ji40)) = j_ := ⟨_, rfl⟩
               replace H : (if (Go.bits .and .u8 (ji42) 1) = 1 then (none) else (phaetonlaw15_SigOthers.l0 k2 t380 t379 t389 t394 (wrap64 (x12_2 + 1)))) = some r := by first | (rw [hji42] at H; exact H) | (simp only [hji42] at H ⊢; exact H)
               (try rw [hji42] at A33)
               have hji42_ : ((Go.bits .xor .u8 (rd t389 (ji36)) (rd t380 (ji36))) / 2 ^ min (ji40).toNat 8) = ji42 := hji42
               have hji42z : (ji40) ≤ 8 → ((Go.bits .xor .u8 (rd t389 (ji36)) (rd t380 (ji36))) / 2 ^ (ji40).toNat) = ji42 := shr_small hji42
               by_cases c43 : (Go.bits .and .u8 (ji42) 1) = 1
               ·rw [if_pos c43] at H
                exact absurd H (by simp)
               ·rw [if_neg c43] at H
                have c43b0 : ((Go.bits .and .u8 (ji42) 1) == 1) = false := nF c43
                have c43b1 : ((Go.bits .and .u8 (ji42) 1) != 1) = true := nT c43
                have H' := aM H
                clear H
                obtain ⟨Ao44, co44, eo44⟩ := Kd.R_slice HO_11.out
                subst eo44
                go_wp2_with (first | (go_at_call 26; (with_reducible refine (phaetonref15_In.calls k2 _ _ t394 x12_2 false _ ?side1 ?side2 A33.out).mono ?_); (case side1 => repeat (first | exact (Kd.R_reads' HO_11.out).2.2 | (with_reducible refine Kd.C_alloc ?_ _) | (with_reducible refine Kd.C_drewN ?_ _) | (with_reducible refine Kd.C_drew ?_))); (case side2 => exact (Kd.R_reads' HO_11.out).2.1); rintro e w' ⟨rfl, ⟨nd, rfl⟩⟩; (try first | exact ⟨rfl, _, World.drewN_drewN _ _ _⟩ | exact ⟨rfl, _, Eq.trans (World.drewN_drewN _ _ _) (congrArg (World.drewN _) (Nat.add_assoc _ _ _))⟩); have p398 : 0 ≤ ((ji36) : Int) := oD (by first | (with_reducible assumption) | assumption); have q398 : (ji36) < (t389.length : Int) := oD (by first | (with_reducible assumption) | assumption); obtain ⟨ad398, e398, hx398_0⟩ := Kd.at_int (Kd.R_reads' HO_9.out).2.2 (ji36) p398 q398; cases e398; replace p398 := eq_true p398; replace q398 := eq_true q398; have p399 : 0 ≤ ((ji36) : Int) := oD (by first | (with_reducible assumption) | assumption); have q399 : (ji36) < (t380.length : Int) := oD (by first | (with_reducible assumption) | assumption); obtain ⟨ad399, e399, hx399_0⟩ := Kd.at_int (Kd.R_reads' HO_1.out).2.2 (ji36) p399 q399; cases e399; replace p399 := eq_true p399; replace q399 := eq_true q399))
                repeat (go_quiet (first | (go_at_call 26; (with_reducible refine (phaetonref15_In.calls k2 _ _ t394 x12_2 false _ ?side1 ?side2 A33.out).mono ?_); (case side1 => repeat (first | exact (Kd.R_reads' HO_11.out).2.2 | (with_reducible refine Kd.C_alloc ?_ _) | (with_reducible refine Kd.C_drewN ?_ _) | (with_reducible refine Kd.C_drew ?_))); (case side2 => exact (Kd.R_reads' HO_11.out).2.1); rintro e w' ⟨rfl, ⟨nd, rfl⟩⟩; (try first | exact ⟨rfl, _, World.drewN_drewN _ _ _⟩ | exact ⟨rfl, _, Eq.trans (World.drewN_drewN _ _ _) (congrArg (World.drewN _) (Nat.add_assoc _ _ _))⟩); have p398 : 0 ≤ ((ji36) : Int) := oD (by first | (with_reducible assumption) | assumption); have q398 : (ji36) < (t389.length : Int) := oD (by first | (with_reducible assumption) | assumption); obtain ⟨ad398, e398, hx398_0⟩ := Kd.at_int (Kd.R_reads' HO_9.out).2.2 (ji36) p398 q398; cases e398; replace p398 := eq_true p398; replace q398 := eq_true q398; have p399 : 0 ≤ ((ji36) : Int) := oD (by first | (with_reducible assumption) | assumption); have q399 : (ji36) < (t380.length : Int) := oD (by first | (with_reducible assumption) | assumption); obtain ⟨ad399, e399, hx399_0⟩ := Kd.at_int (Kd.R_reads' HO_1.out).2.2 (ji36) p399 q399; cases e399; replace p399 := eq_true p399; replace q399 := eq_true q399)); try go_wp2_with (first | (go_at_call 26; (with_reducible refine (phaetonref15_In.calls k2 _ _ t394 x12_2 false _ ?side1 ?side2 A33.out).mono ?_); (case side1 => repeat (first | exact (Kd.R_reads' HO_11.out).2.2 | (with_reducible refine Kd.C_alloc ?_ _) | (with_reducible refine Kd.C_drewN ?_ _) | (with_reducible refine Kd.C_drew ?_))); (case side2 => exact (Kd.R_reads' HO_11.out).2.1); rintro e w' ⟨rfl, ⟨nd, rfl⟩⟩; (try first | exact ⟨rfl, _, World.drewN_drewN _ _ _⟩ | exact ⟨rfl, _, Eq.trans (World.drewN_drewN _ _ _) (congrArg (World.drewN _) (Nat.add_assoc _ _ _))⟩); have p398 : 0 ≤ ((ji36) : Int) := oD (by first | (with_reducible assumption) | assumption); have q398 : (ji36) < (t389.length : Int) := oD (by first | (with_reducible assumption) | assumption); obtain ⟨ad398, e398, hx398_0⟩ := Kd.at_int (Kd.R_reads' HO_9.out).2.2 (ji36) p398 q398; cases e398; replace p398 := eq_true p398; replace q398 := eq_true q398; have p399 : 0 ≤ ((ji36) : Int) := oD (by first | (with_reducible assumption) | assumption); have q399 : (ji36) < (t380.length : Int) := oD (by first | (with_reducible assumption) | assumption); obtain ⟨ad399, e399, hx399_0⟩ := Kd.at_int (Kd.R_reads' HO_1.out).2.2 (ji36) p399 q399; cases e399; replace p399 := eq_true p399; replace q399 := eq_true q399)))
                go_roundg k2
                case measure => have := HJ7.out; have := HK2.out; omega
                case rel => exact ⟨(wrap64 (x12_2 + 1)), (by first | rfl | (simp; done) | (simp [*]; done)), H', ⟨by have := HJ7.out; have := HK2.out; omega⟩, ⟨by (with_reducible repeat (first | apply rA | apply rN | apply rW)); exact HO_1.out⟩, ⟨by (with_reducible repeat (first | apply rA | apply rN | apply rW)); exact HO_9.out⟩, ⟨by (with_reducible repeat (first | apply rA | apply rN | apply rW)); exact HO_11.out⟩, ⟨by (with_reducible repeat (first | refine bN ?_ _ | refine bW ?_ | refine bA ?_ _)); exact BK378.out⟩, ⟨by repeat (first | (with_reducible first | exact HB.out | apply lA | apply lN | apply lW | refine lS ?_ GE378.out) | exact HB.out)⟩⟩
              ·rw [if_neg c41] at H
               exact absurd H (by simp)
             ·rw [if_neg c39] at H
              exact absurd H (by simp)
            ·rw [if_neg c38] at H
             exact absurd H (by simp)
           ·rw [if_neg c37] at H
            exact absurd H (by simp)
         ·rw [if_neg c32] at H
          have c32b0 : decide (x12_2 < (wrap64 (8 * (t380.length : Int)))) = false := decide_eq_false c32
          clear c32
          obtain rfl := Option.some.inj H
          go_wp2
          repeat (go_quiet (fail); try go_wp2)
          go_ret
          exact ⟨by first | rfl | (simp [errW_none, errW_some] <;> rfl) | (simp [*, errW_none, errW_some] <;> rfl), by repeat (first | (with_reducible first | exact HB.out | apply lA | apply lN | apply lW | refine lS ?_ GE378.out) | exact HB.out)⟩
      ·rw [if_neg c28] at H
       exact absurd H (by simp)
     ·replace c26 := Bool.eq_false_iff.mpr c26
      subst c26
      have H1 : (some t379) = some r := by rw [if_neg (show ¬ (false = true) by decide)] at H; exact H
      clear H
      have H := H1
      clear H1
      obtain rfl := Option.some.inj H
      go_wp2
      repeat (go_quiet (fail); try go_wp2)
      go_ret
      exact ⟨by first | rfl | (simp [errW_none, errW_some] <;> rfl) | (simp [*, errW_none, errW_some] <;> rfl), by repeat (first | (with_reducible first | exact HB.out | apply lA | apply lN | apply lW | refine lS ?_ GE378.out) | exact HB.out)⟩
 ·rw [if_neg c6] at H
  exact absurd H (by simp)

end Go.Proofs.Ytcgkkjimonfhbaa.P

/- Go functions that the laws of this seat reach, each as a Lean function, and a proof that a call of the Go code comes to its answers; written by a program (the kit's print, turned in a few places). Conditions: each theorem's own premises. -/
import Derived.Test.YtcgkkjimonfhbaaPx0
import Derived.Test.YtcgkkjimonfhbaaPx11
import Derived.Test.YtcgkkjimonfhbaaPx12
import Derived.Test.YtcgkkjimonfhbaaPx13
namespace Go.Proofs.Ytcgkkjimonfhbaa.P
open Go.RowKit Go.Proofs.YtcgkkjimonfhbaaW.PrintWords Go.Proofs.YtcgkkjimonfhbaaW.PrintLast Go.Proofs.YtcgkkjimonfhbaaW.PrintMore
attribute [local go_sem] max2_int min2_int max_two min_two max_three min_three max_four min_four   -- for this text's walks alone
set_option linter.unusedVariables false
set_option linter.unusedSimpArgs false

/-! ### phaetonref15_Put: function 13 -/
mutual
def phaetonref15_Put.j0 : Nat → List Int → Int → Bool → Int → Int → Bool → Bool → Int → Int → Option (List Int × Bool)
 | 0, _, _, _, _, _, _, _, _, _ => none
 | k + 1, x0, x2, x22, x259000, x259001, x259002, x259003, x259004, x259005 => if x22 = true then (some (([] : List Int), false)) else (if x2 < 0 then ((phaetonref15_power.f k x259001).bind fun t261 => (phaetonref15_Put.j1 k x0 (wrap64 (x2 + t261)) x259000 x259001 x259002 x259003 x259004 x259005)) else (phaetonref15_Put.j1 k x0 x2 x259000 x259001 x259002 x259003 x259004 x259005))
def phaetonref15_Put.j1 : Nat → List Int → Int → Int → Int → Bool → Bool → Int → Int → Option (List Int × Bool)
 | 0, _, _, _, _, _, _, _, _ => none
 | k + 1, x0, x2, x259000, x259001, x259002, x259003, x259004, x259005 => (some (([] : List Int) : List Int)).bind fun y262 => (if y262.length + x0.length < 140737488355328 then ((phaetonref15_Places.f k x259000 x259001 x259002 x259003 x259004 x259005).bind fun t268 => (phaetonref15_Put.l0 k x2 (y262 ++ x0) t268 0)) else (none))
def phaetonref15_Put.l0 : Nat → Int → List Int → List Int → Int → Option (List Int × Bool)
 | 0, _, _, _, _ => none
 | k + 1, x2, x8, x9, x10 => if x10 < (x9.length : Int) then (if 0 ≤ x10 then (if 0 ≤ (wrap64 (Int.tdiv (rd x9 x10) 8)) then (if (wrap64 (Int.tdiv (rd x9 x10) 8)) < (x8.length : Int) then ((phaetonref15_power.f k (Int.tmod (rd x9 x10) 8)).bind fun t274 => (if t274 = 0 then (none) else ((phaetonref15_power.f k (Int.tmod (rd x9 x10) 8)).bind fun t279 => (phaetonref15_Put.l0 k (wrap64 (Int.tdiv x2 2)) (x8.set ((wrap64 (Int.tdiv (rd x9 x10) 8)) : Int).toNat ((wrap64 ((wrap64 (rd x8 (wrap64 (Int.tdiv (rd x9 x10) 8)))) + (wrap64 ((wrap64 ((Int.tmod x2 2) - (Int.tmod (wrap64 (Int.tdiv (wrap64 (rd x8 (wrap64 (Int.tdiv (rd x9 x10) 8)))) t274)) 2))) * t279)))) % 256)) x9 (wrap64 (x10 + 1)))))) else (none)) else (none)) else (none)) else (some (x8, true))
end
def phaetonref15_Put.f (k : Nat) (l0 : List Int) (a1_0 : Int) (a1_1 : Int) (a1_2 : Bool) (a1_3 : Bool) (a1_4 : Int) (a1_5 : Int) (a2 : Int) : Option (List Int × Bool) := (phaetonref15_Right.f k a1_0 a1_1 a1_2 a1_3 a1_4 a1_5 (l0.length : Int)).bind fun t259 => (if t259 = true then ((phaetonref15_Fits.f k a1_0 a1_1 a1_2 a1_3 a1_4 a1_5 a2).bind fun t260 => (phaetonref15_Put.j0 k l0 a2 (!t260) a1_0 a1_1 a1_2 a1_3 a1_4 a1_5)) else (phaetonref15_Put.j0 k l0 a2 true a1_0 a1_1 a1_2 a1_3 a1_4 a1_5))
theorem phaetonref15_Put.mono_l : ∀ k, (∀ y0 y1 y2 y3 y4 y5 y6 y7 y8, LeO (phaetonref15_Put.j0 k y0 y1 y2 y3 y4 y5 y6 y7 y8) (phaetonref15_Put.j0 (k + 1) y0 y1 y2 y3 y4 y5 y6 y7 y8)) ∧ (∀ y0 y1 y2 y3 y4 y5 y6 y7, LeO (phaetonref15_Put.j1 k y0 y1 y2 y3 y4 y5 y6 y7) (phaetonref15_Put.j1 (k + 1) y0 y1 y2 y3 y4 y5 y6 y7)) ∧ (∀ y0 y1 y2 y3, LeO (phaetonref15_Put.l0 k y0 y1 y2 y3) (phaetonref15_Put.l0 (k + 1) y0 y1 y2 y3))
 | 0 => ⟨fun _ _ _ _ _ _ _ _ _ r h => by simp [phaetonref15_Put.j0] at h, fun _ _ _ _ _ _ _ _ r h => by simp [phaetonref15_Put.j1] at h, fun _ _ _ _ r h => by simp [phaetonref15_Put.l0] at h⟩
 | k + 1 => by
  obtain ⟨ih0, ih1, ih2⟩ := phaetonref15_Put.mono_l k
  refine ⟨?_, ?_, ?_⟩
  ·intro y0 y1 y2 y3 y4 y5 y6 y7 y8
   unfold phaetonref15_Put.j0
   repeat' first
   | (with_reducible exact ih0 _ _ _ _ _ _ _ _ _)
   | (with_reducible exact ih1 _ _ _ _ _ _ _ _)
   | (with_reducible exact ih2 _ _ _ _)
   | (with_reducible exact phaetonref15_Fits.mono _ _ _ _ _ _ _ _)
   | (with_reducible exact phaetonref15_Places.mono _ _ _ _ _ _ _)
   | (with_reducible exact phaetonref15_Right.mono _ _ _ _ _ _ _ _)
   | (with_reducible exact phaetonref15_power.mono _ _)
   | (with_reducible exact LeO.refl _)
   | (with_reducible exact LeO.none _)
   | (with_reducible refine LeO.ite ?_ ?_)
   | (with_reducible refine LeO.bind ?_ (fun _ => ?_))
   | exact ih0 _ _ _ _ _ _ _ _ _
   | exact ih1 _ _ _ _ _ _ _ _
   | exact ih2 _ _ _ _
   | exact phaetonref15_Fits.mono _ _ _ _ _ _ _ _
   | exact phaetonref15_Places.mono _ _ _ _ _ _ _
   | exact phaetonref15_Right.mono _ _ _ _ _ _ _ _
   | exact phaetonref15_power.mono _ _
   | exact LeO.none _
   | refine LeO.ite ?_ ?_
   | refine LeO.bind ?_ (fun _ => ?_)
  ·intro y0 y1 y2 y3 y4 y5 y6 y7
   unfold phaetonref15_Put.j1
   repeat' first
   | (with_reducible exact ih0 _ _ _ _ _ _ _ _ _)
   | (with_reducible exact ih1 _ _ _ _ _ _ _ _)
   | (with_reducible exact ih2 _ _ _ _)
   | (with_reducible exact phaetonref15_Fits.mono _ _ _ _ _ _ _ _)
   | (with_reducible exact phaetonref15_Places.mono _ _ _ _ _ _ _)
   | (with_reducible exact phaetonref15_Right.mono _ _ _ _ _ _ _ _)
   | (with_reducible exact phaetonref15_power.mono _ _)
   | (with_reducible exact LeO.refl _)
   | (with_reducible exact LeO.none _)
   | (with_reducible refine LeO.ite ?_ ?_)
   | (with_reducible refine LeO.bind ?_ (fun _ => ?_))
   | exact ih0 _ _ _ _ _ _ _ _ _
   | exact ih1 _ _ _ _ _ _ _ _
   | exact ih2 _ _ _ _
   | exact phaetonref15_Fits.mono _ _ _ _ _ _ _ _
   | exact phaetonref15_Places.mono _ _ _ _ _ _ _
   | exact phaetonref15_Right.mono _ _ _ _ _ _ _ _
   | exact phaetonref15_power.mono _ _
   | exact LeO.none _
   | refine LeO.ite ?_ ?_
   | refine LeO.bind ?_ (fun _ => ?_)
  ·intro y0 y1 y2 y3
   unfold phaetonref15_Put.l0
   repeat' first
   | (with_reducible exact ih0 _ _ _ _ _ _ _ _ _)
   | (with_reducible exact ih1 _ _ _ _ _ _ _ _)
   | (with_reducible exact ih2 _ _ _ _)
   | (with_reducible exact phaetonref15_Fits.mono _ _ _ _ _ _ _ _)
   | (with_reducible exact phaetonref15_Places.mono _ _ _ _ _ _ _)
   | (with_reducible exact phaetonref15_Right.mono _ _ _ _ _ _ _ _)
   | (with_reducible exact phaetonref15_power.mono _ _)
   | (with_reducible exact LeO.refl _)
   | (with_reducible exact LeO.none _)
   | (with_reducible refine LeO.ite ?_ ?_)
   | (with_reducible refine LeO.bind ?_ (fun _ => ?_))
   | exact ih0 _ _ _ _ _ _ _ _ _
   | exact ih1 _ _ _ _ _ _ _ _
   | exact ih2 _ _ _ _
   | exact phaetonref15_Fits.mono _ _ _ _ _ _ _ _
   | exact phaetonref15_Places.mono _ _ _ _ _ _ _
   | exact phaetonref15_Right.mono _ _ _ _ _ _ _ _
   | exact phaetonref15_power.mono _ _
   | exact LeO.none _
   | refine LeO.ite ?_ ?_
   | refine LeO.bind ?_ (fun _ => ?_)
theorem phaetonref15_Put.mono : ∀ a0 a1 a2 a3 a4 a5 a6 a7 k, LeO (phaetonref15_Put.f k a0 a1 a2 a3 a4 a5 a6 a7) (phaetonref15_Put.f (k + 1) a0 a1 a2 a3 a4 a5 a6 a7) := by
 intro a0 a1 a2 a3 a4 a5 a6 a7 k
 obtain ⟨ih0, ih1, ih2⟩ := phaetonref15_Put.mono_l k
 unfold phaetonref15_Put.f
 repeat' first
   | (with_reducible exact ih0 _ _ _ _ _ _ _ _ _)
   | (with_reducible exact ih1 _ _ _ _ _ _ _ _)
   | (with_reducible exact ih2 _ _ _ _)
   | (with_reducible exact phaetonref15_Fits.mono _ _ _ _ _ _ _ _)
   | (with_reducible exact phaetonref15_Places.mono _ _ _ _ _ _ _)
   | (with_reducible exact phaetonref15_Right.mono _ _ _ _ _ _ _ _)
   | (with_reducible exact phaetonref15_power.mono _ _)
   | (with_reducible exact LeO.refl _)
   | (with_reducible exact LeO.none _)
   | (with_reducible refine LeO.ite ?_ ?_)
   | (with_reducible refine LeO.bind ?_ (fun _ => ?_))
   | exact ih0 _ _ _ _ _ _ _ _ _
   | exact ih1 _ _ _ _ _ _ _ _
   | exact ih2 _ _ _ _
   | exact phaetonref15_Fits.mono _ _ _ _ _ _ _ _
   | exact phaetonref15_Places.mono _ _ _ _ _ _ _
   | exact phaetonref15_Right.mono _ _ _ _ _ _ _ _
   | exact phaetonref15_power.mono _ _
   | exact LeO.none _
   | refine LeO.ite ?_ ?_
   | refine LeO.bind ?_ (fun _ => ?_)
def phaetonref15_Put.T9 : Bool × List (List Nat × List Nat) := (true, [([], []), ([], []), ([], []), ([1, 2], [1, 2]), ([3], [3]), ([4], [4]), ([0, 5], [0, 5]), ([6], [6]), ([7], [7]), ([], []), ([], []), ([9, 10], [9, 10]), ([11], [11]), ([12], [12]), ([13], [13]), ([8, 14], [8, 14]), ([15], [15]), ([16, 14, 0, 1, 2, 3, 4, 5, 6, 7, 8, 9, 10, 11, 12, 13, 14, 15, 16], [16])])
def phaetonref15_Put.B9 : List Nat := [0, 0, 0, 6, 14, 30, 63, 127, 255, 0, 0, 1536, 3584, 7680, 15872, 32767, 65535, 131071]
theorem phaetonref15_Put.tab9 : rtab .any (opsOf Try.f13 9) = phaetonref15_Put.T9 := by kernel_rfl
theorem phaetonref15_Put.bits9 : waitsOk phaetonref15_Put.T9.2 phaetonref15_Put.B9 = true := by kernel_rfl
def phaetonref15_Put.T10 : Bool × List (List Nat × List Nat) := (true, [([], []), ([], []), ([], []), ([1, 2], [1, 2]), ([3], [3]), ([4], [4]), ([], []), ([], []), ([], []), ([7, 8], [7, 8]), ([9], [9]), ([10], [10]), ([6, 11], [6, 11]), ([12], [12]), ([13], [13]), ([], []), ([15], [15]), ([], []), ([16, 17], [16, 17]), ([], []), ([], []), ([19, 20], [19, 20]), ([21], [21]), ([22], [22]), ([23], [23]), ([18, 24], [18, 24]), ([14, 25], [14, 25]), ([26], [26]), ([0, 5, 0, 1, 2, 3, 4, 5, 6, 7, 8, 9, 10, 11, 12, 13, 14, 15, 16, 17, 18, 19, 20, 21, 22, 23, 24, 25, 26, 27], [0, 5]), ([28, 27, 24, 0, 1, 2, 3, 4, 5, 6, 7, 8, 9, 10, 11, 12, 13, 14, 15, 16, 17, 18, 19, 20, 21, 22, 23, 24, 25, 26, 27], [27, 28])])
def phaetonref15_Put.B10 : List Nat := [0, 0, 0, 6, 14, 30, 0, 0, 0, 384, 896, 1920, 4032, 8128, 16320, 0, 32768, 0, 229376, 0, 0, 1572864, 3670016, 7864320, 16252928, 33521664, 67108800, 134217664, 268435455, 536870911]
theorem phaetonref15_Put.tab10 : rtab .any (opsOf Try.f13 10) = phaetonref15_Put.T10 := by kernel_rfl
theorem phaetonref15_Put.bits10 : waitsOk phaetonref15_Put.T10.2 phaetonref15_Put.B10 = true := by kernel_rfl
set_option maxHeartbeats 8000000 in
set_option maxRecDepth 100000 in
theorem phaetonref15_Put.calls (k : Nat) (A0 : Option Addr) (c0 : Nat) (l0 : List Int) (a1_0 : Int) (a1_1 : Int) (a1_2 : Bool) (a1_3 : Bool) (a1_4 : Int) (a1_5 : Int) (a2 : Int) (r1 : List Int) (r2 : Bool) (w : World) (hr0 : Kd.C (Kd.int .u8) w A0 l0.length l0) (hc0 : l0.length ≤ c0) (h : phaetonref15_Put.f k l0 a1_0 a1_1 a1_2 a1_3 a1_4 a1_5 a2 = some (r1, r2)) :
  Calls Try.prog 13 #[.slice A0 l0.length c0, .agg #[.int .i64 a1_0, .int .i64 a1_1, .bool a1_2, .bool a1_3, .int .i64 a1_4, .int .i64 a1_5], .int .i64 a2] w fun e w' => ∃ v0_ : Value, e = .returned (.tuple #[v0_, .bool r2]) ∧ Kd.R (Kd.int .u8) 5 w' w.heap.size (fun _ => True) v0_ r1 ∧ Below w.heap.size w w' := by
 have hu23 := Try.underlying23
 have HR0 := aM hr0
 have HC0 := aM hc0
 clear hr0 hc0
 have HB := aM (Below.refl w.heap.size w)
 have H : ((phaetonref15_Right.f k a1_0 a1_1 a1_2 a1_3 a1_4 a1_5 (l0.length : Int)).bind fun t259 => (if t259 = true then ((phaetonref15_Fits.f k a1_0 a1_1 a1_2 a1_3 a1_4 a1_5 a2).bind fun t260 => (phaetonref15_Put.j0 k l0 a2 (!t260) a1_0 a1_1 a1_2 a1_3 a1_4 a1_5)) else (phaetonref15_Put.j0 k l0 a2 true a1_0 a1_1 a1_2 a1_3 a1_4 a1_5))) = some (r1, r2) := h
 clear h
 have HC4 := aM H
 clear H
 go_enter Try.func13, Try.ntmps13
 go_upto_region 1 with (first | ((with_reducible refine gate_dst (N := 4) rfl ?_); refine box_event ?hg (N := 4) ?hd (cs := #[.int .i64 a1_0, .int .i64 a1_1, .bool a1_2, .bool a1_3, .int .i64 a1_4, .int .i64 a1_5]) (t := 23) ?hr ?_; (case hd => rfl); (case hg => rfl); (case hr => first | (go_simp; done) | (go_simp; rfl)); intro gb258 hg w5 hbox hb; have n0_ := aM (lT (by repeat (first | (with_reducible first | exact HB.out | apply lA | apply lN | apply lW) | exact HB.out)) hb); have n1_ := aM (hbox); have n2_ := aM ((by rw [hg]; exact (lZ (by repeat (first | (with_reducible first | exact HB.out | apply lA | apply lN | apply lW) | exact HB.out))) : w.heap.size ≤ gb258)); have n3_ := aM ((by rw [hg]; exact (lZ (by repeat (first | (with_reducible first | exact HB.out | apply lA | apply lN | apply lW) | exact HB.out))) : w.heap.size ≤ gb258)); clear HB; have HB := n0_; have BK258 := n1_; have GW258 := n2_; have GE258 := n3_; clear n0_ n1_ n2_ n3_; clear hb hbox hg))
 (try simp only [Act.put, sT, sZ, sS])
 go_cut [22] (fun v22 wc => ∃ (kq : Nat) (x22_3 : Bool), v22 = .bool x22_3 ∧ Aside0 (phaetonref15_Put.j0 kq l0 a2 x22_3 a1_0 a1_1 a1_2 a1_3 a1_4 a1_5 = some (r1, r2)) ∧ Aside0 (kq ≤ k) ∧ Aside0 (wc.heap[gb258]? = some (.cells #[.int .i64 a1_0, .int .i64 a1_1, .bool a1_2, .bool a1_3, .int .i64 a1_4, .int .i64 a1_5] 23 (0, 0))) ∧ Aside0 (Below w.heap.size w wc))
 case first =>
  have H := HC4.out
  clear HC4
  replace H := Option.bind_eq_some_iff.mp H
  obtain ⟨t259, A60, H⟩ := H
  replace H : (if t259 = true then ((phaetonref15_Fits.f k a1_0 a1_1 a1_2 a1_3 a1_4 a1_5 a2).bind fun t260 => (phaetonref15_Put.j0 k l0 a2 (!t260) a1_0 a1_1 a1_2 a1_3 a1_4 a1_5)) else (phaetonref15_Put.j0 k l0 a2 true a1_0 a1_1 a1_2 a1_3 a1_4 a1_5)) = some (r1, r2) := H
  have A6 := aM A60
  clear A60
  by_cases c7 : t259 = true
  ·subst c7
   have H1 : ((phaetonref15_Fits.f k a1_0 a1_1 a1_2 a1_3 a1_4 a1_5 a2).bind fun t260 => (phaetonref15_Put.j0 k l0 a2 (!t260) a1_0 a1_1 a1_2 a1_3 a1_4 a1_5)) = some (r1, r2) := by rw [if_pos rfl] at H; exact H
   clear H
   have H := H1
   clear H1
   replace H := Option.bind_eq_some_iff.mp H
   obtain ⟨t260, A80, H⟩ := H
   replace H : (phaetonref15_Put.j0 k l0 a2 (!t260) a1_0 a1_1 a1_2 a1_3 a1_4 a1_5) = some (r1, r2) := H
   have A8 := aM A80
   clear A80
   have H' := aM H
   clear H
   have hcz9_0 : w5.cell? ⟨gb258, 0, none⟩ = some (.int .i64 a1_0) := (bC BK258.out 0).trans rfl
   have hcz9_1 : w5.cell? ⟨gb258, 1, none⟩ = some (.int .i64 a1_1) := (bC BK258.out 1).trans rfl
   have hcz9_2 : w5.cell? ⟨gb258, 2, none⟩ = some (.bool a1_2) := (bC BK258.out 2).trans rfl
   have hcz9_3 : w5.cell? ⟨gb258, 3, none⟩ = some (.bool a1_3) := (bC BK258.out 3).trans rfl
   have hcz9_4 : w5.cell? ⟨gb258, 4, none⟩ = some (.int .i64 a1_4) := (bC BK258.out 4).trans rfl
   have hcz9_5 : w5.cell? ⟨gb258, 5, none⟩ = some (.int .i64 a1_5) := (bC BK258.out 5).trans rfl
   have hfz9_0 := bF BK258.out 0
   have hfz9_1 := bF BK258.out 1
   have hfz9_2 := bF BK258.out 2
   have hfz9_3 := bF BK258.out 3
   have hfz9_4 := bF BK258.out 4
   have hfz9_5 := bF BK258.out 5
   go_wp2_with (first | ((with_reducible refine gate_callee (f := 17) rfl ?_); refine goesL_ (some 15) rfl rfl Try.func17 (by kernel_rfl) rfl #[.agg #[.int .i64 a1_0, .int .i64 a1_1, .bool a1_2, .bool a1_3, .int .i64 a1_4, .int .i64 a1_5], .int .i64 (l0.length : Int)] rfl (by (try simp only [List.map_toArray, List.map_cons, List.map_nil]); first | done | rfl | (simp only [List.length_drop, List.length_take]; rfl)) ?_; (with_reducible refine (phaetonref15_Right.calls k a1_0 a1_1 a1_2 a1_3 a1_4 a1_5 (l0.length : Int) true _ A6.out).mono ?_); rintro e w10 ⟨rfl, hb⟩; refine ⟨_, rfl, ?_⟩; have n0_ := aM (blk_below (g := gb258) (o := .cells #[.int .i64 a1_0, .int .i64 a1_1, .bool a1_2, .bool a1_3, .int .i64 a1_4, .int .i64 a1_5] 23 (0, 0)) (by (with_reducible repeat (first | refine bN ?_ _ | refine bW ?_ | refine bA ?_ _)); exact BK258.out) hb); have n1_ := aM (lT (by repeat (first | (with_reducible first | exact HB.out | apply lA | apply lN | apply lW | refine lS ?_ GE258.out) | exact HB.out)) hb); clear BK258; clear HB; have BK258 := n0_; have HB := n1_; clear n0_ n1_; (try clear hb); (try clear hb2); (try clear hk); (try clear hi); have hcz11_0 : w10.cell? ⟨gb258, 0, none⟩ = some (.int .i64 a1_0) := (bC BK258.out 0).trans rfl; have hcz11_1 : w10.cell? ⟨gb258, 1, none⟩ = some (.int .i64 a1_1) := (bC BK258.out 1).trans rfl; have hcz11_2 : w10.cell? ⟨gb258, 2, none⟩ = some (.bool a1_2) := (bC BK258.out 2).trans rfl; have hcz11_3 : w10.cell? ⟨gb258, 3, none⟩ = some (.bool a1_3) := (bC BK258.out 3).trans rfl; have hcz11_4 : w10.cell? ⟨gb258, 4, none⟩ = some (.int .i64 a1_4) := (bC BK258.out 4).trans rfl; have hcz11_5 : w10.cell? ⟨gb258, 5, none⟩ = some (.int .i64 a1_5) := (bC BK258.out 5).trans rfl; have hfz11_0 := bF BK258.out 0; have hfz11_1 := bF BK258.out 1; have hfz11_2 := bF BK258.out 2; have hfz11_3 := bF BK258.out 3; have hfz11_4 := bF BK258.out 4; have hfz11_5 := bF BK258.out 5) | (go_at_call 25; (with_reducible refine (phaetonref15_Fits.calls k a1_0 a1_1 a1_2 a1_3 a1_4 a1_5 a2 t260 _ A8.out).mono ?_); rintro e w12 ⟨rfl, hb⟩; have n0_ := aM (blk_below (g := gb258) (o := .cells #[.int .i64 a1_0, .int .i64 a1_1, .bool a1_2, .bool a1_3, .int .i64 a1_4, .int .i64 a1_5] 23 (0, 0)) (by (with_reducible repeat (first | refine bN ?_ _ | refine bW ?_ | refine bA ?_ _)); exact BK258.out) hb); have n1_ := aM (lT (by repeat (first | (with_reducible first | exact HB.out | apply lA | apply lN | apply lW | refine lS ?_ GE258.out) | exact HB.out)) hb); clear BK258; clear HB; have BK258 := n0_; have HB := n1_; clear n0_ n1_; (try clear hb); (try clear hb2); (try clear hk); (try clear hi)))
   go_meet
   case rel => exact ⟨_, (!t260), (by first | rfl | (simp; done) | (simp [*]; done)), H', ⟨by first | omega | exact Nat.le_refl _⟩, ⟨by (with_reducible repeat (first | refine bN ?_ _ | refine bW ?_ | refine bA ?_ _)); exact BK258.out⟩, ⟨by repeat (first | (with_reducible first | exact HB.out | apply lA | apply lN | apply lW | refine lS ?_ GE258.out) | exact HB.out)⟩⟩
  ·replace c7 := Bool.eq_false_iff.mpr c7
   subst c7
   have H1 : (phaetonref15_Put.j0 k l0 a2 true a1_0 a1_1 a1_2 a1_3 a1_4 a1_5) = some (r1, r2) := by rw [if_neg (show ¬ (false = true) by decide)] at H; exact H
   clear H
   have H := H1
   clear H1
   have H' := aM H
   clear H
   have hcz13_0 : w5.cell? ⟨gb258, 0, none⟩ = some (.int .i64 a1_0) := (bC BK258.out 0).trans rfl
   have hcz13_1 : w5.cell? ⟨gb258, 1, none⟩ = some (.int .i64 a1_1) := (bC BK258.out 1).trans rfl
   have hcz13_2 : w5.cell? ⟨gb258, 2, none⟩ = some (.bool a1_2) := (bC BK258.out 2).trans rfl
   have hcz13_3 : w5.cell? ⟨gb258, 3, none⟩ = some (.bool a1_3) := (bC BK258.out 3).trans rfl
   have hcz13_4 : w5.cell? ⟨gb258, 4, none⟩ = some (.int .i64 a1_4) := (bC BK258.out 4).trans rfl
   have hcz13_5 : w5.cell? ⟨gb258, 5, none⟩ = some (.int .i64 a1_5) := (bC BK258.out 5).trans rfl
   have hfz13_0 := bF BK258.out 0
   have hfz13_1 := bF BK258.out 1
   have hfz13_2 := bF BK258.out 2
   have hfz13_3 := bF BK258.out 3
   have hfz13_4 := bF BK258.out 4
   have hfz13_5 := bF BK258.out 5
   go_wp2_with (first | ((with_reducible refine gate_callee (f := 17) rfl ?_); refine goesL_ (some 15) rfl rfl Try.func17 (by kernel_rfl) rfl #[.agg #[.int .i64 a1_0, .int .i64 a1_1, .bool a1_2, .bool a1_3, .int .i64 a1_4, .int .i64 a1_5], .int .i64 (l0.length : Int)] rfl (by (try simp only [List.map_toArray, List.map_cons, List.map_nil]); first | done | rfl | (simp only [List.length_drop, List.length_take]; rfl)) ?_; (with_reducible refine (phaetonref15_Right.calls k a1_0 a1_1 a1_2 a1_3 a1_4 a1_5 (l0.length : Int) false _ A6.out).mono ?_); rintro e w14 ⟨rfl, hb⟩; refine ⟨_, rfl, ?_⟩; have n0_ := aM (blk_below (g := gb258) (o := .cells #[.int .i64 a1_0, .int .i64 a1_1, .bool a1_2, .bool a1_3, .int .i64 a1_4, .int .i64 a1_5] 23 (0, 0)) (by (with_reducible repeat (first | refine bN ?_ _ | refine bW ?_ | refine bA ?_ _)); exact BK258.out) hb); have n1_ := aM (lT (by repeat (first | (with_reducible first | exact HB.out | apply lA | apply lN | apply lW | refine lS ?_ GE258.out) | exact HB.out)) hb); clear BK258; clear HB; have BK258 := n0_; have HB := n1_; clear n0_ n1_; (try clear hb); (try clear hb2); (try clear hk); (try clear hi)))
   go_meet
   case rel => exact ⟨_, (true), (by first | rfl | (simp; done) | (simp [*]; done)), H', ⟨by first | omega | exact Nat.le_refl _⟩, ⟨by (with_reducible repeat (first | refine bN ?_ _ | refine bW ?_ | refine bA ?_ _)); exact BK258.out⟩, ⟨by repeat (first | (with_reducible first | exact HB.out | apply lA | apply lN | apply lW | refine lS ?_ GE258.out) | exact HB.out)⟩⟩
 case rest =>
  clear HC4
  try clear c1
  try clear p2
  try clear c7
  try clear c13
  try clear hcz11_0
  try clear hcz11_1
  try clear hcz11_2
  try clear hcz11_3
  try clear hcz11_4
  try clear hcz11_5
  try clear hcz13_0
  try clear hcz13_1
  try clear hcz13_2
  try clear hcz13_3
  try clear hcz13_4
  try clear hcz13_5
  try clear hcz9_0
  try clear hcz9_1
  try clear hcz9_2
  try clear hcz9_3
  try clear hcz9_4
  try clear hcz9_5
  try clear hfz11_0
  try clear hfz11_1
  try clear hfz11_2
  try clear hfz11_3
  try clear hfz11_4
  try clear hfz11_5
  try clear hfz13_0
  try clear hfz13_1
  try clear hfz13_2
  try clear hfz13_3
  try clear hfz13_4
  try clear hfz13_5
  try clear hfz9_0
  try clear hfz9_1
  try clear hfz9_2
  try clear hfz9_3
  try clear hfz9_4
  try clear hfz9_5
  obtain ⟨kq, x22_3, rfl, HA, HJ3, BK258, HB⟩ := hcut
  cases kq with
  | zero => exact absurd HA.out (by simp [phaetonref15_Put.j0])
  | succ kj3 =>
   have H := HA.out
   clear HA
   simp only [phaetonref15_Put.j0] at H
   by_cases c15 : x22_3 = true
   ·subst c15
    have H1 : (some (([] : List Int), false)) = some (r1, r2) := by rw [if_pos rfl] at H; exact H
    clear H
    have H := H1
    clear H1
    simp only [Option.some.injEq, Prod.mk.injEq] at H
    obtain ⟨rfl, rfl⟩ := H
    go_wp2
    go_ret2
    exact ⟨_, by first | rfl | (simp [errW_none, errW_some] <;> rfl) | (simp [*, errW_none, errW_some] <;> rfl), by first | exact Kd.R_nil _ _ _ _ _ | exact Kd.N_nil _ _ _ _ _ | exact Kd.V_nil _ _ _ _ _ | exact Kd.Q_nil _ _ _ _ _ | exact Kd.S_nil _ _ _ _ _, by repeat (first | (with_reducible first | exact HB.out | apply lA | apply lN | apply lW | refine lS ?_ GE258.out) | exact HB.out)⟩
   ·replace c15 := Bool.eq_false_iff.mpr c15
    subst c15
    have H1 : (if a2 < 0 then ((phaetonref15_power.f kj3 a1_1).bind fun t261 => (phaetonref15_Put.j1 kj3 l0 (wrap64 (a2 + t261)) a1_0 a1_1 a1_2 a1_3 a1_4 a1_5)) else (phaetonref15_Put.j1 kj3 l0 a2 a1_0 a1_1 a1_2 a1_3 a1_4 a1_5)) = some (r1, r2) := by rw [if_neg (show ¬ (false = true) by decide)] at H; exact H
    clear H
    have H := H1
    clear H1
    have HC16 := aM H
    clear H
    go_upto_if 24 with (fail)
    go_cut [2] (fun v2 wc => ∃ (kq : Nat) (x2_15 : Int), v2 = .int .i64 x2_15 ∧ Aside0 (phaetonref15_Put.j1 kq l0 x2_15 a1_0 a1_1 a1_2 a1_3 a1_4 a1_5 = some (r1, r2)) ∧ Aside0 (kq ≤ kj3) ∧ Aside0 (wc.heap[gb258]? = some (.cells #[.int .i64 a1_0, .int .i64 a1_1, .bool a1_2, .bool a1_3, .int .i64 a1_4, .int .i64 a1_5] 23 (0, 0))) ∧ Aside0 (Below w.heap.size w wc))
    case first =>
     have H := HC16.out
     clear HC16
     by_cases c17 : a2 < 0
     ·rw [if_pos c17] at H
      have c17b0 : decide (a2 < 0) = true := decide_eq_true c17
      clear c17
      (first | rw [c17b0] | (simp only [i64_w, i32_w]; rw [c17b0]) | skip)
      replace H := Option.bind_eq_some_iff.mp H
      obtain ⟨t261, A180, H⟩ := H
      replace H : (phaetonref15_Put.j1 kj3 l0 (wrap64 (a2 + t261)) a1_0 a1_1 a1_2 a1_3 a1_4 a1_5) = some (r1, r2) := H
      have A18 := aM A180
      clear A180
      have H' := aM H
      clear H
      have hcz19_0 : wc.cell? ⟨gb258, 0, none⟩ = some (.int .i64 a1_0) := (bC BK258.out 0).trans rfl
      have hcz19_1 : wc.cell? ⟨gb258, 1, none⟩ = some (.int .i64 a1_1) := (bC BK258.out 1).trans rfl
      have hcz19_2 : wc.cell? ⟨gb258, 2, none⟩ = some (.bool a1_2) := (bC BK258.out 2).trans rfl
      have hcz19_3 : wc.cell? ⟨gb258, 3, none⟩ = some (.bool a1_3) := (bC BK258.out 3).trans rfl
      have hcz19_4 : wc.cell? ⟨gb258, 4, none⟩ = some (.int .i64 a1_4) := (bC BK258.out 4).trans rfl
      have hcz19_5 : wc.cell? ⟨gb258, 5, none⟩ = some (.int .i64 a1_5) := (bC BK258.out 5).trans rfl
      have hfz19_0 := bF BK258.out 0
      have hfz19_1 := bF BK258.out 1
      have hfz19_2 := bF BK258.out 2
      have hfz19_3 := bF BK258.out 3
      have hfz19_4 := bF BK258.out 4
      have hfz19_5 := bF BK258.out 5
      go_wp2_with (first | ((with_reducible refine gate_callee (f := 30) rfl ?_); refine goesL_ (some 28) rfl rfl Try.func30 (by kernel_rfl) rfl #[.int .i64 a1_1] rfl (by (try simp only [List.map_toArray, List.map_cons, List.map_nil]); first | done | rfl | (simp only [List.length_drop, List.length_take]; rfl)) ?_; (with_reducible refine (phaetonref15_power.calls kj3 a1_1 t261 _ A18.out).mono ?_); rintro e w' ⟨rfl, ⟨nd, rfl⟩⟩; refine ⟨_, rfl, ?_⟩))
      go_meet
      case rel => exact ⟨_, (wrap64 (a2 + t261)), (by first | rfl | (simp; done) | (simp [*]; done)), H', ⟨by have := HJ3.out; first | omega | exact Nat.le_refl _⟩, ⟨by (with_reducible repeat (first | refine bN ?_ _ | refine bW ?_ | refine bA ?_ _)); exact BK258.out⟩, ⟨by repeat (first | (with_reducible first | exact HB.out | apply lA | apply lN | apply lW | refine lS ?_ GE258.out) | exact HB.out)⟩⟩
     ·rw [if_neg c17] at H
      have c17b0 : decide (a2 < 0) = false := decide_eq_false c17
      clear c17
      (first | rw [c17b0] | (simp only [i64_w, i32_w]; rw [c17b0]) | skip)
      have H' := aM H
      clear H
      go_wp2
      go_meet
      case rel => exact ⟨_, (a2), (by first | rfl | (simp; done) | (simp [*]; done)), H', ⟨by have := HJ3.out; first | omega | exact Nat.le_refl _⟩, ⟨by (with_reducible repeat (first | refine bN ?_ _ | refine bW ?_ | refine bA ?_ _)); exact BK258.out⟩, ⟨by repeat (first | (with_reducible first | exact HB.out | apply lA | apply lN | apply lW | refine lS ?_ GE258.out) | exact HB.out)⟩⟩
    case rest =>
     clear HC16
     try clear c1
     try clear p2
     try clear c3
     try clear p6
     try clear c7
     try clear c13
     try clear c15
     try clear c17
     try clear c17b0
     try clear hcz11_0
     try clear hcz11_1
     try clear hcz11_2
     try clear hcz11_3
     try clear hcz11_4
     try clear hcz11_5
     try clear hcz13_0
     try clear hcz13_1
     try clear hcz13_2
     try clear hcz13_3
     try clear hcz13_4
     try clear hcz13_5
     try clear hcz19_0
     try clear hcz19_1
     try clear hcz19_2
     try clear hcz19_3
     try clear hcz19_4
     try clear hcz19_5
     try clear hcz9_0
     try clear hcz9_1
     try clear hcz9_2
     try clear hcz9_3
     try clear hcz9_4
     try clear hcz9_5
     try clear hfz11_0
     try clear hfz11_1
     try clear hfz11_2
     try clear hfz11_3
     try clear hfz11_4
     try clear hfz11_5
     try clear hfz13_0
     try clear hfz13_1
     try clear hfz13_2
     try clear hfz13_3
     try clear hfz13_4
     try clear hfz13_5
     try clear hfz19_0
     try clear hfz19_1
     try clear hfz19_2
     try clear hfz19_3
     try clear hfz19_4
     try clear hfz19_5
     try clear hfz9_0
     try clear hfz9_1
     try clear hfz9_2
     try clear hfz9_3
     try clear hfz9_4
     try clear hfz9_5
     try clear p2
     obtain ⟨kq, x2_15, rfl, HA, HJ15, BK258, HB⟩ := hcut
     cases kq with
     | zero => exact absurd HA.out (by simp [phaetonref15_Put.j1])
     | succ kj15 =>
      have H := HA.out
      clear HA
      simp only [phaetonref15_Put.j1] at H
      obtain ⟨y262, hy262⟩ : ∃ y_ : List Int, y_ = (([] : List Int)) := ⟨_, rfl⟩
      replace H : (if y262.length + l0.length < 140737488355328 then ((phaetonref15_Places.f kj15 a1_0 a1_1 a1_2 a1_3 a1_4 a1_5).bind fun t268 => (phaetonref15_Put.l0 kj15 x2_15 (y262 ++ l0) t268 0)) else (none)) = some (r1, r2) := by first | (rw [hy262]; with_reducible exact H) | (have H2_ := (Option.bind_some _ _).symm.trans H; rw [hy262]; with_reducible exact H2_) | (have H2_ := (Option.bind_some _ _).symm.trans H; with_reducible exact H2_) | with_reducible exact H | (rw [hy262]; exact H) | exact H
      have Ny262 := aM hy262
      clear hy262
      by_cases c20 : y262.length + l0.length < 140737488355328
      ·rw [if_pos c20] at H
       have LMc20 := aM c20
       clear c20
       obtain ⟨y265, hy265⟩ : ∃ y_ : List Int, y_ = (y262 ++ l0) := ⟨_, rfl⟩
       replace H : ((phaetonref15_Places.f kj15 a1_0 a1_1 a1_2 a1_3 a1_4 a1_5).bind fun t268 => (phaetonref15_Put.l0 kj15 x2_15 y265 t268 0)) = some (r1, r2) := by first | (rw [hy265]; with_reducible exact H) | (have H2_ := (Option.bind_some _ _).symm.trans H; rw [hy265]; with_reducible exact H2_) | (have H2_ := (Option.bind_some _ _).symm.trans H; with_reducible exact H2_) | with_reducible exact H | (rw [hy265]; exact H) | exact H
       have Ny265 := aM hy265
       clear hy265
       replace H := Option.bind_eq_some_iff.mp H
       obtain ⟨t268, A210, H⟩ := H
       replace H : (phaetonref15_Put.l0 kj15 x2_15 y265 t268 0) = some (r1, r2) := H
       have A21 := aM A210
       clear A210
       have H' := aM H
       clear H
       try go_wp2
       have n0_ := aM (bW BK258.out)
       have n1_ := aM (lW HB.out)
       clear BK258
       clear HB
       have BK258 := n0_
       have HB := n1_
       clear n0_ n1_
       refine start_ (n := 7) (S := fun w' => w'.cell? ⟨gb258, 0, none⟩ = some (.int .i64 a1_0) ∧ w'.cell? ⟨gb258, 1, none⟩ = some (.int .i64 a1_1) ∧ w'.cell? ⟨gb258, 2, none⟩ = some (.bool a1_2) ∧ w'.cell? ⟨gb258, 3, none⟩ = some (.bool a1_3) ∧ w'.cell? ⟨gb258, 4, none⟩ = some (.int .i64 a1_4) ∧ w'.cell? ⟨gb258, 5, none⟩ = some (.int .i64 a1_5)) (ds := []) #[false, false, false, false, false, false, false] (by kernel_rfl) rfl rfl ⟨(bC BK258.out 0).trans rfl, (bC BK258.out 1).trans rfl, (bC BK258.out 2).trans rfl, (bC BK258.out 3).trans rfl, (bC BK258.out 4).trans rfl, (bC BK258.out 5).trans rfl⟩ (fun hHeld => ?_)
       generalize wc.drew = w22 at BK258 HB hHeld ⊢
       refine pure_ (i := 1) (N := some 31) (v := ?_) (a' := ?_) #[false, true, false, false, false, false, false] rfl rfl (by kernel_rfl) (fun _ _ _ h => h) (Or.inl ⟨by rfl, ?_⟩) ?_ ?_
       rotate_left
       ·intro w'
        go_simp
        with_reducible rfl
       rotate_left
       ·simp only [Act.put, sT, sZ, sS, i64_w, i32_w]
        rfl
       refine take_ (i := 3) (N := some 33) (v := ?_) (a' := ?_) #[false, true, false, true, false, false, false] rfl rfl (by kernel_rfl) (fun _ _ _ h => h) (Or.inl ⟨by rfl, ?_⟩) hHeld ?_ ?_
       rotate_left
       ·rintro w' ⟨s0, s1, s2, s3, s4, s5⟩
        go_simp
        with_reducible rfl
       rotate_left
       ·simp only [Act.put, sT, sZ, sS, i64_w, i32_w]
        rfl
       refine one_ (i := 0) (N := some 30) #[true, true, false, true, false, false, false] rfl rfl (by kernel_rfl) (by decide) (fun K hK => ?_)
       refine Kd.R_lit_step (Kd.int .u8) _ 5 ?hg (N := 30) ?hd (xs := ([] : List Int)) (inner := []) (ok := fun _ => True) (okp := fun _ => True) ?hr ?hp (fun _ hk => hk) trivial (Below.refl _ _) (Nat.le_refl _) (by simp) ?_; (case hd => rfl); (case hg => rfl); (case hr => first | (go_simp; done) | (go_simp; rfl)); (case hp => exact (Reps.none _ _))
       intro v263 w23 ho24 hb hg_ hnew_
       clear hg_ hnew_
       (first | rw [← Ny262.out] at ho24 | (simp only [Int.reduceToNat] at ho24; rw [← Ny262.out] at ho24))
       have n0_ := aM (Kd.R_lower ho24 (lZ (by repeat (first | (with_reducible first | exact HB.out | apply lA | apply lN | apply lW | refine lS ?_ GE258.out) | exact HB.out))))
       have n1_ := aM (blk_below (g := gb258) (o := .cells #[.int .i64 a1_0, .int .i64 a1_1, .bool a1_2, .bool a1_3, .int .i64 a1_4, .int .i64 a1_5] 23 (0, 0)) (by (with_reducible repeat (first | refine bN ?_ _ | refine bW ?_ | refine bA ?_ _)); exact BK258.out) hb)
       have n2_ := aM (lT (by repeat (first | (with_reducible first | exact HB.out | apply lA | apply lN | apply lW | refine lS ?_ GE258.out) | exact HB.out)) hb)
       clear BK258
       clear HB
       have HO264 := n0_
       have BK258 := n1_
       have HB := n2_
       clear n0_ n1_ n2_
       clear hb ho24
       refine hK.out _ _ ⟨(bC BK258.out 0).trans rfl, (bC BK258.out 1).trans rfl, (bC BK258.out 2).trans rfl, (bC BK258.out 3).trans rfl, (bC BK258.out 4).trans rfl, (bC BK258.out 5).trans rfl⟩ (fun hHeld => ?_)
       clear hK K
       refine norm_ (a' := ?_) ?_ ?_
       rotate_left
       ·show Act.put _ (some 30) _ = _
        simp only [Act.put, sT, sZ, sS, i64_w, i32_w]
        rfl
       refine one_ (i := 2) (N := some 32) #[true, true, true, true, false, false, false] rfl rfl (by kernel_rfl) (by decide) (fun K hK => ?_)
       refine Kd.R_append_rows_step (Kd.int .u8) (w0 := w) w.heap.size (by rfl) (.tmp 30) (.tmp 31) 24 5 (.int .u8 0) 1 rfl Try.underlying24 info5 rfl (by decide) (by omega) v263 y262 l0 _ _ _ (fun _ => True) (fun _ => False) rfl rfl ?aO ?aR (fun _ _ h => h) (fun _ h => h.elim) ?aF ?aB ?aS ?aL ?_
       (case aR => repeat (first | exact (Kd.C_below HR0.out HB.out) | (with_reducible refine Kd.C_alloc ?_ _) | (with_reducible refine Kd.C_drewN ?_ _) | (with_reducible refine Kd.C_drew ?_)))
       (case aB => exact (by repeat (first | (with_reducible first | exact HB.out | apply lA | apply lN | apply lW | refine lS ?_ GE258.out) | exact HB.out)))
       (case aF => exact (fun _ _ => trivial))
       (case aO => exact (by (with_reducible repeat (first | apply rA | apply rN | apply rW)); exact HO264.out))
       (case aS => exact (lZ (by repeat (first | (with_reducible first | exact HB.out | apply lA | apply lN | apply lW | refine lS ?_ GE258.out) | exact HB.out))))
       (case aL => have := LMc20.out; omega)
       intro v266 w25 ho hb hg hat
       rw [← Ny265.out] at ho
       have n0_ := aM (blk_grown (g := gb258) (o := .cells #[.int .i64 a1_0, .int .i64 a1_1, .bool a1_2, .bool a1_3, .int .i64 a1_4, .int .i64 a1_5] 23 (0, 0)) (by (with_reducible repeat (first | refine bN ?_ _ | refine bW ?_ | refine bA ?_ _)); exact BK258.out) hg (Kd.R_ne HO264.out BK258.out (by decide)))
       have n1_ := aM (hb)
       have n2_ := aM (ho)
       clear BK258
       clear HB
       clear HO264
       have BK258 := n0_
       have HB := n1_
       have HO267 := n2_
       clear n0_ n1_ n2_
       clear ho hb hg hat
       refine hK.out _ _ ⟨(bC BK258.out 0).trans rfl, (bC BK258.out 1).trans rfl, (bC BK258.out 2).trans rfl, (bC BK258.out 3).trans rfl, (bC BK258.out 4).trans rfl, (bC BK258.out 5).trans rfl⟩ (fun hHeld => ?_)
       clear hK K
       refine norm_ (a' := ?_) ?_ ?_
       rotate_left
       ·show Act.put _ (some 32) _ = _
        simp only [Act.put, sT, sZ, sS, i64_w, i32_w]
        rfl
       refine one_ (i := 4) (N := some 34) #[true, true, true, true, true, false, false] rfl rfl (by kernel_rfl) (by decide) (fun K hK => ?_)
       refine goes_ Try.func20 (by kernel_rfl) rfl #[.agg #[.int .i64 a1_0, .int .i64 a1_1, .bool a1_2, .bool a1_3, .int .i64 a1_4, .int .i64 a1_5]] (by rfl) rfl rfl (by (try simp only [List.map_toArray, List.map_cons, List.map_nil]); first | done | rfl | (simp only [List.length_drop, List.length_take]; rfl)) ?_
       with_reducible refine (phaetonref15_Places.calls kj15 a1_0 a1_1 a1_2 a1_3 a1_4 a1_5 t268 _ A21.out).mono ?_
       rintro e w26 ⟨v269, rfl, ho0, hb⟩
       refine ⟨_, rfl, ?_⟩
       have n0_ := aM (Kd.R_below (by (with_reducible repeat (first | apply rA | apply rN | apply rW)); exact HO267.out) hb)
       have n1_ := aM (Kd.R_lower ho0 (lZ (by repeat (first | (with_reducible first | exact HB.out | apply lA | apply lN | apply lW | refine lS ?_ GE258.out) | exact HB.out))))
       have n2_ := aM (blk_below (g := gb258) (o := .cells #[.int .i64 a1_0, .int .i64 a1_1, .bool a1_2, .bool a1_3, .int .i64 a1_4, .int .i64 a1_5] 23 (0, 0)) (by (with_reducible repeat (first | refine bN ?_ _ | refine bW ?_ | refine bA ?_ _)); exact BK258.out) hb)
       have n3_ := aM (lT (by repeat (first | (with_reducible first | exact HB.out | apply lA | apply lN | apply lW | refine lS ?_ GE258.out) | exact HB.out)) hb)
       clear HO267
       clear BK258
       clear HB
       have HO267 := n0_
       have HO270 := n1_
       have BK258 := n2_
       have HB := n3_
       clear n0_ n1_ n2_ n3_
       (try clear hb)
       (try clear hb2)
       (try clear hk)
       (try clear hi)
       (try clear ho0)
       refine hK.out _ _ ⟨(bC BK258.out 0).trans rfl, (bC BK258.out 1).trans rfl, (bC BK258.out 2).trans rfl, (bC BK258.out 3).trans rfl, (bC BK258.out 4).trans rfl, (bC BK258.out 5).trans rfl⟩ (fun hHeld => ?_)
       clear hK K
       refine norm_ (a' := ?_) ?_ ?_
       rotate_left
       ·show Act.put _ (some 34) _ = _
        simp only [Act.put, sT, sZ, sS, i64_w, i32_w]
        rfl
       refine pure_ (i := 5) (N := some 8) (v := ?_) (a' := ?_) #[true, true, true, true, true, true, false] rfl rfl (by kernel_rfl) (fun _ _ _ h => h) (Or.inl ⟨by rfl, ?_⟩) ?_ ?_
       rotate_left
       ·intro w'
        go_simp
        with_reducible rfl
       rotate_left
       ·simp only [Act.put, sT, sZ, sS, i64_w, i32_w]
        rfl
       refine pure_ (i := 6) (N := some 9) (v := ?_) (a' := ?_) #[true, true, true, true, true, true, true] rfl rfl (by kernel_rfl) (fun _ _ _ h => h) (Or.inl ⟨by rfl, ?_⟩) ?_ ?_
       rotate_left
       ·intro w'
        go_simp
        with_reducible rfl
       rotate_left
       ·simp only [Act.put, sT, sZ, sS, i64_w, i32_w]
        rfl
       refine done_ (by kernel_rfl) ?_
       try go_wp2
       go_loopg [2, 10] kj15 (fun kq v2 v10 w' => ∃ (x2_3 : Int) (x8_3 : List Int) (x10_3 : Int), v2 = .int .i64 x2_3 ∧ v10 = .int .i64 x10_3 ∧ Aside0 (phaetonref15_Put.l0 kq x2_3 x8_3 t268 x10_3 = some (r1, r2)) ∧ Aside0 (kq ≤ kj15) ∧ Aside0 (Kd.R (Kd.int .u8) 5 w' w.heap.size (fun _ => True) v266 x8_3) ∧ Aside0 (Kd.R (Kd.int .i64) 3 w' w.heap.size (fun _ => True) v269 t268) ∧ Aside0 (w'.heap[gb258]? = some (.cells #[.int .i64 a1_0, .int .i64 a1_1, .bool a1_2, .bool a1_3, .int .i64 a1_4, .int .i64 a1_5] 23 (0, 0))) ∧ Aside0 (Below w.heap.size w w'))
       case atStart => exact ⟨(x2_15), (y265), (0), (by first | rfl | (simp; done) | (simp [*]; done)), (by first | rfl | (simp; done) | (simp [*]; done)), H', ⟨Nat.le_refl _⟩, ⟨by (with_reducible repeat (first | apply rA | apply rN | apply rW)); exact HO267.out⟩, ⟨by (with_reducible repeat (first | apply rA | apply rN | apply rW)); exact HO270.out⟩, ⟨by (with_reducible repeat (first | refine bN ?_ _ | refine bW ?_ | refine bA ?_ _)); exact BK258.out⟩, ⟨by repeat (first | (with_reducible first | exact HB.out | apply lA | apply lN | apply lW | refine lS ?_ GE258.out) | exact HB.out)⟩⟩
       case round =>
        clear H'
        try clear c1
        try clear c2
        try clear p2
        try clear c3
        try clear p6
        try clear c7
        try clear c13
        try clear c15
        try clear c17
        try clear c17b0
        try clear c20
        try clear hcz11_0
        try clear hcz11_1
        try clear hcz11_2
        try clear hcz11_3
        try clear hcz11_4
        try clear hcz11_5
        try clear hcz13_0
        try clear hcz13_1
        try clear hcz13_2
        try clear hcz13_3
        try clear hcz13_4
        try clear hcz13_5
        try clear hcz19_0
        try clear hcz19_1
        try clear hcz19_2
        try clear hcz19_3
        try clear hcz19_4
        try clear hcz19_5
        try clear hcz9_0
        try clear hcz9_1
        try clear hcz9_2
        try clear hcz9_3
        try clear hcz9_4
        try clear hcz9_5
        try clear hfz11_0
        try clear hfz11_1
        try clear hfz11_2
        try clear hfz11_3
        try clear hfz11_4
        try clear hfz11_5
        try clear hfz13_0
        try clear hfz13_1
        try clear hfz13_2
        try clear hfz13_3
        try clear hfz13_4
        try clear hfz13_5
        try clear hfz19_0
        try clear hfz19_1
        try clear hfz19_2
        try clear hfz19_3
        try clear hfz19_4
        try clear hfz19_5
        try clear hfz9_0
        try clear hfz9_1
        try clear hfz9_2
        try clear hfz9_3
        try clear hfz9_4
        try clear hfz9_5
        try clear p2
        try clear p6
        obtain ⟨x2_3, x8_3, x10_3, rfl, rfl, HA, HK3, HO_8, HO_9, BK258, HB⟩ := hrel
        cases gk with
        | zero => exact absurd HA.out (by simp [phaetonref15_Put.l0])
        | succ k3 =>
         have H := HA.out
         clear HA
         simp only [phaetonref15_Put.l0] at H
         by_cases c27 : x10_3 < (t268.length : Int)
         ·rw [if_pos c27] at H
          have c27b0 : decide (x10_3 < (t268.length : Int)) = true := decide_eq_true c27
          clear c27
          by_cases c28 : 0 ≤ x10_3
          ·rw [if_pos c28] at H
           have c28b0 : decide (0 ≤ x10_3) = true := decide_eq_true c28
           clear c28
           obtain ⟨ji29, hji29⟩ : ∃ j_ : Int, (wrap64 (Int.tdiv (rd t268 x10_3) 8)) = j_ := ⟨_, rfl⟩
           replace H : (if 0 ≤ (ji29) then (if (ji29) < (x8_3.length : Int) then ((phaetonref15_power.f k3 (Int.tmod (rd t268 x10_3) 8)).bind fun t274 => (if t274 = 0 then (none) else ((phaetonref15_power.f k3 (Int.tmod (rd t268 x10_3) 8)).bind fun t279 => (phaetonref15_Put.l0 k3 (wrap64 (Int.tdiv x2_3 2)) (x8_3.set ((ji29) : Int).toNat ((wrap64 ((wrap64 (rd x8_3 (ji29))) + (wrap64 ((wrap64 ((Int.tmod x2_3 2) - (Int.tmod (wrap64 (Int.tdiv (wrap64 (rd x8_3 (ji29))) t274)) 2))) * t279)))) % 256)) t268 (wrap64 (x10_3 + 1)))))) else (none)) else (none)) = some (r1, r2) := by first | (rw [hji29] at H; exact H) | (simp only [hji29] at H ⊢; exact H)
           have hji29w : (IntKind.i64.wrap (Int.tdiv (rd t268 x10_3) 8)) = ji29 := (i64_w _).trans hji29
           by_cases c30 : 0 ≤ (ji29)
           ·rw [if_pos c30] at H
            have c30b0 : decide (0 ≤ (ji29)) = true := decide_eq_true c30
            clear c30
            by_cases c31 : (ji29) < (x8_3.length : Int)
            ·rw [if_pos c31] at H
             have c31b0 : decide ((ji29) < (x8_3.length : Int)) = true := decide_eq_true c31
             clear c31
             replace H := Option.bind_eq_some_iff.mp H
             obtain ⟨t274, A320, H⟩ := H
             replace H : (if t274 = 0 then (none) else ((phaetonref15_power.f k3 (Int.tmod (rd t268 x10_3) 8)).bind fun t279 => (phaetonref15_Put.l0 k3 (wrap64 (Int.tdiv x2_3 2)) (x8_3.set ((ji29) : Int).toNat ((wrap64 ((wrap64 (rd x8_3 (ji29))) + (wrap64 ((wrap64 ((Int.tmod x2_3 2) - (Int.tmod (wrap64 (Int.tdiv (wrap64 (rd x8_3 (ji29))) t274)) 2))) * t279)))) % 256)) t268 (wrap64 (x10_3 + 1))))) = some (r1, r2) := H
             have A32 := aM A320
             clear A320
             by_cases c33 : t274 = 0
             ·rw [if_pos c33] at H
              exact absurd H (by simp)
             ·rw [if_neg c33] at H
              have c33b0 : (t274 == 0) = false := nF c33
              have c33b1 : (t274 != 0) = true := nT c33
              replace H := Option.bind_eq_some_iff.mp H
              obtain ⟨t279, A340, H⟩ := H
              replace H : (phaetonref15_Put.l0 k3 (wrap64 (Int.tdiv x2_3 2)) (x8_3.set ((ji29) : Int).toNat ((wrap64 ((wrap64 (rd x8_3 (ji29))) + (wrap64 ((wrap64 ((Int.tmod x2_3 2) - (Int.tmod (wrap64 (Int.tdiv (wrap64 (rd x8_3 (ji29))) t274)) 2))) * t279)))) % 256)) t268 (wrap64 (x10_3 + 1))) = some (r1, r2) := H
              have A34 := aM A340
              clear A340
              obtain ⟨y280, hy280⟩ : ∃ y_ : List Int, y_ = (x8_3.set ((ji29) : Int).toNat ((wrap64 ((wrap64 (rd x8_3 (ji29))) + (wrap64 ((wrap64 ((Int.tmod x2_3 2) - (Int.tmod (wrap64 (Int.tdiv (wrap64 (rd x8_3 (ji29))) t274)) 2))) * t279)))) % 256)) := ⟨_, rfl⟩
              replace H : (phaetonref15_Put.l0 k3 (wrap64 (Int.tdiv x2_3 2)) y280 t268 (wrap64 (x10_3 + 1))) = some (r1, r2) := by first | (rw [hy280]; with_reducible exact H) | (have H2_ := (Option.bind_some _ _).symm.trans H; rw [hy280]; with_reducible exact H2_) | (have H2_ := (Option.bind_some _ _).symm.trans H; with_reducible exact H2_) | with_reducible exact H | (rw [hy280]; exact H) | exact H
              have Ny280 := aM hy280
              clear hy280
              have H' := aM H
              clear H
              obtain ⟨Ao36, co36, eo36⟩ := Kd.R_slice HO_9.out
              subst eo36
              try go_wp2
              have n0_ := aM (rW HO_8.out)
              have n1_ := aM (rW HO_9.out)
              have n2_ := aM (bW BK258.out)
              have n3_ := aM (lW HB.out)
              clear HO_8
              clear HO_9
              clear BK258
              clear HB
              have HO_8 := n0_
              have HO_9 := n1_
              have BK258 := n2_
              have HB := n3_
              clear n0_ n1_ n2_ n3_
              have p271 : 0 ≤ (x10_3 : Int) := oD (by first | (with_reducible assumption) | assumption)
              have q271 : x10_3 < (t268.length : Int) := oD (by first | (with_reducible assumption) | assumption)
              obtain ⟨ad271, e271, hx271_0⟩ := Kd.at_int (Kd.R_reads' HO_9.out).2.2 x10_3 p271 q271
              cases e271
              replace p271 := eq_true p271
              replace q271 := eq_true q271
              obtain ⟨Ao38, co38, eo38⟩ := Kd.R_slice HO_8.out
              (first | subst eo38 | (injection eo38 with f1_ f2_ f3_; have f4_ := f1_.symm; have f5_ := f3_.symm; clear f1_ f2_ f3_; subst f4_; subst f5_))
              have p272 : 0 ≤ ((ji29) : Int) := oD (by first | (with_reducible assumption) | assumption)
              have q272 : (ji29) < (x8_3.length : Int) := oD (by first | (with_reducible assumption) | assumption)
              obtain ⟨ad272, e272, hx272_0⟩ := Kd.at_int (Kd.R_reads' HO_8.out).2.2 (ji29) p272 q272
              cases e272
              replace p272 := eq_true p272
              replace q272 := eq_true q272
              have p273 : 0 ≤ (x10_3 : Int) := oD (by first | (with_reducible assumption) | assumption)
              have q273 : x10_3 < (t268.length : Int) := oD (by first | (with_reducible assumption) | assumption)
              obtain ⟨ad273, e273, hx273_0⟩ := Kd.at_int (Kd.R_reads' HO_9.out).2.2 x10_3 p273 q273
              obtain rfl : ad271 = ad273 := (by injection e273)
              replace p273 := eq_true p273
              replace q273 := eq_true q273
              refine start_ (n := 18) (S := fun w' => w'.cell? (ad271.add (x10_3).toNat) = some (.int .i64 (rd t268 x10_3)) ∧ w'.cell? (ad272.add ((ji29)).toNat) = some (.int .u8 (rd x8_3 (ji29))) ∧ w'.cell? (ad271.add (x10_3).toNat) = some (.int .i64 (rd t268 x10_3))) (ds := []) #[false, false, false, false, false, false, false, false, false, false, false, false, false, false, false, false, false, false] (by kernel_rfl) rfl rfl ⟨hx271_0, hx272_0, hx273_0⟩ (fun hHeld => ?_); refine with_tabW phaetonref15_Put.tab9 phaetonref15_Put.bits9 (fun HT_ HW_ => ?_)
              generalize wr.drew = w37 at HO_8 HO_9 BK258 HB hx271_0 hx272_0 hx273_0 hHeld ⊢
              refine pure_ (i := 0) (N := some 41) (v := ?_) (a' := ?_) #[true, false, false, false, false, false, false, false, false, false, false, false, false, false, false, false, false, false] rfl rfl (any_of HT_.out (by kernel_rfl)) (fun _ _ _ h => h) (Or.inl ⟨by rfl, ?_⟩) ?_ ?_
              rotate_left
              ·intro w'
               go_simp
               with_reducible rfl
              rotate_left
              ·simp only [Act.put, sT, sZ, sS, i64_w, i32_w]
               rfl
              refine pure_ (i := 1) (N := some 42) (v := ?_) (a' := ?_) #[true, true, false, false, false, false, false, false, false, false, false, false, false, false, false, false, false, false] rfl rfl (any_of HT_.out (by kernel_rfl)) (fun _ _ _ h => h) (Or.inl ⟨by rfl, ?_⟩) ?_ ?_
              rotate_left
              ·intro w'
               go_simp
               with_reducible rfl
              rotate_left
              ·simp only [Act.put, sT, sZ, sS, i64_w, i32_w]
               rfl
              refine pure_ (i := 2) (N := some 43) (v := ?_) (a' := ?_) #[true, true, true, false, false, false, false, false, false, false, false, false, false, false, false, false, false, false] rfl rfl (any_of HT_.out (by kernel_rfl)) (fun _ _ _ h => h) (Or.inl ⟨by rfl, ?_⟩) ?_ ?_
              rotate_left
              ·intro w'
               go_simp
               with_reducible rfl
              rotate_left
              ·simp only [Act.put, sT, sZ, sS, i64_w, i32_w]
               rfl
              refine pure_ (i := 3) (N := some 44) (v := ?_) (a' := ?_) #[true, true, true, true, false, false, false, false, false, false, false, false, false, false, false, false, false, false] rfl rfl (any_of HT_.out (by kernel_rfl)) (fun _ _ _ h => h) (Or.inl ⟨by rfl, ?_⟩) ?_ ?_
              rotate_left
              ·intro w'
               go_simp
               with_reducible rfl
              rotate_left
              ·simp only [Act.put, sT, sZ, sS, i64_w, i32_w]
               rfl
              refine pure_ (i := 9) (N := some 50) (v := ?_) (a' := ?_) #[true, true, true, true, false, false, false, false, false, true, false, false, false, false, false, false, false, false] rfl rfl (any_of HT_.out (by kernel_rfl)) (fun _ _ _ h => h) (Or.inl ⟨by rfl, ?_⟩) ?_ ?_
              rotate_left
              ·intro w'
               go_simp
               with_reducible rfl
              rotate_left
              ·simp only [Act.put, sT, sZ, sS, i64_w, i32_w]
               rfl
              refine pure_ (i := 10) (N := some 51) (v := ?_) (a' := ?_) #[true, true, true, true, false, false, false, false, false, true, true, false, false, false, false, false, false, false] rfl rfl (any_of HT_.out (by kernel_rfl)) (fun _ _ _ h => h) (Or.inl ⟨by rfl, ?_⟩) ?_ ?_
              rotate_left
              ·intro w'
               go_simp
               with_reducible rfl
              rotate_left
              ·simp only [Act.put, sT, sZ, sS, i64_w, i32_w]
               rfl
              refine pure_ (i := 11) (N := some 52) (v := ?_) (a' := ?_) #[true, true, true, true, false, false, false, false, false, true, true, true, false, false, false, false, false, false] rfl rfl (any_of HT_.out (by kernel_rfl)) (fun _ _ _ h => h) (Or.inl ⟨by rfl, ?_⟩) ?_ ?_
              rotate_left
              ·intro w'
               go_simp
               with_reducible rfl
              rotate_left
              ·simp only [Act.put, sT, sZ, sS, i64_w, i32_w]
               rfl
              refine take_ (i := 4) (N := some 45) (v := ?_) (a' := ?_) #[true, true, true, true, true, false, false, false, false, true, true, true, false, false, false, false, false, false] rfl rfl (take_ofW HT_.out HW_.out (by kernel_rfl)) (fun _ _ _ h => h) (Or.inl ⟨by rfl, ?_⟩) hHeld ?_ ?_
              rotate_left
              ·rintro w' ⟨s0, s1, s2⟩
               go_simp
               with_reducible rfl
              rotate_left
              ·simp only [Act.put, sT, sZ, sS, i64_w, i32_w]
               rfl
              refine pure_ (i := 5) (N := some 46) (v := ?_) (a' := ?_) #[true, true, true, true, true, true, false, false, false, true, true, true, false, false, false, false, false, false] rfl rfl (any_of HT_.out (by kernel_rfl)) (fun _ _ _ h => h) (Or.inl ⟨by rfl, ?_⟩) ?_ ?_
              rotate_left
              ·intro w'
               go_simp
               with_reducible rfl
              rotate_left
              ·simp only [Act.put, sT, sZ, sS, i64_w, i32_w]
               rfl
              refine pure_ (i := 6) (N := some 47) (v := ?_) (a' := ?_) #[true, true, true, true, true, true, true, false, false, true, true, true, false, false, false, false, false, false] rfl rfl (any_of HT_.out (by kernel_rfl)) (fun _ _ _ h => h) (Or.inl ⟨by rfl, ?_⟩) ?_ ?_
              rotate_left
              ·intro w'
               go_simp
               with_reducible rfl
              rotate_left
              ·simp only [Act.put, sT, sZ, sS, i64_w, i32_w]
               rfl
              refine take_ (i := 7) (N := some 48) (v := ?_) (a' := ?_) #[true, true, true, true, true, true, true, true, false, true, true, true, false, false, false, false, false, false] rfl rfl (take_ofW HT_.out HW_.out (by kernel_rfl)) (fun _ _ _ h => h) (Or.inl ⟨by rfl, ?_⟩) hHeld ?_ ?_
              rotate_left
              ·rintro w' ⟨s0, s1, s2⟩
               go_simp
               with_reducible rfl
              rotate_left
              ·simp only [Act.put, sT, sZ, sS, i64_w, i32_w]
               rfl
              refine pure_ (i := 8) (N := some 49) (v := ?_) (a' := ?_) #[true, true, true, true, true, true, true, true, true, true, true, true, false, false, false, false, false, false] rfl rfl (any_of HT_.out (by kernel_rfl)) (fun _ _ _ h => h) (Or.inl ⟨by rfl, ?_⟩) ?_ ?_
              rotate_left
              ·intro w'
               go_simp
               with_reducible rfl
              rotate_left
              ·simp only [Act.put, sT, sZ, sS, i64_w, i32_w]
               rfl
              refine take_ (i := 12) (N := some 53) (v := ?_) (a' := ?_) #[true, true, true, true, true, true, true, true, true, true, true, true, true, false, false, false, false, false] rfl rfl (take_ofW HT_.out HW_.out (by kernel_rfl)) (fun _ _ _ h => h) (Or.inl ⟨by rfl, ?_⟩) hHeld ?_ ?_
              rotate_left
              ·rintro w' ⟨s0, s1, s2⟩
               go_simp
               with_reducible rfl
              rotate_left
              ·simp only [Act.put, sT, sZ, sS, i64_w, i32_w]
               rfl
              refine pure_ (i := 13) (N := some 54) (v := ?_) (a' := ?_) #[true, true, true, true, true, true, true, true, true, true, true, true, true, true, false, false, false, false] rfl rfl (any_of HT_.out (by kernel_rfl)) (fun _ _ _ h => h) (Or.inl ⟨by rfl, ?_⟩) ?_ ?_
              rotate_left
              ·intro w'
               go_simp
               with_reducible rfl
              rotate_left
              ·simp only [Act.put, sT, sZ, sS, i64_w, i32_w]
               rfl
              refine one_ (i := 14) (N := some 55) #[true, true, true, true, true, true, true, true, true, true, true, true, true, true, true, false, false, false] rfl rfl (one_of HT_.out (by kernel_rfl)) (by decide) (fun K hK => ?_)
              refine goes_ Try.func30 (by kernel_rfl) rfl #[.int .i64 (Int.tmod (rd t268 x10_3) 8)] (by rfl) rfl rfl (by (try simp only [List.map_toArray, List.map_cons, List.map_nil]); first | done | rfl | (simp only [List.length_drop, List.length_take]; rfl)) ?_
              with_reducible refine (phaetonref15_power.calls k3 (Int.tmod (rd t268 x10_3) 8) t274 _ A32.out).mono ?_
              rintro e w' ⟨rfl, ⟨nd, rfl⟩⟩
              refine ⟨_, rfl, ?_⟩
              refine hK.out _ _ ⟨hHeld.1, hHeld.2.1, hHeld.2.2⟩ (fun hHeld => ?_)
              clear hK K
              refine norm_ (a' := ?_) ?_ ?_
              rotate_left
              ·show Act.put _ (some 55) _ = _
               simp only [Act.put, sT, sZ, sS, i64_w, i32_w]
               rfl
              refine pure_ (i := 15) (N := some 56) (v := ?_) (a' := ?_) #[true, true, true, true, true, true, true, true, true, true, true, true, true, true, true, true, false, false] rfl rfl (any_of HT_.out (by kernel_rfl)) (fun _ _ _ h => h) (Or.inl ⟨by rfl, ?_⟩) ?_ ?_
              rotate_left
              ·intro w'
               go_simp
               with_reducible rfl
              rotate_left
              ·simp only [Act.put, sT, sZ, sS, i64_w, i32_w]
               rfl
              refine pure_ (i := 16) (N := some 57) (v := ?_) (a' := ?_) #[true, true, true, true, true, true, true, true, true, true, true, true, true, true, true, true, true, false] rfl rfl (any_of HT_.out (by kernel_rfl)) (fun _ _ _ h => h) (Or.inl ⟨by rfl, ?_⟩) ?_ ?_
              rotate_left
              ·intro w'
               go_simp
               with_reducible rfl
              rotate_left
              ·simp only [Act.put, sT, sZ, sS, i64_w, i32_w]
               rfl
              refine pure_ (i := 17) (N := some 11) (v := ?_) (a' := ?_) #[true, true, true, true, true, true, true, true, true, true, true, true, true, true, true, true, true, true] rfl rfl (any_of HT_.out (by kernel_rfl)) (fun _ _ _ h => h) (Or.inl ⟨by rfl, ?_⟩) ?_ ?_
              rotate_left
              ·intro w'
               go_simp
               with_reducible rfl
              rotate_left
              ·simp only [Act.put, sT, sZ, sS, i64_w, i32_w]
               rfl
              refine done_ (done_of HT_.out (by kernel_rfl)) ?_
              try go_wp2
              (try (rw [drewN_self w37]; generalize hq_ : World.drewN w37 _ = w37; have n0_ : Aside0 (Kd.R (Kd.int .u8) 5 w37 w.heap.size (fun _ => True) (.slice (some ad272) x8_3.length co38) x8_3) := ⟨by rw [← hq_]; exact (by (with_reducible repeat (first | apply rA | apply rN | apply rW)); exact HO_8.out)⟩; have n1_ : Aside0 (Kd.R (Kd.int .i64) 3 w37 w.heap.size (fun _ => True) (.slice (some ad271) t268.length co36) t268) := ⟨by rw [← hq_]; exact (by (with_reducible repeat (first | apply rA | apply rN | apply rW)); exact HO_9.out)⟩; have n2_ : Aside0 (w37.heap[gb258]? = some (.cells #[.int .i64 a1_0, .int .i64 a1_1, .bool a1_2, .bool a1_3, .int .i64 a1_4, .int .i64 a1_5] 23 (0, 0))) := ⟨by rw [← hq_]; exact (by (with_reducible repeat (first | refine bN ?_ _ | refine bW ?_ | refine bA ?_ _)); exact BK258.out)⟩; have n3_ : Aside0 (Below w.heap.size w w37) := ⟨by rw [← hq_]; exact (by repeat (first | (with_reducible first | exact HB.out | apply lA | apply lN | apply lW | refine lS ?_ GE258.out) | exact HB.out))⟩; clear HO_8 HO_9 BK258 HB hq_; have HO_8 := n0_; have HO_9 := n1_; have BK258 := n2_; have HB := n3_; clear n0_ n1_ n2_ n3_))
              have n0_ := aM (rW HO_8.out)
              have n1_ := aM (rW HO_9.out)
              have n2_ := aM (bW BK258.out)
              have n3_ := aM (lW HB.out)
              clear HO_8
              clear HO_9
              clear BK258
              clear HB
              have HO_8 := n0_
              have HO_9 := n1_
              have BK258 := n2_
              have HB := n3_
              clear n0_ n1_ n2_ n3_
              have p275 : 0 ≤ (x10_3 : Int) := oD (by first | (with_reducible assumption) | assumption)
              have q275 : x10_3 < (t268.length : Int) := oD (by first | (with_reducible assumption) | assumption)
              obtain ⟨ad275, e275, hx275_0⟩ := Kd.at_int (Kd.R_reads' HO_9.out).2.2 x10_3 p275 q275
              obtain rfl : ad271 = ad275 := (by injection e275)
              replace p275 := eq_true p275
              replace q275 := eq_true q275
              have p276 : 0 ≤ (x10_3 : Int) := oD (by first | (with_reducible assumption) | assumption)
              have q276 : x10_3 < (t268.length : Int) := oD (by first | (with_reducible assumption) | assumption)
              obtain ⟨ad276, e276, hx276_0⟩ := Kd.at_int (Kd.R_reads' HO_9.out).2.2 x10_3 p276 q276
              obtain rfl : ad271 = ad276 := (by injection e276)
              replace p276 := eq_true p276
              replace q276 := eq_true q276
              have p277 : 0 ≤ ((ji29) : Int) := oD (by first | (with_reducible assumption) | assumption)
              have q277 : (ji29) < (x8_3.length : Int) := oD (by first | (with_reducible assumption) | assumption)
              obtain ⟨ad277, e277, hx277_0⟩ := Kd.at_int (Kd.R_reads' HO_8.out).2.2 (ji29) p277 q277
              obtain rfl : ad272 = ad277 := (by injection e277)
              replace p277 := eq_true p277
              replace q277 := eq_true q277
              have p278 : 0 ≤ (x10_3 : Int) := oD (by first | (with_reducible assumption) | assumption)
              have q278 : x10_3 < (t268.length : Int) := oD (by first | (with_reducible assumption) | assumption)
              obtain ⟨ad278, e278, hx278_0⟩ := Kd.at_int (Kd.R_reads' HO_9.out).2.2 x10_3 p278 q278
              obtain rfl : ad271 = ad278 := (by injection e278)
              replace p278 := eq_true p278
              replace q278 := eq_true q278
              refine start_ (n := 30) (S := fun w' => w'.cell? (ad271.add (x10_3).toNat) = some (.int .i64 (rd t268 x10_3)) ∧ w'.cell? (ad271.add (x10_3).toNat) = some (.int .i64 (rd t268 x10_3)) ∧ w'.cell? (ad272.add ((ji29)).toNat) = some (.int .u8 (rd x8_3 (ji29))) ∧ w'.cell? (ad271.add (x10_3).toNat) = some (.int .i64 (rd t268 x10_3))) (ds := [29]) #[false, false, false, false, false, false, false, false, false, false, false, false, false, false, false, false, false, false, false, false, false, false, false, false, false, false, false, false, false, false] (by kernel_rfl) rfl rfl ⟨hx275_0, hx276_0, hx277_0, hx278_0⟩ (fun hHeld => ?_); refine with_tabW phaetonref15_Put.tab10 phaetonref15_Put.bits10 (fun HT_ HW_ => ?_)
              generalize w37.drew = w39 at HO_8 HO_9 BK258 HB hx275_0 hx276_0 hx277_0 hx278_0 hHeld ⊢
              refine pure_ (i := 0) (N := some 58) (v := ?_) (a' := ?_) #[true, false, false, false, false, false, false, false, false, false, false, false, false, false, false, false, false, false, false, false, false, false, false, false, false, false, false, false, false, false] rfl rfl (any_of HT_.out (by kernel_rfl)) (fun _ _ _ h => h) (Or.inl ⟨by rfl, ?_⟩) ?_ ?_
              rotate_left
              ·intro w'
               go_simp
               with_reducible rfl
              rotate_left
              ·simp only [Act.put, sT, sZ, sS, i64_w, i32_w]
               rfl
              refine pure_ (i := 1) (N := some 59) (v := ?_) (a' := ?_) #[true, true, false, false, false, false, false, false, false, false, false, false, false, false, false, false, false, false, false, false, false, false, false, false, false, false, false, false, false, false] rfl rfl (any_of HT_.out (by kernel_rfl)) (fun _ _ _ h => h) (Or.inl ⟨by rfl, ?_⟩) ?_ ?_
              rotate_left
              ·intro w'
               go_simp
               with_reducible rfl
              rotate_left
              ·simp only [Act.put, sT, sZ, sS, i64_w, i32_w]
               rfl
              refine pure_ (i := 2) (N := some 60) (v := ?_) (a' := ?_) #[true, true, true, false, false, false, false, false, false, false, false, false, false, false, false, false, false, false, false, false, false, false, false, false, false, false, false, false, false, false] rfl rfl (any_of HT_.out (by kernel_rfl)) (fun _ _ _ h => h) (Or.inl ⟨by rfl, ?_⟩) ?_ ?_
              rotate_left
              ·intro w'
               go_simp
               with_reducible rfl
              rotate_left
              ·simp only [Act.put, sT, sZ, sS, i64_w, i32_w]
               rfl
              refine pure_ (i := 3) (N := some 61) (v := ?_) (a' := ?_) #[true, true, true, true, false, false, false, false, false, false, false, false, false, false, false, false, false, false, false, false, false, false, false, false, false, false, false, false, false, false] rfl rfl (any_of HT_.out (by kernel_rfl)) (fun _ _ _ h => h) (Or.inl ⟨by rfl, ?_⟩) ?_ ?_
              rotate_left
              ·intro w'
               go_simp
               with_reducible rfl
              rotate_left
              ·simp only [Act.put, sT, sZ, sS, i64_w, i32_w]
               rfl
              refine pure_ (i := 6) (N := some 64) (v := ?_) (a' := ?_) #[true, true, true, true, false, false, true, false, false, false, false, false, false, false, false, false, false, false, false, false, false, false, false, false, false, false, false, false, false, false] rfl rfl (any_of HT_.out (by kernel_rfl)) (fun _ _ _ h => h) (Or.inl ⟨by rfl, ?_⟩) ?_ ?_
              rotate_left
              ·intro w'
               go_simp
               with_reducible rfl
              rotate_left
              ·simp only [Act.put, sT, sZ, sS, i64_w, i32_w]
               rfl
              refine pure_ (i := 7) (N := some 65) (v := ?_) (a' := ?_) #[true, true, true, true, false, false, true, true, false, false, false, false, false, false, false, false, false, false, false, false, false, false, false, false, false, false, false, false, false, false] rfl rfl (any_of HT_.out (by kernel_rfl)) (fun _ _ _ h => h) (Or.inl ⟨by rfl, ?_⟩) ?_ ?_
              rotate_left
              ·intro w'
               go_simp
               with_reducible rfl
              rotate_left
              ·simp only [Act.put, sT, sZ, sS, i64_w, i32_w]
               rfl
              refine pure_ (i := 8) (N := some 66) (v := ?_) (a' := ?_) #[true, true, true, true, false, false, true, true, true, false, false, false, false, false, false, false, false, false, false, false, false, false, false, false, false, false, false, false, false, false] rfl rfl (any_of HT_.out (by kernel_rfl)) (fun _ _ _ h => h) (Or.inl ⟨by rfl, ?_⟩) ?_ ?_
              rotate_left
              ·intro w'
               go_simp
               with_reducible rfl
              rotate_left
              ·simp only [Act.put, sT, sZ, sS, i64_w, i32_w]
               rfl
              refine pure_ (i := 9) (N := some 67) (v := ?_) (a' := ?_) #[true, true, true, true, false, false, true, true, true, true, false, false, false, false, false, false, false, false, false, false, false, false, false, false, false, false, false, false, false, false] rfl rfl (any_of HT_.out (by kernel_rfl)) (fun _ _ _ h => h) (Or.inl ⟨by rfl, ?_⟩) ?_ ?_
              rotate_left
              ·intro w'
               go_simp
               with_reducible rfl
              rotate_left
              ·simp only [Act.put, sT, sZ, sS, i64_w, i32_w]
               rfl
              refine pure_ (i := 15) (N := some 73) (v := ?_) (a' := ?_) #[true, true, true, true, false, false, true, true, true, true, false, false, false, false, false, true, false, false, false, false, false, false, false, false, false, false, false, false, false, false] rfl rfl (any_of HT_.out (by kernel_rfl)) (fun _ _ _ h => h) (Or.inl ⟨by rfl, ?_⟩) ?_ ?_
              rotate_left
              ·intro w'
               go_simp
               with_reducible rfl
              rotate_left
              ·simp only [Act.put, sT, sZ, sS, i64_w, i32_w]
               rfl
              refine pure_ (i := 16) (N := some 74) (v := ?_) (a' := ?_) #[true, true, true, true, false, false, true, true, true, true, false, false, false, false, false, true, true, false, false, false, false, false, false, false, false, false, false, false, false, false] rfl rfl (any_of HT_.out (by kernel_rfl)) (fun _ _ _ h => h) (Or.inl ⟨by rfl, ?_⟩) ?_ ?_
              rotate_left
              ·intro w'
               go_simp
               with_reducible rfl
              rotate_left
              ·simp only [Act.put, sT, sZ, sS, i64_w, i32_w]
               rfl
              refine pure_ (i := 17) (N := some 75) (v := ?_) (a' := ?_) #[true, true, true, true, false, false, true, true, true, true, false, false, false, false, false, true, true, true, false, false, false, false, false, false, false, false, false, false, false, false] rfl rfl (any_of HT_.out (by kernel_rfl)) (fun _ _ _ h => h) (Or.inl ⟨by rfl, ?_⟩) ?_ ?_
              rotate_left
              ·intro w'
               go_simp
               with_reducible rfl
              rotate_left
              ·simp only [Act.put, sT, sZ, sS, i64_w, i32_w]
               rfl
              refine pure_ (i := 18) (N := some 76) (v := ?_) (a' := ?_) #[true, true, true, true, false, false, true, true, true, true, false, false, false, false, false, true, true, true, true, false, false, false, false, false, false, false, false, false, false, false] rfl rfl (any_of HT_.out (by kernel_rfl)) (fun _ _ _ h => h) (Or.inl ⟨by rfl, ?_⟩) ?_ ?_
              rotate_left
              ·intro w'
               go_simp
               with_reducible rfl
              rotate_left
              ·simp only [Act.put, sT, sZ, sS, i64_w, i32_w]
               rfl
              refine pure_ (i := 19) (N := some 77) (v := ?_) (a' := ?_) #[true, true, true, true, false, false, true, true, true, true, false, false, false, false, false, true, true, true, true, true, false, false, false, false, false, false, false, false, false, false] rfl rfl (any_of HT_.out (by kernel_rfl)) (fun _ _ _ h => h) (Or.inl ⟨by rfl, ?_⟩) ?_ ?_
              rotate_left
              ·intro w'
               go_simp
               with_reducible rfl
              rotate_left
              ·simp only [Act.put, sT, sZ, sS, i64_w, i32_w]
               rfl
              refine pure_ (i := 20) (N := some 78) (v := ?_) (a' := ?_) #[true, true, true, true, false, false, true, true, true, true, false, false, false, false, false, true, true, true, true, true, true, false, false, false, false, false, false, false, false, false] rfl rfl (any_of HT_.out (by kernel_rfl)) (fun _ _ _ h => h) (Or.inl ⟨by rfl, ?_⟩) ?_ ?_
              rotate_left
              ·intro w'
               go_simp
               with_reducible rfl
              rotate_left
              ·simp only [Act.put, sT, sZ, sS, i64_w, i32_w]
               rfl
              refine pure_ (i := 21) (N := some 79) (v := ?_) (a' := ?_) #[true, true, true, true, false, false, true, true, true, true, false, false, false, false, false, true, true, true, true, true, true, true, false, false, false, false, false, false, false, false] rfl rfl (any_of HT_.out (by kernel_rfl)) (fun _ _ _ h => h) (Or.inl ⟨by rfl, ?_⟩) ?_ ?_
              rotate_left
              ·intro w'
               go_simp
               with_reducible rfl
              rotate_left
              ·simp only [Act.put, sT, sZ, sS, i64_w, i32_w]
               rfl
              refine take_ (i := 4) (N := some 62) (v := ?_) (a' := ?_) #[true, true, true, true, true, false, true, true, true, true, false, false, false, false, false, true, true, true, true, true, true, true, false, false, false, false, false, false, false, false] rfl rfl (take_ofW HT_.out HW_.out (by kernel_rfl)) (fun _ _ _ h => h) (Or.inl ⟨by rfl, ?_⟩) hHeld ?_ ?_
              rotate_left
              ·rintro w' ⟨s0, s1, s2, s3⟩
               go_simp
               with_reducible rfl
              rotate_left
              ·simp only [Act.put, sT, sZ, sS, i64_w, i32_w]
               rfl
              refine pure_ (i := 5) (N := some 63) (v := ?_) (a' := ?_) #[true, true, true, true, true, true, true, true, true, true, false, false, false, false, false, true, true, true, true, true, true, true, false, false, false, false, false, false, false, false] rfl rfl (any_of HT_.out (by kernel_rfl)) (fun _ _ _ h => h) (Or.inl ⟨by rfl, ?_⟩) ?_ ?_
              rotate_left
              ·intro w'
               go_simp
               with_reducible rfl
              rotate_left
              ·simp only [Act.put, sT, sZ, sS, i64_w, i32_w]
               rfl
              refine take_ (i := 10) (N := some 68) (v := ?_) (a' := ?_) #[true, true, true, true, true, true, true, true, true, true, true, false, false, false, false, true, true, true, true, true, true, true, false, false, false, false, false, false, false, false] rfl rfl (take_ofW HT_.out HW_.out (by kernel_rfl)) (fun _ _ _ h => h) (Or.inl ⟨by rfl, ?_⟩) hHeld ?_ ?_
              rotate_left
              ·rintro w' ⟨s0, s1, s2, s3⟩
               go_simp
               with_reducible rfl
              rotate_left
              ·simp only [Act.put, sT, sZ, sS, i64_w, i32_w]
               rfl
              refine pure_ (i := 11) (N := some 69) (v := ?_) (a' := ?_) #[true, true, true, true, true, true, true, true, true, true, true, true, false, false, false, true, true, true, true, true, true, true, false, false, false, false, false, false, false, false] rfl rfl (any_of HT_.out (by kernel_rfl)) (fun _ _ _ h => h) (Or.inl ⟨by rfl, ?_⟩) ?_ ?_
              rotate_left
              ·intro w'
               go_simp
               with_reducible rfl
              rotate_left
              ·simp only [Act.put, sT, sZ, sS, i64_w, i32_w]
               rfl
              refine pure_ (i := 12) (N := some 70) (v := ?_) (a' := ?_) #[true, true, true, true, true, true, true, true, true, true, true, true, true, false, false, true, true, true, true, true, true, true, false, false, false, false, false, false, false, false] rfl rfl (any_of HT_.out (by kernel_rfl)) (fun _ _ _ h => h) (Or.inl ⟨by rfl, ?_⟩) ?_ ?_
              rotate_left
              ·intro w'
               go_simp
               with_reducible rfl
              rotate_left
              ·simp only [Act.put, sT, sZ, sS, i64_w, i32_w]
               rfl
              refine take_ (i := 13) (N := some 71) (v := ?_) (a' := ?_) #[true, true, true, true, true, true, true, true, true, true, true, true, true, true, false, true, true, true, true, true, true, true, false, false, false, false, false, false, false, false] rfl rfl (take_ofW HT_.out HW_.out (by kernel_rfl)) (fun _ _ _ h => h) (Or.inl ⟨by rfl, ?_⟩) hHeld ?_ ?_
              rotate_left
              ·rintro w' ⟨s0, s1, s2, s3⟩
               go_simp
               with_reducible rfl
              rotate_left
              ·simp only [Act.put, sT, sZ, sS, i64_w, i32_w]
               rfl
              refine pure_ (i := 14) (N := some 72) (v := ?_) (a' := ?_) #[true, true, true, true, true, true, true, true, true, true, true, true, true, true, true, true, true, true, true, true, true, true, false, false, false, false, false, false, false, false] rfl rfl (any_of HT_.out (by kernel_rfl)) (fun _ _ _ h => h) (Or.inl ⟨by rfl, ?_⟩) ?_ ?_
              rotate_left
              ·intro w'
               go_simp
               with_reducible rfl
              rotate_left
              ·simp only [Act.put, sT, sZ, sS, i64_w, i32_w]
               rfl
              refine take_ (i := 22) (N := some 80) (v := ?_) (a' := ?_) #[true, true, true, true, true, true, true, true, true, true, true, true, true, true, true, true, true, true, true, true, true, true, true, false, false, false, false, false, false, false] rfl rfl (take_ofW HT_.out HW_.out (by kernel_rfl)) (fun _ _ _ h => h) (Or.inl ⟨by rfl, ?_⟩) hHeld ?_ ?_
              rotate_left
              ·rintro w' ⟨s0, s1, s2, s3⟩
               go_simp
               with_reducible rfl
              rotate_left
              ·simp only [Act.put, sT, sZ, sS, i64_w, i32_w]
               rfl
              refine pure_ (i := 23) (N := some 81) (v := ?_) (a' := ?_) #[true, true, true, true, true, true, true, true, true, true, true, true, true, true, true, true, true, true, true, true, true, true, true, true, false, false, false, false, false, false] rfl rfl (any_of HT_.out (by kernel_rfl)) (fun _ _ _ h => h) (Or.inl ⟨by rfl, ?_⟩) ?_ ?_
              rotate_left
              ·intro w'
               go_simp
               with_reducible rfl
              rotate_left
              ·simp only [Act.put, sT, sZ, sS, i64_w, i32_w]
               rfl
              refine one_ (i := 24) (N := some 82) #[true, true, true, true, true, true, true, true, true, true, true, true, true, true, true, true, true, true, true, true, true, true, true, true, true, false, false, false, false, false] rfl rfl (one_of HT_.out (by kernel_rfl)) (by decide) (fun K hK => ?_)
              refine goes_ Try.func30 (by kernel_rfl) rfl #[.int .i64 (Int.tmod (rd t268 x10_3) 8)] (by rfl) rfl rfl (by (try simp only [List.map_toArray, List.map_cons, List.map_nil]); first | done | rfl | (simp only [List.length_drop, List.length_take]; rfl)) ?_
              with_reducible refine (phaetonref15_power.calls k3 (Int.tmod (rd t268 x10_3) 8) t279 _ A34.out).mono ?_
              rintro e w' ⟨rfl, ⟨nd, rfl⟩⟩
              refine ⟨_, rfl, ?_⟩
              have p35 : 0 ≤ ((ji29) : Int) := oD (by first | (with_reducible assumption) | assumption)
              have q35 : ((ji29) : Int) < ((x8_3.length : Int) : Int) := oD (by first | (with_reducible assumption) | assumption)
              obtain ⟨go35, co35, eo35, gb35, gl35, cl35, HG35⟩ := Kd.R_form HO_8.out (by omega)
              (first | cases eo35 | (injection eo35 with ea_ en_ ec_; (first | subst ea_ | (injection ea_ with ea_; subst ea_)); subst ec_; clear en_))
              have GB35 := aM gb35
              have GG35 := aM HG35
              clear gb35 gl35 HG35
              (first | simp only [add_plain] at hx272_0 | skip)
              (first | simp only [add_plain] at hx277_0 | skip)
              obtain ⟨hx35_0, hf35_0⟩ := Kd.R_celln 0 HO_8.out ((ji29) : Int) p35 q35
              replace p35 := eq_true p35
              replace q35 := eq_true q35
              have HP40 := Kd.R_putn HO_8.out ((ji29) : Int) ((wrap64 ((wrap64 (rd x8_3 (ji29))) + (wrap64 ((wrap64 ((Int.tmod x2_3 2) - (Int.tmod (wrap64 (Int.tdiv (wrap64 (rd x8_3 (ji29))) t274)) 2))) * t279)))) % 256)
              rw [← Ny280.out] at HP40
              have HQ40 := aM HP40
              clear HP40
              refine hK.out _ _ ⟨hHeld.1, hHeld.2.1, hHeld.2.2.1, hHeld.2.2.2⟩ (fun hHeld => ?_)
              clear hK K
              refine norm_ (a' := ?_) ?_ ?_
              rotate_left
              ·show Act.put _ (some 82) _ = _
               simp only [Act.put, sT, sZ, sS, i64_w, i32_w]
               rfl
              refine pure_ (i := 25) (N := some 83) (v := ?_) (a' := ?_) #[true, true, true, true, true, true, true, true, true, true, true, true, true, true, true, true, true, true, true, true, true, true, true, true, true, true, false, false, false, false] rfl rfl (any_of HT_.out (by kernel_rfl)) (fun _ _ _ h => h) (Or.inl ⟨by rfl, ?_⟩) ?_ ?_
              rotate_left
              ·intro w'
               go_simp
               with_reducible rfl
              rotate_left
              ·simp only [Act.put, sT, sZ, sS, i64_w, i32_w]
               rfl
              refine pure_ (i := 26) (N := some 84) (v := ?_) (a' := ?_) #[true, true, true, true, true, true, true, true, true, true, true, true, true, true, true, true, true, true, true, true, true, true, true, true, true, true, true, false, false, false] rfl rfl (any_of HT_.out (by kernel_rfl)) (fun _ _ _ h => h) (Or.inl ⟨by rfl, ?_⟩) ?_ ?_
              rotate_left
              ·intro w'
               go_simp
               with_reducible rfl
              rotate_left
              ·simp only [Act.put, sT, sZ, sS, i64_w, i32_w]
               rfl
              refine pure_ (i := 27) (N := some 85) (v := ?_) (a' := ?_) #[true, true, true, true, true, true, true, true, true, true, true, true, true, true, true, true, true, true, true, true, true, true, true, true, true, true, true, true, false, false] rfl rfl (any_of HT_.out (by kernel_rfl)) (fun _ _ _ h => h) (Or.inl ⟨by rfl, ?_⟩) ?_ ?_
              rotate_left
              ·intro w'
               go_simp
               with_reducible rfl
              rotate_left
              ·simp only [Act.put, sT, sZ, sS, i64_w, i32_w]
               rfl
              refine pure_ (i := 28) (N := some 86) (v := ?_) (a' := ?_) #[true, true, true, true, true, true, true, true, true, true, true, true, true, true, true, true, true, true, true, true, true, true, true, true, true, true, true, true, true, false] rfl rfl (any_of HT_.out (by kernel_rfl)) (fun _ _ _ h => h) (Or.inl ⟨by rfl, ?_⟩) ?_ ?_
              rotate_left
              ·intro w'
               go_simp
               with_reducible rfl
              rotate_left
              ·simp only [Act.put, sT, sZ, sS, i64_w, i32_w]
               rfl
              refine last_ (i := 29) (N := none) #[true, true, true, true, true, true, true, true, true, true, true, true, true, true, true, true, true, true, true, true, true, true, true, true, true, true, true, true, true, true] rfl rfl (one_of HT_.out (by kernel_rfl)) (by decide) (fun K hK => ?_)
              refine skip_ (w1 := ?_) (by rfl) rfl ?_ ?_
              rotate_left
              ·go_simp
               rfl
              refine hK.out _ _ ?_
              clear hK K
              refine done_ (done_of HT_.out (by kernel_rfl)) ?_
              try go_wp2
              go_roundg k3
              case measure => have := HJ3.out; have := HJ15.out; have := HK3.out; omega
              case rel => exact ⟨(wrap64 (Int.tdiv x2_3 2)), (y280), (wrap64 (x10_3 + 1)), (by first | rfl | (simp; done) | (simp [*]; done)), (by first | rfl | (simp; done) | (simp [*]; done)), H', ⟨by have := HJ3.out; have := HJ15.out; have := HK3.out; omega⟩, ⟨by (with_reducible repeat (first | apply rA | apply rN | apply rW)); exact HQ40.out⟩, ⟨by (with_reducible repeat (first | apply rA | apply rN | apply rW)); exact Kd.R_mono (Kd.R_far (p := ⟨go35, ((ji29) : Int).toNat, none⟩) (Kd.R_types HO_9.out GG35.out (by decide)) (fun _ hk => hk.2) (.int .u8 ((wrap64 ((wrap64 (rd x8_3 (ji29))) + (wrap64 ((wrap64 ((Int.tmod x2_3 2) - (Int.tmod (wrap64 (Int.tdiv (wrap64 (rd x8_3 (ji29))) t274)) 2))) * t279)))) % 256))) (fun _ hk => trivial)⟩, ⟨by (with_reducible repeat (first | refine bN ?_ _ | refine bW ?_ | refine bA ?_ _)); refine blk_far ?_ (by have h_ := Kd.R_ne HO_8.out BK258.out (by decide); intro e_; exact h_ (by rw [e_]; rfl)) _; (with_reducible repeat (first | refine bN ?_ _ | refine bW ?_ | refine bA ?_ _)); exact BK258.out⟩, ⟨by repeat (first | (with_reducible first | exact HB.out | apply lA | apply lN | apply lW | refine lS ?_ GB35.out | refine lS ?_ GE258.out) | exact HB.out)⟩⟩
            ·rw [if_neg c31] at H
             exact absurd H (by simp)
           ·rw [if_neg c30] at H
            exact absurd H (by simp)
          ·rw [if_neg c28] at H
           exact absurd H (by simp)
         ·rw [if_neg c27] at H
          have c27b0 : decide (x10_3 < (t268.length : Int)) = false := decide_eq_false c27
          clear c27
          simp only [Option.some.injEq, Prod.mk.injEq] at H
          obtain ⟨rfl, rfl⟩ := H
          obtain ⟨Ao41, co41, eo41⟩ := Kd.R_slice HO_9.out
          subst eo41
          go_wp2
          go_ret2
          exact ⟨_, by first | rfl | (simp [errW_none, errW_some] <;> rfl) | (simp [*, errW_none, errW_some] <;> rfl), by (with_reducible repeat (first | apply rA | apply rN | apply rW)); exact HO_8.out, by repeat (first | (with_reducible first | exact HB.out | apply lA | apply lN | apply lW | refine lS ?_ GE258.out) | exact HB.out)⟩
      ·rw [if_neg c20] at H
       exact absurd H (by simp)

end Go.Proofs.Ytcgkkjimonfhbaa.P

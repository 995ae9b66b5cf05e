/- Go functions that the laws of this seat reach, each as a Lean function, and a proof that a call of the Go code comes to its answers; written by a program (the kit's print, turned in a few places). Conditions: each theorem's own premises. -/
import Derived.Test.YtcgkkjimonfhbaaPx0
import Derived.Test.YtcgkkjimonfhbaaPx13
import Derived.Test.YtcgkkjimonfhbaaPx14
import Derived.Test.YtcgkkjimonfhbaaPx15
namespace Go.Proofs.Ytcgkkjimonfhbaa.P
open Go.RowKit Go.Proofs.YtcgkkjimonfhbaaW.PrintWords Go.Proofs.YtcgkkjimonfhbaaW.PrintLast Go.Proofs.YtcgkkjimonfhbaaW.PrintMore
attribute [local go_sem] max2_int min2_int max_two min_two max_three min_three max_four min_four   -- for this text's walks alone
set_option linter.unusedVariables false
set_option linter.unusedSimpArgs false

/-! ### phaetonref15_Put: function 13 -/
mutual
def phaetonref15_Put.j0 : Nat → List Int → Int → Bool → Int → Int → Bool → Bool → Int → Int → Option (List Int × Bool)
 | 0, _, _, _, _, _, _, _, _, _ => none
 | k + 1, x0, x2, x22, x301000, x301001, x301002, x301003, x301004, x301005 => if x22 = true then (some (([] : List Int), false)) else (if x2 < 0 then ((phaetonref15_power.f k x301001).bind fun t303 => (phaetonref15_Put.j1 k x0 (wrap64 (x2 + t303)) x301000 x301001 x301002 x301003 x301004 x301005)) else (phaetonref15_Put.j1 k x0 x2 x301000 x301001 x301002 x301003 x301004 x301005))
def phaetonref15_Put.j1 : Nat → List Int → Int → Int → Int → Bool → Bool → Int → Int → Option (List Int × Bool)
 | 0, _, _, _, _, _, _, _, _ => none
 | k + 1, x0, x2, x301000, x301001, x301002, x301003, x301004, x301005 => (some (([] : List Int) : List Int)).bind fun y304 => (if y304.length + x0.length < 140737488355328 then ((phaetonref15_Places.f k x301000 x301001 x301002 x301003 x301004 x301005).bind fun t310 => (phaetonref15_Put.l0 k x2 (y304 ++ x0) t310 0)) else (none))
def phaetonref15_Put.l0 : Nat → Int → List Int → List Int → Int → Option (List Int × Bool)
 | 0, _, _, _, _ => none
 | k + 1, x2, x8, x9, x10 => if x10 < (x9.length : Int) then (if 0 ≤ x10 then (if 0 ≤ (wrap64 (Int.tdiv (rd x9 x10) 8)) then (if (wrap64 (Int.tdiv (rd x9 x10) 8)) < (x8.length : Int) then ((phaetonref15_power.f k (Int.tmod (rd x9 x10) 8)).bind fun t316 => (if t316 = 0 then (none) else ((phaetonref15_power.f k (Int.tmod (rd x9 x10) 8)).bind fun t321 => (phaetonref15_Put.l0 k (wrap64 (Int.tdiv x2 2)) (x8.set ((wrap64 (Int.tdiv (rd x9 x10) 8)) : Int).toNat ((wrap64 ((wrap64 (rd x8 (wrap64 (Int.tdiv (rd x9 x10) 8)))) + (wrap64 ((wrap64 ((Int.tmod x2 2) - (Int.tmod (wrap64 (Int.tdiv (wrap64 (rd x8 (wrap64 (Int.tdiv (rd x9 x10) 8)))) t316)) 2))) * t321)))) % 256)) x9 (wrap64 (x10 + 1)))))) else (none)) else (none)) else (none)) else (some (x8, true))
end
def phaetonref15_Put.f (k : Nat) (l0 : List Int) (a1_0 : Int) (a1_1 : Int) (a1_2 : Bool) (a1_3 : Bool) (a1_4 : Int) (a1_5 : Int) (a2 : Int) : Option (List Int × Bool) := (phaetonref15_Right.f k a1_0 a1_1 a1_2 a1_3 a1_4 a1_5 (l0.length : Int)).bind fun t301 => (if t301 = true then ((phaetonref15_Fits.f k a1_0 a1_1 a1_2 a1_3 a1_4 a1_5 a2).bind fun t302 => (phaetonref15_Put.j0 k l0 a2 (!t302) a1_0 a1_1 a1_2 a1_3 a1_4 a1_5)) else (phaetonref15_Put.j0 k l0 a2 true a1_0 a1_1 a1_2 a1_3 a1_4 a1_5))
theorem phaetonref15_Put.mono_l : ∀ k, (∀ y0 y1 y2 y3 y4 y5 y6 y7 y8, LeO (phaetonref15_Put.j0 k y0 y1 y2 y3 y4 y5 y6 y7 y8) (phaetonref15_Put.j0 (k + 1) y0 y1 y2 y3 y4 y5 y6 y7 y8)) ∧ (∀ y0 y1 y2 y3 y4 y5 y6 y7, LeO (phaetonref15_Put.j1 k y0 y1 y2 y3 y4 y5 y6 y7) (phaetonref15_Put.j1 (k + 1) y0 y1 y2 y3 y4 y5 y6 y7)) ∧ (∀ y0 y1 y2 y3, LeO (phaetonref15_Put.l0 k y0 y1 y2 y3) (phaetonref15_Put.l0 (k + 1) y0 y1 y2 y3))
 | 0 => ⟨fun _ _ _ _ _ _ _ _ _ r h => by simp [phaetonref15_Put.j0] at h, fun _ _ _ _ _ _ _ _ r h => by simp [phaetonref15_Put.j1] at h, fun _ _ _ _ r h => by simp [phaetonref15_Put.l0] at h⟩
 | k + 1 => by
  obtain ⟨ih0, ih1, ih2⟩ := phaetonref15_Put.mono_l k
  refine ⟨?_, ?_, ?_⟩
  ·intro y0 y1 y2 y3 y4 y5 y6 y7 y8
   unfold phaetonref15_Put.j0
   repeat' first
   | (with_reducible exact ih0 _ _ _ _ _ _ _ _ _)
   | (with_reducible exact ih1 _ _ _ _ _ _ _ _)
   | (with_reducible exact ih2 _ _ _ _)
   | (with_reducible exact phaetonref15_Fits.mono _ _ _ _ _ _ _ _)
   | (with_reducible exact phaetonref15_Places.mono _ _ _ _ _ _ _)
   | (with_reducible exact phaetonref15_Right.mono _ _ _ _ _ _ _ _)
   | (with_reducible exact phaetonref15_power.mono _ _)
   | (with_reducible exact LeO.refl _)
   | (with_reducible exact LeO.none _)
   | (with_reducible refine LeO.ite ?_ ?_)
   | (with_reducible refine LeO.bind ?_ (fun _ => ?_))
   | exact ih0 _ _ _ _ _ _ _ _ _
   | exact ih1 _ _ _ _ _ _ _ _
   | exact ih2 _ _ _ _
   | exact phaetonref15_Fits.mono _ _ _ _ _ _ _ _
   | exact phaetonref15_Places.mono _ _ _ _ _ _ _
   | exact phaetonref15_Right.mono _ _ _ _ _ _ _ _
   | exact phaetonref15_power.mono _ _
   | exact LeO.none _
   | refine LeO.ite ?_ ?_
   | refine LeO.bind ?_ (fun _ => ?_)
  ·intro y0 y1 y2 y3 y4 y5 y6 y7
   unfold phaetonref15_Put.j1
   repeat' first
   | (with_reducible exact ih0 _ _ _ _ _ _ _ _ _)
   | (with_reducible exact ih1 _ _ _ _ _ _ _ _)
   | (with_reducible exact ih2 _ _ _ _)
   | (with_reducible exact phaetonref15_Fits.mono _ _ _ _ _ _ _ _)
   | (with_reducible exact phaetonref15_Places.mono _ _ _ _ _ _ _)
   | (with_reducible exact phaetonref15_Right.mono _ _ _ _ _ _ _ _)
   | (with_reducible exact phaetonref15_power.mono _ _)
   | (with_reducible exact LeO.refl _)
   | (with_reducible exact LeO.none _)
   | (with_reducible refine LeO.ite ?_ ?_)
   | (with_reducible refine LeO.bind ?_ (fun _ => ?_))
   | exact ih0 _ _ _ _ _ _ _ _ _
   | exact ih1 _ _ _ _ _ _ _ _
   | exact ih2 _ _ _ _
   | exact phaetonref15_Fits.mono _ _ _ _ _ _ _ _
   | exact phaetonref15_Places.mono _ _ _ _ _ _ _
   | exact phaetonref15_Right.mono _ _ _ _ _ _ _ _
   | exact phaetonref15_power.mono _ _
   | exact LeO.none _
   | refine LeO.ite ?_ ?_
   | refine LeO.bind ?_ (fun _ => ?_)
  ·intro y0 y1 y2 y3
   unfold phaetonref15_Put.l0
   repeat' first
   | (with_reducible exact ih0 _ _ _ _ _ _ _ _ _)
   | (with_reducible exact ih1 _ _ _ _ _ _ _ _)
   | (with_reducible exact ih2 _ _ _ _)
   | (with_reducible exact phaetonref15_Fits.mono _ _ _ _ _ _ _ _)
   | (with_reducible exact phaetonref15_Places.mono _ _ _ _ _ _ _)
   | (with_reducible exact phaetonref15_Right.mono _ _ _ _ _ _ _ _)
   | (with_reducible exact phaetonref15_power.mono _ _)
   | (with_reducible exact LeO.refl _)
   | (with_reducible exact LeO.none _)
   | (with_reducible refine LeO.ite ?_ ?_)
   | (with_reducible refine LeO.bind ?_ (fun _ => ?_))
   | exact ih0 _ _ _ _ _ _ _ _ _
   | exact ih1 _ _ _ _ _ _ _ _
   | exact ih2 _ _ _ _
   | exact phaetonref15_Fits.mono _ _ _ _ _ _ _ _
   | exact phaetonref15_Places.mono _ _ _ _ _ _ _
   | exact phaetonref15_Right.mono _ _ _ _ _ _ _ _
   | exact phaetonref15_power.mono _ _
   | exact LeO.none _
   | refine LeO.ite ?_ ?_
   | refine LeO.bind ?_ (fun _ => ?_)
theorem phaetonref15_Put.mono : ∀ a0 a1 a2 a3 a4 a5 a6 a7 k, LeO (phaetonref15_Put.f k a0 a1 a2 a3 a4 a5 a6 a7) (phaetonref15_Put.f (k + 1) a0 a1 a2 a3 a4 a5 a6 a7) := by
 intro a0 a1 a2 a3 a4 a5 a6 a7 k
 obtain ⟨ih0, ih1, ih2⟩ := phaetonref15_Put.mono_l k
 unfold phaetonref15_Put.f
 repeat' first
   | (with_reducible exact ih0 _ _ _ _ _ _ _ _ _)
   | (with_reducible exact ih1 _ _ _ _ _ _ _ _)
   | (with_reducible exact ih2 _ _ _ _)
   | (with_reducible exact phaetonref15_Fits.mono _ _ _ _ _ _ _ _)
   | (with_reducible exact phaetonref15_Places.mono _ _ _ _ _ _ _)
   | (with_reducible exact phaetonref15_Right.mono _ _ _ _ _ _ _ _)
   | (with_reducible exact phaetonref15_power.mono _ _)
   | (with_reducible exact LeO.refl _)
   | (with_reducible exact LeO.none _)
   | (with_reducible refine LeO.ite ?_ ?_)
   | (with_reducible refine LeO.bind ?_ (fun _ => ?_))
   | exact ih0 _ _ _ _ _ _ _ _ _
   | exact ih1 _ _ _ _ _ _ _ _
   | exact ih2 _ _ _ _
   | exact phaetonref15_Fits.mono _ _ _ _ _ _ _ _
   | exact phaetonref15_Places.mono _ _ _ _ _ _ _
   | exact phaetonref15_Right.mono _ _ _ _ _ _ _ _
   | exact phaetonref15_power.mono _ _
   | exact LeO.none _
   | refine LeO.ite ?_ ?_
   | refine LeO.bind ?_ (fun _ => ?_)
def phaetonref15_Put.T9 : Bool × List (List Nat × List Nat) := (true, [([], []), ([], []), ([], []), ([1, 2], [1, 2]), ([3], [3]), ([4], [4]), ([0, 5], [0, 5]), ([6], [6]), ([7], [7]), ([], []), ([], []), ([9, 10], [9, 10]), ([11], [11]), ([12], [12]), ([13], [13]), ([8, 14], [8, 14]), ([15], [15]), ([16, 14, 0, 1, 2, 3, 4, 5, 6, 7, 8, 9, 10, 11, 12, 13, 14, 15, 16], [16])])
def phaetonref15_Put.B9 : List Nat := [0, 0, 0, 6, 14, 30, 63, 127, 255, 0, 0, 1536, 3584, 7680, 15872, 32767, 65535, 131071]
theorem phaetonref15_Put.tab9 : rtab .any (opsOf Try.f13 9) = phaetonref15_Put.T9 := by kernel_rfl
theorem phaetonref15_Put.bits9 : waitsOk phaetonref15_Put.T9.2 phaetonref15_Put.B9 = true := by kernel_rfl
def phaetonref15_Put.T10 : Bool × List (List Nat × List Nat) := (true, [([], []), ([], []), ([], []), ([1, 2], [1, 2]), ([3], [3]), ([4], [4]), ([], []), ([], []), ([], []), ([7, 8], [7, 8]), ([9], [9]), ([10], [10]), ([6, 11], [6, 11]), ([12], [12]), ([13], [13]), ([], []), ([15], [15]), ([], []), ([16, 17], [16, 17]), ([], []), ([], []), ([19, 20], [19, 20]), ([21], [21]), ([22], [22]), ([23], [23]), ([18, 24], [18, 24]), ([14, 25], [14, 25]), ([26], [26]), ([0, 5, 0, 1, 2, 3, 4, 5, 6, 7, 8, 9, 10, 11, 12, 13, 14, 15, 16, 17, 18, 19, 20, 21, 22, 23, 24, 25, 26, 27], [0, 5]), ([28, 27, 24, 0, 1, 2, 3, 4, 5, 6, 7, 8, 9, 10, 11, 12, 13, 14, 15, 16, 17, 18, 19, 20, 21, 22, 23, 24, 25, 26, 27], [27, 28])])
def phaetonref15_Put.B10 : List Nat := [0, 0, 0, 6, 14, 30, 0, 0, 0, 384, 896, 1920, 4032, 8128, 16320, 0, 32768, 0, 229376, 0, 0, 1572864, 3670016, 7864320, 16252928, 33521664, 67108800, 134217664, 268435455, 536870911]
theorem phaetonref15_Put.tab10 : rtab .any (opsOf Try.f13 10) = phaetonref15_Put.T10 := by kernel_rfl
theorem phaetonref15_Put.bits10 : waitsOk phaetonref15_Put.T10.2 phaetonref15_Put.B10 = true := by kernel_rfl
set_option maxHeartbeats 8000000 in
set_option maxRecDepth 100000 in
theorem phaetonref15_Put.calls (k : Nat) (A0 : Option Addr) (c0 : Nat) (l0 : List Int) (a1_0 : Int) (a1_1 : Int) (a1_2 : Bool) (a1_3 : Bool) (a1_4 : Int) (a1_5 : Int) (a2 : Int) (r1 : List Int) (r2 : Bool) (w : World) (hr0 : Kd.C (Kd.int .u8) w A0 l0.length l0) (hc0 : l0.length ≤ c0) (h : phaetonref15_Put.f k l0 a1_0 a1_1 a1_2 a1_3 a1_4 a1_5 a2 = some (r1, r2)) :
  Calls Try.prog 13 #[.slice A0 l0.length c0, .agg #[.int .i64 a1_0, .int .i64 a1_1, .bool a1_2, .bool a1_3, .int .i64 a1_4, .int .i64 a1_5], .int .i64 a2] w fun e w' => ∃ v0_ : Value, e = .returned (.tuple #[v0_, .bool r2]) ∧ Kd.R (Kd.int .u8) 5 w' w.heap.size (fun _ => True) v0_ r1 ∧ Below w.heap.size w w' := by
 have hu23 := Try.underlying23
 have HR0 := aM hr0
 have HC0 := aM hc0
 clear hr0 hc0
 have HB := aM (Below.refl w.heap.size w)
 have H : ((phaetonref15_Right.f k a1_0 a1_1 a1_2 a1_3 a1_4 a1_5 (l0.length : Int)).bind fun t301 => (if t301 = true then ((phaetonref15_Fits.f k a1_0 a1_1 a1_2 a1_3 a1_4 a1_5 a2).bind fun t302 => (phaetonref15_Put.j0 k l0 a2 (!t302) a1_0 a1_1 a1_2 a1_3 a1_4 a1_5)) else (phaetonref15_Put.j0 k l0 a2 true a1_0 a1_1 a1_2 a1_3 a1_4 a1_5))) = some (r1, r2) := h
 clear h
 have HC4 := aM H
 clear H
 go_enter Try.func13, Try.ntmps13
 go_upto_region 1 with (first | ((with_reducible refine gate_dst (N := 4) rfl ?_); refine box_event ?hg (N := 4) ?hd (cs := #[.int .i64 a1_0, .int .i64 a1_1, .bool a1_2, .bool a1_3, .int .i64 a1_4, .int .i64 a1_5]) (t := 23) ?hr ?_; (case hd => rfl); (case hg => rfl); (case hr => first | (go_simp; done) | (go_simp; rfl)); intro gb300 hg w5 hbox hb; have n0_ := aM (lT (by repeat (first | (with_reducible first | exact HB.out | apply lA | apply lN | apply lW) | exact HB.out)) hb); have n1_ := aM (hbox); have n2_ := aM ((by rw [hg]; exact (lZ (by repeat (first | (with_reducible first | exact HB.out | apply lA | apply lN | apply lW) | exact HB.out))) : w.heap.size ≤ gb300)); have n3_ := aM ((by rw [hg]; exact (lZ (by repeat (first | (with_reducible first | exact HB.out | apply lA | apply lN | apply lW) | exact HB.out))) : w.heap.size ≤ gb300)); clear HB; have HB := n0_; have BK300 := n1_; have GW300 := n2_; have GE300 := n3_; clear n0_ n1_ n2_ n3_; clear hb hbox hg))
 (try simp only [Act.put, sT, sZ, sS])
 go_cut [22] (fun v22 wc => ∃ (kq : Nat) (x22_3 : Bool), v22 = .bool x22_3 ∧ Aside0 (phaetonref15_Put.j0 kq l0 a2 x22_3 a1_0 a1_1 a1_2 a1_3 a1_4 a1_5 = some (r1, r2)) ∧ Aside0 (kq ≤ k) ∧ Aside0 (wc.heap[gb300]? = some (.cells #[.int .i64 a1_0, .int .i64 a1_1, .bool a1_2, .bool a1_3, .int .i64 a1_4, .int .i64 a1_5] 23 (0, 0))) ∧ Aside0 (Below w.heap.size w wc))
 case first =>
  have H := HC4.out
  clear HC4
  replace H := Option.bind_eq_some_iff.mp H
  obtain ⟨t301, A60, H⟩ := H
  replace H : (if t301 = true then ((phaetonref15_Fits.f k a1_0 a1_1 a1_2 a1_3 a1_4 a1_5 a2).bind fun t302 => (phaetonref15_Put.j0 k l0 a2 (!t302) a1_0 a1_1 a1_2 a1_3 a1_4 a1_5)) else (phaetonref15_Put.j0 k l0 a2 true a1_0 a1_1 a1_2 a1_3 a1_4 a1_5)) = some (r1, r2) := H
  have A6 := aM A60
  clear A60
  by_cases c7 : t301 = true
  ·subst c7
   have H1 : ((phaetonref15_Fits.f k a1_0 a1_1 a1_2 a1_3 a1_4 a1_5 a2).bind fun t302 => (phaetonref15_Put.j0 k l0 a2 (!t302) a1_0 a1_1 a1_2 a1_3 a1_4 a1_5)) = some (r1, r2) := by rw [if_pos rfl] at H; exact H
   clear H
   have H := H1
   clear H1
   replace H := Option.bind_eq_some_iff.mp H
   obtain ⟨t302, A80, H⟩ := H
   replace H : (phaetonref15_Put.j0 k l0 a2 (!t302) a1_0 a1_1 a1_2 a1_3 a1_4 a1_5) = some (r1, r2) := H
   have A8 := aM A80
   clear A80
   have H' := aM H
   clear H
   have hcz9_0 : w5.cell? ⟨gb300, 0, none⟩ = some (.int .i64 a1_0) := (bC BK300.out 0).trans rfl
   have hcz9_1 : w5.cell? ⟨gb300, 1, none⟩ = some (.int .i64 a1_1) := (bC BK300.out 1).trans rfl
   have hcz9_2 : w5.cell? ⟨gb300, 2, none⟩ = some (.bool a1_2) := (bC BK300.out 2).trans rfl
   have hcz9_3 : w5.cell? ⟨gb300, 3, none⟩ = some (.bool a1_3) := (bC BK300.out 3).trans rfl
   have hcz9_4 : w5.cell? ⟨gb300, 4, none⟩ = some (.int .i64 a1_4) := (bC BK300.out 4).trans rfl
   have hcz9_5 : w5.cell? ⟨gb300, 5, none⟩ = some (.int .i64 a1_5) := (bC BK300.out 5).trans rfl
   have hfz9_0 := bF BK300.out 0
   have hfz9_1 := bF BK300.out 1
   have hfz9_2 := bF BK300.out 2
   have hfz9_3 := bF BK300.out 3
   have hfz9_4 := bF BK300.out 4
   have hfz9_5 := bF BK300.out 5
   go_wp2_with (first | ((with_reducible refine gate_callee (f := 17) rfl ?_); refine goesL_ (some 15) rfl rfl Try.func17 (by kernel_rfl) rfl #[.agg #[.int .i64 a1_0, .int .i64 a1_1, .bool a1_2, .bool a1_3, .int .i64 a1_4, .int .i64 a1_5], .int .i64 (l0.length : Int)] rfl (by (try simp only [List.map_toArray, List.map_cons, List.map_nil]); first | done | rfl | (simp only [List.length_drop, List.length_take]; rfl)) ?_; (with_reducible refine (phaetonref15_Right.calls k a1_0 a1_1 a1_2 a1_3 a1_4 a1_5 (l0.length : Int) true _ A6.out).mono ?_); rintro e w10 ⟨rfl, hb⟩; refine ⟨_, rfl, ?_⟩; have n0_ := aM (blk_below (g := gb300) (o := .cells #[.int .i64 a1_0, .int .i64 a1_1, .bool a1_2, .bool a1_3, .int .i64 a1_4, .int .i64 a1_5] 23 (0, 0)) (by (with_reducible repeat (first | refine bN ?_ _ | refine bW ?_ | refine bA ?_ _)); exact BK300.out) hb); have n1_ := aM (lT (by repeat (first | (with_reducible first | exact HB.out | apply lA | apply lN | apply lW | refine lS ?_ GE300.out) | exact HB.out)) hb); clear BK300; clear HB; have BK300 := n0_; have HB := n1_; clear n0_ n1_; (try clear hb); (try clear hb2); (try clear hk); (try clear hi); have hcz11_0 : w10.cell? ⟨gb300, 0, none⟩ = some (.int .i64 a1_0) := (bC BK300.out 0).trans rfl; have hcz11_1 : w10.cell? ⟨gb300, 1, none⟩ = some (.int .i64 a1_1) := (bC BK300.out 1).trans rfl; have hcz11_2 : w10.cell? ⟨gb300, 2, none⟩ = some (.bool a1_2) := (bC BK300.out 2).trans rfl; have hcz11_3 : w10.cell? ⟨gb300, 3, none⟩ = some (.bool a1_3) := (bC BK300.out 3).trans rfl; have hcz11_4 : w10.cell? ⟨gb300, 4, none⟩ = some (.int .i64 a1_4) := (bC BK300.out 4).trans rfl; have hcz11_5 : w10.cell? ⟨gb300, 5, none⟩ = some (.int .i64 a1_5) := (bC BK300.out 5).trans rfl; have hfz11_0 := bF BK300.out 0; have hfz11_1 := bF BK300.out 1; have hfz11_2 := bF BK300.out 2; have hfz11_3 := bF BK300.out 3; have hfz11_4 := bF BK300.out 4; have hfz11_5 := bF BK300.out 5) | (go_at_call 25; (with_reducible refine (phaetonref15_Fits.calls k a1_0 a1_1 a1_2 a1_3 a1_4 a1_5 a2 t302 _ A8.out).mono ?_); rintro e w12 ⟨rfl, hb⟩; have n0_ := aM (blk_below (g := gb300) (o := .cells #[.int .i64 a1_0, .int .i64 a1_1, .bool a1_2, .bool a1_3, .int .i64 a1_4, .int .i64 a1_5] 23 (0, 0)) (by (with_reducible repeat (first | refine bN ?_ _ | refine bW ?_ | refine bA ?_ _)); exact BK300.out) hb); have n1_ := aM (lT (by repeat (first | (with_reducible first | exact HB.out | apply lA | apply lN | apply lW | refine lS ?_ GE300.out) | exact HB.out)) hb); clear BK300; clear HB; have BK300 := n0_; have HB := n1_; clear n0_ n1_; (try clear hb); (try clear hb2); (try clear hk); (try clear hi)))
   go_meet
   case rel => exact ⟨_, (!t302), (by first | rfl | (simp; done) | (simp [*]; done)), H', ⟨by first | omega | exact Nat.le_refl _⟩, ⟨by (with_reducible repeat (first | refine bN ?_ _ | refine bW ?_ | refine bA ?_ _)); exact BK300.out⟩, ⟨by repeat (first | (with_reducible first | exact HB.out | apply lA | apply lN | apply lW | refine lS ?_ GE300.out) | exact HB.out)⟩⟩
  ·replace c7 := Bool.eq_false_iff.mpr c7
   subst c7
   have H1 : (phaetonref15_Put.j0 k l0 a2 true a1_0 a1_1 a1_2 a1_3 a1_4 a1_5) = some (r1, r2) := by rw [if_neg (show ¬ (false = true) by decide)] at H; exact H
   clear H
   have H := H1
   clear H1
   have H' := aM H
   clear H
   have hcz13_0 : w5.cell? ⟨gb300, 0, none⟩ = some (.int .i64 a1_0) := (bC BK300.out 0).trans rfl
   have hcz13_1 : w5.cell? ⟨gb300, 1, none⟩ = some (.int .i64 a1_1) := (bC BK300.out 1).trans rfl
   have hcz13_2 : w5.cell? ⟨gb300, 2, none⟩ = some (.bool a1_2) := (bC BK300.out 2).trans rfl
   have hcz13_3 : w5.cell? ⟨gb300, 3, none⟩ = some (.bool a1_3) := (bC BK300.out 3).trans rfl
   have hcz13_4 : w5.cell? ⟨gb300, 4, none⟩ = some (.int .i64 a1_4) := (bC BK300.out 4).trans rfl
   have hcz13_5 : w5.cell? ⟨gb300, 5, none⟩ = some (.int .i64 a1_5) := (bC BK300.out 5).trans rfl
   have hfz13_0 := bF BK300.out 0
   have hfz13_1 := bF BK300.out 1
   have hfz13_2 := bF BK300.out 2
   have hfz13_3 := bF BK300.out 3
   have hfz13_4 := bF BK300.out 4
   have hfz13_5 := bF BK300.out 5
   go_wp2_with (first | ((with_reducible refine gate_callee (f := 17) rfl ?_); refine goesL_ (some 15) rfl rfl Try.func17 (by kernel_rfl) rfl #[.agg #[.int .i64 a1_0, .int .i64 a1_1, .bool a1_2, .bool a1_3, .int .i64 a1_4, .int .i64 a1_5], .int .i64 (l0.length : Int)] rfl (by (try simp only [List.map_toArray, List.map_cons, List.map_nil]); first | done | rfl | (simp only [List.length_drop, List.length_take]; rfl)) ?_; (with_reducible refine (phaetonref15_Right.calls k a1_0 a1_1 a1_2 a1_3 a1_4 a1_5 (l0.length : Int) false _ A6.out).mono ?_); rintro e w14 ⟨rfl, hb⟩; refine ⟨_, rfl, ?_⟩; have n0_ := aM (blk_below (g := gb300) (o := .cells #[.int .i64 a1_0, .int .i64 a1_1, .bool a1_2, .bool a1_3, .int .i64 a1_4, .int .i64 a1_5] 23 (0, 0)) (by (with_reducible repeat (first | refine bN ?_ _ | refine bW ?_ | refine bA ?_ _)); exact BK300.out) hb); have n1_ := aM (lT (by repeat (first | (with_reducible first | exact HB.out | apply lA | apply lN | apply lW | refine lS ?_ GE300.out) | exact HB.out)) hb); clear BK300; clear HB; have BK300 := n0_; have HB := n1_; clear n0_ n1_; (try clear hb); (try clear hb2); (try clear hk); (try clear hi)))
   go_meet
   case rel => exact ⟨_, (true), (by first | rfl | (simp; done) | (simp [*]; done)), H', ⟨by first | omega | exact Nat.le_refl _⟩, ⟨by (with_reducible repeat (first | refine bN ?_ _ | refine bW ?_ | refine bA ?_ _)); exact BK300.out⟩, ⟨by repeat (first | (with_reducible first | exact HB.out | apply lA | apply lN | apply lW | refine lS ?_ GE300.out) | exact HB.out)⟩⟩
 case rest =>
  clear HC4
  try clear c1
  try clear p2
  try clear c7
  try clear c13
  try clear hcz11_0
  try clear hcz11_1
  try clear hcz11_2
  try clear hcz11_3
  try clear hcz11_4
  try clear hcz11_5
  try clear hcz13_0
  try clear hcz13_1
  try clear hcz13_2
  try clear hcz13_3
  try clear hcz13_4
  try clear hcz13_5
  try clear hcz9_0
  try clear hcz9_1
  try clear hcz9_2
  try clear hcz9_3
  try clear hcz9_4
  try clear hcz9_5
  try clear hfz11_0
  try clear hfz11_1
  try clear hfz11_2
  try clear hfz11_3
  try clear hfz11_4
  try clear hfz11_5
  try clear hfz13_0
  try clear hfz13_1
  try clear hfz13_2
  try clear hfz13_3
  try clear hfz13_4
  try clear hfz13_5
  try clear hfz9_0
  try clear hfz9_1
  try clear hfz9_2
  try clear hfz9_3
  try clear hfz9_4
  try clear hfz9_5
  obtain ⟨kq, x22_3, rfl, HA, HJ3, BK300, HB⟩ := hcut
  cases kq with
  | zero => exact absurd HA.out (by simp [phaetonref15_Put.j0])
  | succ kj3 =>
   have H := HA.out
   clear HA
   simp only [phaetonref15_Put.j0] at H
   by_cases c15 : x22_3 = true
   ·subst c15
    have H1 : (some (([] : List Int), false)) = some (r1, r2) := by rw [if_pos rfl] at H; exact H
    clear H
    have H := H1
    clear H1
    simp only [Option.some.injEq, Prod.mk.injEq] at H
    obtain ⟨rfl, rfl⟩ := H
    go_wp2
    go_ret2
    exact ⟨_, by first | rfl | (simp [errW_none, errW_some] <;> rfl) | (simp [*, errW_none, errW_some] <;> rfl), by first | exact Kd.R_nil _ _ _ _ _ | exact Kd.N_nil _ _ _ _ _ | exact Kd.V_nil _ _ _ _ _ | exact Kd.Q_nil _ _ _ _ _ | exact Kd.S_nil _ _ _ _ _, by repeat (first | (with_reducible first | exact HB.out | apply lA | apply lN | apply lW | refine lS ?_ GE300.out) | exact HB.out)⟩
   ·replace c15 := Bool.eq_false_iff.mpr c15
    subst c15
    have H1 : (if a2 < 0 then ((phaetonref15_power.f kj3 a1_1).bind fun t303 => (phaetonref15_Put.j1 kj3 l0 (wrap64 (a2 + t303)) a1_0 a1_1 a1_2 a1_3 a1_4 a1_5)) else (phaetonref15_Put.j1 kj3 l0 a2 a1_0 a1_1 a1_2 a1_3 a1_4 a1_5)) = some (r1, r2) := by rw [if_neg (show ¬ (false = true) by decide)] at H; exact H
    clear H
    have H := H1
    clear H1
    have HC16 := aM H
    clear H
    go_upto_if 24 with (fail)
    go_cut [2] (fun v2 wc => ∃ (kq : Nat) (x2_15 : Int), v2 = .int .i64 x2_15 ∧ Aside0 (phaetonref15_Put.j1 kq l0 x2_15 a1_0 a1_1 a1_2 a1_3 a1_4 a1_5 = some (r1, r2)) ∧ Aside0 (kq ≤ kj3) ∧ Aside0 (wc.heap[gb300]? = some (.cells #[.int .i64 a1_0, .int .i64 a1_1, .bool a1_2, .bool a1_3, .int .i64 a1_4, .int .i64 a1_5] 23 (0, 0))) ∧ Aside0 (Below w.heap.size w wc))
    case first =>
     have H := HC16.out
     clear HC16
     by_cases c17 : a2 < 0
     ·rw [if_pos c17] at H
      have c17b0 : decide (a2 < 0) = true := decide_eq_true c17
      clear c17
      (first | rw [c17b0] | (simp only [i64_w, i32_w]; rw [c17b0]) | skip)
      replace H := Option.bind_eq_some_iff.mp H
      obtain ⟨t303, A180, H⟩ := H
      replace H : (phaetonref15_Put.j1 kj3 l0 (wrap64 (a2 + t303)) a1_0 a1_1 a1_2 a1_3 a1_4 a1_5) = some (r1, r2) := H
      have A18 := aM A180
      clear A180
      have H' := aM H
      clear H
      have hcz19_0 : wc.cell? ⟨gb300, 0, none⟩ = some (.int .i64 a1_0) := (bC BK300.out 0).trans rfl
      have hcz19_1 : wc.cell? ⟨gb300, 1, none⟩ = some (.int .i64 a1_1) := (bC BK300.out 1).trans rfl
      have hcz19_2 : wc.cell? ⟨gb300, 2, none⟩ = some (.bool a1_2) := (bC BK300.out 2).trans rfl
      have hcz19_3 : wc.cell? ⟨gb300, 3, none⟩ = some (.bool a1_3) := (bC BK300.out 3).trans rfl
      have hcz19_4 : wc.cell? ⟨gb300, 4, none⟩ = some (.int .i64 a1_4) := (bC BK300.out 4).trans rfl
      have hcz19_5 : wc.cell? ⟨gb300, 5, none⟩ = some (.int .i64 a1_5) := (bC BK300.out 5).trans rfl
      have hfz19_0 := bF BK300.out 0
      have hfz19_1 := bF BK300.out 1
      have hfz19_2 := bF BK300.out 2
      have hfz19_3 := bF BK300.out 3
      have hfz19_4 := bF BK300.out 4
      have hfz19_5 := bF BK300.out 5
      go_wp2_with (first | ((with_reducible refine gate_callee (f := 30) rfl ?_); refine goesL_ (some 28) rfl rfl Try.func30 (by kernel_rfl) rfl #[.int .i64 a1_1] rfl (by (try simp only [List.map_toArray, List.map_cons, List.map_nil]); first | done | rfl | (simp only [List.length_drop, List.length_take]; rfl)) ?_; (with_reducible refine (phaetonref15_power.calls kj3 a1_1 t303 _ A18.out).mono ?_); rintro e w' ⟨rfl, ⟨nd, rfl⟩⟩; refine ⟨_, rfl, ?_⟩))
      go_meet
      case rel => exact ⟨_, (wrap64 (a2 + t303)), (by first | rfl | (simp; done) | (simp [*]; done)), H', ⟨by have := HJ3.out; first | omega | exact Nat.le_refl _⟩, ⟨by (with_reducible repeat (first | refine bN ?_ _ | refine bW ?_ | refine bA ?_ _)); exact BK300.out⟩, ⟨by repeat (first | (with_reducible first | exact HB.out | apply lA | apply lN | apply lW | refine lS ?_ GE300.out) | exact HB.out)⟩⟩
     ·rw [if_neg c17] at H
      have c17b0 : decide (a2 < 0) = false := decide_eq_false c17
      clear c17
      (first | rw [c17b0] | (simp only [i64_w, i32_w]; rw [c17b0]) | skip)
      have H' := aM H
      clear H
      go_wp2
      go_meet
      case rel => exact ⟨_, (a2), (by first | rfl | (simp; done) | (simp [*]; done)), H', ⟨by have := HJ3.out; first | omega | exact Nat.le_refl _⟩, ⟨by (with_reducible repeat (first | refine bN ?_ _ | refine bW ?_ | refine bA ?_ _)); exact BK300.out⟩, ⟨by repeat (first | (with_reducible first | exact HB.out | apply lA | apply lN | apply lW | refine lS ?_ GE300.out) | exact HB.out)⟩⟩
    case rest =>
     clear HC16
     try clear c1
     try clear p2
     try clear c3
     try clear p6
     try clear c7
     try clear c13
     try clear c15
     try clear c17
     try clear c17b0
     try clear hcz11_0
     try clear hcz11_1
     try clear hcz11_2
     try clear hcz11_3
     try clear hcz11_4
     try clear hcz11_5
     try clear hcz13_0
     try clear hcz13_1
     try clear hcz13_2
     try clear hcz13_3
     try clear hcz13_4
     try clear hcz13_5
     try clear hcz19_0
     try clear hcz19_1
     try clear hcz19_2
     try clear hcz19_3
     try clear hcz19_4
     try clear hcz19_5
     try clear hcz9_0
     try clear hcz9_1
     try clear hcz9_2
     try clear hcz9_3
     try clear hcz9_4
     try clear hcz9_5
     try clear hfz11_0
     try clear hfz11_1
     try clear hfz11_2
     try clear hfz11_3
     try clear hfz11_4
     try clear hfz11_5
     try clear hfz13_0
     try clear hfz13_1
     try clear hfz13_2
     try clear hfz13_3
     try clear hfz13_4
     try clear hfz13_5
     try clear hfz19_0
     try clear hfz19_1
     try clear hfz19_2
     try clear hfz19_3
     try clear hfz19_4
     try clear hfz19_5
     try clear hfz9_0
     try clear hfz9_1
     try clear hfz9_2
     try clear hfz9_3
     try clear hfz9_4
     try clear hfz9_5
     try clear p2
     obtain ⟨kq, x2_15, rfl, HA, HJ15, BK300, HB⟩ := hcut
     cases kq with
     | zero => exact absurd HA.out (by simp [phaetonref15_Put.j1])
     | succ kj15 =>
      have H := HA.out
      clear HA
      simp only [phaetonref15_Put.j1] at H
      obtain ⟨y304, hy304⟩ : ∃ y_ : List Int, y_ = (([] : List Int)) := ⟨_, rfl⟩
      replace H : (if y304.length + l0.length < 140737488355328 then ((phaetonref15_Places.f kj15 a1_0 a1_1 a1_2 a1_3 a1_4 a1_5).bind fun t310 => (phaetonref15_Put.l0 kj15 x2_15 (y304 ++ l0) t310 0)) else (none)) = some (r1, r2) := by first | (rw [hy304]; with_reducible exact H) | (have H2_ := (Option.bind_some _ _).symm.trans H; rw [hy304]; with_reducible exact H2_) | (have H2_ := (Option.bind_some _ _).symm.trans H; with_reducible exact H2_) | with_reducible exact H | (rw [hy304]; exact H) | exact H
      have Ny304 := aM hy304
      clear hy304
      by_cases c20 : y304.length + l0.length < 140737488355328
      ·rw [if_pos c20] at H
       have LMc20 := aM c20
       clear c20
       obtain ⟨y307, hy307⟩ : ∃ y_ : List Int, y_ = (y304 ++ l0) := ⟨_, rfl⟩
       replace H : ((phaetonref15_Places.f kj15 a1_0 a1_1 a1_2 a1_3 a1_4 a1_5).bind fun t310 => (phaetonref15_Put.l0 kj15 x2_15 y307 t310 0)) = some (r1, r2) := by first | (rw [hy307]; with_reducible exact H) | (have H2_ := (Option.bind_some _ _).symm.trans H; rw [hy307]; with_reducible exact H2_) | (have H2_ := (Option.bind_some _ _).symm.trans H; with_reducible exact H2_) | with_reducible exact H | (rw [hy307]; exact H) | exact H
       have Ny307 := aM hy307
       clear hy307
       replace H := Option.bind_eq_some_iff.mp H
       obtain ⟨t310, A210, H⟩ := H
       replace H : (phaetonref15_Put.l0 kj15 x2_15 y307 t310 0) = some (r1, r2) := H
       have A21 := aM A210
       clear A210
       have H' := aM H
       clear H
       try go_wp2
       have n0_ := aM (bW BK300.out)
       have n1_ := aM (lW HB.out)
       clear BK300
       clear HB
       have BK300 := n0_
       have HB := n1_
       clear n0_ n1_
       refine start_ (n := 7) (S := fun w' => w'.cell? ⟨gb300, 0, none⟩ = some (.int .i64 a1_0) ∧ w'.cell? ⟨gb300, 1, none⟩ = some (.int .i64 a1_1) ∧ w'.cell? ⟨gb300, 2, none⟩ = some (.bool a1_2) ∧ w'.cell? ⟨gb300, 3, none⟩ = some (.bool a1_3) ∧ w'.cell? ⟨gb300, 4, none⟩ = some (.int .i64 a1_4) ∧ w'.cell? ⟨gb300, 5, none⟩ = some (.int .i64 a1_5)) (ds := []) #[false, false, false, false, false, false, false] (by kernel_rfl) rfl rfl ⟨(bC BK300.out 0).trans rfl, (bC BK300.out 1).trans rfl, (bC BK300.out 2).trans rfl, (bC BK300.out 3).trans rfl, (bC BK300.out 4).trans rfl, (bC BK300.out 5).trans rfl⟩ (fun hHeld => ?_)
       generalize wc.drew = w22 at BK300 HB hHeld ⊢
       refine pure_ (i := 1) (N := some 31) (v := ?_) (a' := ?_) #[false, true, false, false, false, false, false] rfl rfl (by kernel_rfl) (fun _ _ _ h => h) (Or.inl ⟨by rfl, ?_⟩) ?_ ?_
       rotate_left
       ·intro w'
        go_simp
        with_reducible rfl
       rotate_left
       ·simp only [Act.put, sT, sZ, sS, i64_w, i32_w]
        rfl
       refine take_ (i := 3) (N := some 33) (v := ?_) (a' := ?_) #[false, true, false, true, false, false, false] rfl rfl (by kernel_rfl) (fun _ _ _ h => h) (Or.inl ⟨by rfl, ?_⟩) hHeld ?_ ?_
       rotate_left
       ·rintro w' ⟨s0, s1, s2, s3, s4, s5⟩
        go_simp
        with_reducible rfl
       rotate_left
       ·simp only [Act.put, sT, sZ, sS, i64_w, i32_w]
        rfl
       refine one_ (i := 0) (N := some 30) #[true, true, false, true, false, false, false] rfl rfl (by kernel_rfl) (by decide) (fun K hK => ?_)
       refine Kd.R_lit_step (Kd.int .u8) _ 5 ?hg (N := 30) ?hd (xs := ([] : List Int)) (inner := []) (ok := fun _ => True) (okp := fun _ => True) ?hr ?hp (fun _ hk => hk) trivial (Below.refl _ _) (Nat.le_refl _) (by simp) ?_; (case hd => rfl); (case hg => rfl); (case hr => first | (go_simp; done) | (go_simp; rfl)); (case hp => exact (Reps.none _ _))
       intro v305 w23 ho24 hb hg_ hnew_
       clear hg_ hnew_
       (first | rw [← Ny304.out] at ho24 | (simp only [Int.reduceToNat] at ho24; rw [← Ny304.out] at ho24))
       have n0_ := aM (Kd.R_lower ho24 (lZ (by repeat (first | (with_reducible first | exact HB.out | apply lA | apply lN | apply lW | refine lS ?_ GE300.out) | exact HB.out))))
       have n1_ := aM (blk_below (g := gb300) (o := .cells #[.int .i64 a1_0, .int .i64 a1_1, .bool a1_2, .bool a1_3, .int .i64 a1_4, .int .i64 a1_5] 23 (0, 0)) (by (with_reducible repeat (first | refine bN ?_ _ | refine bW ?_ | refine bA ?_ _)); exact BK300.out) hb)
       have n2_ := aM (lT (by repeat (first | (with_reducible first | exact HB.out | apply lA | apply lN | apply lW | refine lS ?_ GE300.out) | exact HB.out)) hb)
       clear BK300
       clear HB
       have HO306 := n0_
       have BK300 := n1_
       have HB := n2_
       clear n0_ n1_ n2_
       clear hb ho24
       refine hK.out _ _ ⟨(bC BK300.out 0).trans rfl, (bC BK300.out 1).trans rfl, (bC BK300.out 2).trans rfl, (bC BK300.out 3).trans rfl, (bC BK300.out 4).trans rfl, (bC BK300.out 5).trans rfl⟩ (fun hHeld => ?_)
       clear hK K
       refine norm_ (a' := ?_) ?_ ?_
       rotate_left
       ·show Act.put _ (some 30) _ = _
        simp only [Act.put, sT, sZ, sS, i64_w, i32_w]
        rfl
       refine one_ (i := 2) (N := some 32) #[true, true, true, true, false, false, false] rfl rfl (by kernel_rfl) (by decide) (fun K hK => ?_)
       refine Kd.R_append_rows_step (Kd.int .u8) (w0 := w) w.heap.size (by rfl) (.tmp 30) (.tmp 31) 24 5 (.int .u8 0) 1 rfl Try.underlying24 info5 rfl (by decide) (by omega) v305 y304 l0 _ _ _ (fun _ => True) (fun _ => False) rfl rfl ?aO ?aR (fun _ _ h => h) (fun _ h => h.elim) ?aF ?aB ?aS ?aL ?_
       (case aR => repeat (first | exact (Kd.C_below HR0.out HB.out) | (with_reducible refine Kd.C_alloc ?_ _) | (with_reducible refine Kd.C_drewN ?_ _) | (with_reducible refine Kd.C_drew ?_)))
       (case aB => exact (by repeat (first | (with_reducible first | exact HB.out | apply lA | apply lN | apply lW | refine lS ?_ GE300.out) | exact HB.out)))
       (case aF => exact (fun _ _ => trivial))
       (case aO => exact (by (with_reducible repeat (first | apply rA | apply rN | apply rW)); exact HO306.out))
       (case aS => exact (lZ (by repeat (first | (with_reducible first | exact HB.out | apply lA | apply lN | apply lW | refine lS ?_ GE300.out) | exact HB.out))))
       (case aL => have := LMc20.out; omega)
       intro v308 w25 ho hb hg hat
       rw [← Ny307.out] at ho
       have n0_ := aM (blk_grown (g := gb300) (o := .cells #[.int .i64 a1_0, .int .i64 a1_1, .bool a1_2, .bool a1_3, .int .i64 a1_4, .int .i64 a1_5] 23 (0, 0)) (by (with_reducible repeat (first | refine bN ?_ _ | refine bW ?_ | refine bA ?_ _)); exact BK300.out) hg (Kd.R_ne HO306.out BK300.out (by decide)))
       have n1_ := aM (hb)
       have n2_ := aM (ho)
       clear BK300
       clear HB
       clear HO306
       have BK300 := n0_
       have HB := n1_
       have HO309 := n2_
       clear n0_ n1_ n2_
       clear ho hb hg hat
       refine hK.out _ _ ⟨(bC BK300.out 0).trans rfl, (bC BK300.out 1).trans rfl, (bC BK300.out 2).trans rfl, (bC BK300.out 3).trans rfl, (bC BK300.out 4).trans rfl, (bC BK300.out 5).trans rfl⟩ (fun hHeld => ?_)
       clear hK K
       refine norm_ (a' := ?_) ?_ ?_
       rotate_left
       ·show Act.put _ (some 32) _ = _
        simp only [Act.put, sT, sZ, sS, i64_w, i32_w]
        rfl
       refine one_ (i := 4) (N := some 34) #[true, true, true, true, true, false, false] rfl rfl (by kernel_rfl) (by decide) (fun K hK => ?_)
       refine goes_ Try.func20 (by kernel_rfl) rfl #[.agg #[.int .i64 a1_0, .int .i64 a1_1, .bool a1_2, .bool a1_3, .int .i64 a1_4, .int .i64 a1_5]] (by rfl) rfl rfl (by (try simp only [List.map_toArray, List.map_cons, List.map_nil]); first | done | rfl | (simp only [List.length_drop, List.length_take]; rfl)) ?_
       with_reducible refine (phaetonref15_Places.calls kj15 a1_0 a1_1 a1_2 a1_3 a1_4 a1_5 t310 _ A21.out).mono ?_
       rintro e w26 ⟨v311, rfl, ho0, hb⟩
       refine ⟨_, rfl, ?_⟩
       have n0_ := aM (Kd.R_below (by (with_reducible repeat (first | apply rA | apply rN | apply rW)); exact HO309.out) hb)
       have n1_ := aM (Kd.R_lower ho0 (lZ (by repeat (first | (with_reducible first | exact HB.out | apply lA | apply lN | apply lW | refine lS ?_ GE300.out) | exact HB.out))))
       have n2_ := aM (blk_below (g := gb300) (o := .cells #[.int .i64 a1_0, .int .i64 a1_1, .bool a1_2, .bool a1_3, .int .i64 a1_4, .int .i64 a1_5] 23 (0, 0)) (by (with_reducible repeat (first | refine bN ?_ _ | refine bW ?_ | refine bA ?_ _)); exact BK300.out) hb)
       have n3_ := aM (lT (by repeat (first | (with_reducible first | exact HB.out | apply lA | apply lN | apply lW | refine lS ?_ GE300.out) | exact HB.out)) hb)
       clear HO309
       clear BK300
       clear HB
       have HO309 := n0_
       have HO312 := n1_
       have BK300 := n2_
       have HB := n3_
       clear n0_ n1_ n2_ n3_
       (try clear hb)
       (try clear hb2)
       (try clear hk)
       (try clear hi)
       (try clear ho0)
       refine hK.out _ _ ⟨(bC BK300.out 0).trans rfl, (bC BK300.out 1).trans rfl, (bC BK300.out 2).trans rfl, (bC BK300.out 3).trans rfl, (bC BK300.out 4).trans rfl, (bC BK300.out 5).trans rfl⟩ (fun hHeld => ?_)
       clear hK K
       refine norm_ (a' := ?_) ?_ ?_
       rotate_left
       ·show Act.put _ (some 34) _ = _
        simp only [Act.put, sT, sZ, sS, i64_w, i32_w]
        rfl
       refine pure_ (i := 5) (N := some 8) (v := ?_) (a' := ?_) #[true, true, true, true, true, true, false] rfl rfl (by kernel_rfl) (fun _ _ _ h => h) (Or.inl ⟨by rfl, ?_⟩) ?_ ?_
       rotate_left
       ·intro w'
        go_simp
        with_reducible rfl
       rotate_left
       ·simp only [Act.put, sT, sZ, sS, i64_w, i32_w]
        rfl
       refine pure_ (i := 6) (N := some 9) (v := ?_) (a' := ?_) #[true, true, true, true, true, true, true] rfl rfl (by kernel_rfl) (fun _ _ _ h => h) (Or.inl ⟨by rfl, ?_⟩) ?_ ?_
       rotate_left
       ·intro w'
        go_simp
        with_reducible rfl
       rotate_left
       ·simp only [Act.put, sT, sZ, sS, i64_w, i32_w]
        rfl
       refine done_ (by kernel_rfl) ?_
       try go_wp2
       go_loopg [2, 10] kj15 (fun kq v2 v10 w' => ∃ (x2_3 : Int) (x8_3 : List Int) (x10_3 : Int), v2 = .int .i64 x2_3 ∧ v10 = .int .i64 x10_3 ∧ Aside0 (phaetonref15_Put.l0 kq x2_3 x8_3 t310 x10_3 = some (r1, r2)) ∧ Aside0 (kq ≤ kj15) ∧ Aside0 (Kd.R (Kd.int .u8) 5 w' w.heap.size (fun _ => True) v308 x8_3) ∧ Aside0 (Kd.R (Kd.int .i64) 3 w' w.heap.size (fun _ => True) v311 t310) ∧ Aside0 (w'.heap[gb300]? = some (.cells #[.int .i64 a1_0, .int .i64 a1_1, .bool a1_2, .bool a1_3, .int .i64 a1_4, .int .i64 a1_5] 23 (0, 0))) ∧ Aside0 (Below w.heap.size w w'))
       case atStart => exact ⟨(x2_15), (y307), (0), (by first | rfl | (simp; done) | (simp [*]; done)), (by first | rfl | (simp; done) | (simp [*]; done)), H', ⟨Nat.le_refl _⟩, ⟨by (with_reducible repeat (first | apply rA | apply rN | apply rW)); exact HO309.out⟩, ⟨by (with_reducible repeat (first | apply rA | apply rN | apply rW)); exact HO312.out⟩, ⟨by (with_reducible repeat (first | refine bN ?_ _ | refine bW ?_ | refine bA ?_ _)); exact BK300.out⟩, ⟨by repeat (first | (with_reducible first | exact HB.out | apply lA | apply lN | apply lW | refine lS ?_ GE300.out) | exact HB.out)⟩⟩
       case round =>
        clear H'
        try clear c1
        try clear c2
        try clear p2
        try clear c3
        try clear p6
        try clear c7
        try clear c13
        try clear c15
        try clear c17
        try clear c17b0
        try clear c20
        try clear hcz11_0
        try clear hcz11_1
        try clear hcz11_2
        try clear hcz11_3
        try clear hcz11_4
        try clear hcz11_5
        try clear hcz13_0
        try clear hcz13_1
        try clear hcz13_2
        try clear hcz13_3
        try clear hcz13_4
        try clear hcz13_5
        try clear hcz19_0
        try clear hcz19_1
        try clear hcz19_2
        try clear hcz19_3
        try clear hcz19_4
        try clear hcz19_5
        try clear hcz9_0
        try clear hcz9_1
        try clear hcz9_2
        try clear hcz9_3
        try clear hcz9_4
        try clear hcz9_5
        try clear hfz11_0
        try clear hfz11_1
        try clear hfz11_2
        try clear hfz11_3
        try clear hfz11_4
        try clear hfz11_5
        try clear hfz13_0
        try clear hfz13_1
        try clear hfz13_2
        try clear hfz13_3
        try clear hfz13_4
        try clear hfz13_5
        try clear hfz19_0
        try clear hfz19_1
        try clear hfz19_2
        try clear hfz19_3
        try clear hfz19_4
        try clear hfz19_5
        try clear hfz9_0
        try clear hfz9_1
        try clear hfz9_2
        try clear hfz9_3
        try clear hfz9_4
        try clear hfz9_5
        try clear p2
        try clear p6
        obtain ⟨x2_3, x8_3, x10_3, rfl, rfl, HA, HK3, HO_8, HO_9, BK300, HB⟩ := hrel
        cases gk with
        | zero => exact absurd HA.out (by simp [phaetonref15_Put.l0])
        | succ k3 =>
         have H := HA.out
         clear HA
         simp only [phaetonref15_Put.l0] at H
         by_cases c27 : x10_3 < (t310.length : Int)
         ·rw [if_pos c27] at H
          have c27b0 : decide (x10_3 < (t310.length : Int)) = true := decide_eq_true c27
          clear c27
          by_cases c28 : 0 ≤ x10_3
          ·rw [if_pos c28] at H
           have c28b0 : decide (0 ≤ x10_3) = true := decide_eq_true c28
           clear c28
           obtain ⟨ji29, hji29⟩ : ∃ j_ : Int, (wrap64 (Int.tdiv (rd t310 x10_3) 8)) = j_ := ⟨_, rfl⟩
           replace H : (if 0 ≤ (ji29) then (if (ji29) < (x8_3.length : Int) then ((phaetonref15_power.f k3 (Int.tmod (rd t310 x10_3) 8)).bind fun t316 => (if t316 = 0 then (none) else ((phaetonref15_power.f k3 (Int.tmod (rd t310 x10_3) 8)).bind fun t321 => (phaetonref15_Put.l0 k3 (wrap64 (Int.tdiv x2_3 2)) (x8_3.set ((ji29) : Int).toNat ((wrap64 ((wrap64 (rd x8_3 (ji29))) + (wrap64 ((wrap64 ((Int.tmod x2_3 2) - (Int.tmod (wrap64 (Int.tdiv (wrap64 (rd x8_3 (ji29))) t316)) 2))) * t321)))) % 256)) t310 (wrap64 (x10_3 + 1)))))) else (none)) else (none)) = some (r1, r2) := by first | (rw [hji29] at H; exact H) | (simp only [hji29] at H ⊢; exact H)
           have hji29w : (IntKind.i64.wrap (Int.tdiv (rd t310 x10_3) 8)) = ji29 := (i64_w _).trans hji29
           by_cases c30 : 0 ≤ (ji29)
           ·rw [if_pos c30] at H
            have c30b0 : decide (0 ≤ (ji29)) = true := decide_eq_true c30
            clear c30
            by_cases c31 : (ji29) < (x8_3.length : Int)
            ·rw [if_pos c31] at H
             have c31b0 : decide ((ji29) < (x8_3.length : Int)) = true := decide_eq_true c31
             clear c31
             replace H := Option.bind_eq_some_iff.mp H
             obtain ⟨t316, A320, H⟩ := H
             replace H : (if t316 = 0 then (none) else ((phaetonref15_power.f k3 (Int.tmod (rd t310 x10_3) 8)).bind fun t321 => (phaetonref15_Put.l0 k3 (wrap64 (Int.tdiv x2_3 2)) (x8_3.set ((ji29) : Int).toNat ((wrap64 ((wrap64 (rd x8_3 (ji29))) + (wrap64 ((wrap64 ((Int.tmod x2_3 2) - (Int.tmod (wrap64 (Int.tdiv (wrap64 (rd x8_3 (ji29))) t316)) 2))) * t321)))) % 256)) t310 (wrap64 (x10_3 + 1))))) = some (r1, r2) := H
             have A32 := aM A320
             clear A320
             by_cases c33 : t316 = 0
             ·rw [if_pos c33] at H
              exact absurd H (by simp)
             ·rw [if_neg c33] at H
              have c33b0 : (t316 == 0) = false := nF c33
              have c33b1 : (t316 != 0) = true := nT c33
              replace H := Option.bind_eq_some_iff.mp H
              obtain ⟨t321, A340, H⟩ := H
              replace H : (phaetonref15_Put.l0 k3 (wrap64 (Int.tdiv x2_3 2)) (x8_3.set ((ji29) : Int).toNat ((wrap64 ((wrap64 (rd x8_3 (ji29))) + (wrap64 ((wrap64 ((Int.tmod x2_3 2) - (Int.tmod (wrap64 (Int.tdiv (wrap64 (rd x8_3 (ji29))) t316)) 2))) * t321)))) % 256)) t310 (wrap64 (x10_3 + 1))) = some (r1, r2) := H
              have A34 := aM A340
              clear A340
              obtain ⟨y322, hy322⟩ : ∃ y_ : List Int, y_ = (x8_3.set ((ji29) : Int).toNat ((wrap64 ((wrap64 (rd x8_3 (ji29))) + (wrap64 ((wrap64 ((Int.tmod x2_3 2) - (Int.tmod (wrap64 (Int.tdiv (wrap64 (rd x8_3 (ji29))) t316)) 2))) * t321)))) % 256)) := ⟨_, rfl⟩
              replace H : (phaetonref15_Put.l0 k3 (wrap64 (Int.tdiv x2_3 2)) y322 t310 (wrap64 (x10_3 + 1))) = some (r1, r2) := by first | (rw [hy322]; with_reducible exact H) | (have H2_ := (Option.bind_some _ _).symm.trans H; rw [hy322]; with_reducible exact H2_) | (have H2_ := (Option.bind_some _ _).symm.trans H; with_reducible exact H2_) | with_reducible exact H | (rw [hy322]; exact H) | exact H
              have Ny322 := aM hy322
              clear hy322
              have H' := aM H
              clear H
              obtain ⟨Ao36, co36, eo36⟩ := Kd.R_slice HO_9.out
              subst eo36
              try go_wp2
              have n0_ := aM (rW HO_8.out)
              have n1_ := aM (rW HO_9.out)
              have n2_ := aM (bW BK300.out)
              have n3_ := aM (lW HB.out)
              clear HO_8
              clear HO_9
              clear BK300
              clear HB
              have HO_8 := n0_
              have HO_9 := n1_
              have BK300 := n2_
              have HB := n3_
              clear n0_ n1_ n2_ n3_
              have p313 : 0 ≤ (x10_3 : Int) := oD (by first | (with_reducible assumption) | assumption)
              have q313 : x10_3 < (t310.length : Int) := oD (by first | (with_reducible assumption) | assumption)
              obtain ⟨ad313, e313, hx313_0⟩ := Kd.at_int (Kd.R_reads' HO_9.out).2.2 x10_3 p313 q313
              cases e313
              replace p313 := eq_true p313
              replace q313 := eq_true q313
              obtain ⟨Ao38, co38, eo38⟩ := Kd.R_slice HO_8.out
              (first | subst eo38 | (injection eo38 with f1_ f2_ f3_; have f4_ := f1_.symm; have f5_ := f3_.symm; clear f1_ f2_ f3_; subst f4_; subst f5_))
              have p314 : 0 ≤ ((ji29) : Int) := oD (by first | (with_reducible assumption) | assumption)
              have q314 : (ji29) < (x8_3.length : Int) := oD (by first | (with_reducible assumption) | assumption)
              obtain ⟨ad314, e314, hx314_0⟩ := Kd.at_int (Kd.R_reads' HO_8.out).2.2 (ji29) p314 q314
              cases e314
              replace p314 := eq_true p314
              replace q314 := eq_true q314
              have p315 : 0 ≤ (x10_3 : Int) := oD (by first | (with_reducible assumption) | assumption)
              have q315 : x10_3 < (t310.length : Int) := oD (by first | (with_reducible assumption) | assumption)
              obtain ⟨ad315, e315, hx315_0⟩ := Kd.at_int (Kd.R_reads' HO_9.out).2.2 x10_3 p315 q315
              obtain rfl : ad313 = ad315 := (by injection e315)
              replace p315 := eq_true p315
              replace q315 := eq_true q315
              refine start_ (n := 18) (S := fun w' => w'.cell? (ad313.add (x10_3).toNat) = some (.int .i64 (rd t310 x10_3)) ∧ w'.cell? (ad314.add ((ji29)).toNat) = some (.int .u8 (rd x8_3 (ji29))) ∧ w'.cell? (ad313.add (x10_3).toNat) = some (.int .i64 (rd t310 x10_3))) (ds := []) #[false, false, false, false, false, false, false, false, false, false, false, false, false, false, false, false, false, false] (by kernel_rfl) rfl rfl ⟨hx313_0, hx314_0, hx315_0⟩ (fun hHeld => ?_); refine with_tabW phaetonref15_Put.tab9 phaetonref15_Put.bits9 (fun HT_ HW_ => ?_)
              generalize wr.drew = w37 at HO_8 HO_9 BK300 HB hx313_0 hx314_0 hx315_0 hHeld ⊢
              refine pure_ (i := 0) (N := some 41) (v := ?_) (a' := ?_) #[true, false, false, false, false, false, false, false, false, false, false, false, false, false, false, false, false, false] rfl rfl (any_of HT_.out (by kernel_rfl)) (fun _ _ _ h => h) (Or.inl ⟨by rfl, ?_⟩) ?_ ?_
              rotate_left
              ·intro w'
               go_simp
               with_reducible rfl
              rotate_left
              ·simp only [Act.put, sT, sZ, sS, i64_w, i32_w]
               rfl
              refine pure_ (i := 1) (N := some 42) (v := ?_) (a' := ?_) #[true, true, false, false, false, false, false, false, false, false, false, false, false, false, false, false, false, false] rfl rfl (any_of HT_.out (by kernel_rfl)) (fun _ _ _ h => h) (Or.inl ⟨by rfl, ?_⟩) ?_ ?_
              rotate_left
              ·intro w'
               go_simp
               with_reducible rfl
              rotate_left
              ·simp only [Act.put, sT, sZ, sS, i64_w, i32_w]
               rfl
              refine pure_ (i := 2) (N := some 43) (v := ?_) (a' := ?_) #[true, true, true, false, false, false, false, false, false, false, false, false, false, false, false, false, false, false] rfl rfl (any_of HT_.out (by kernel_rfl)) (fun _ _ _ h => h) (Or.inl ⟨by rfl, ?_⟩) ?_ ?_
              rotate_left
              ·intro w'
               go_simp
               with_reducible rfl
              rotate_left
              ·simp only [Act.put, sT, sZ, sS, i64_w, i32_w]
               rfl
              refine pure_ (i := 3) (N := some 44) (v := ?_) (a' := ?_) #[true, true, true, true, false, false, false, false, false, false, false, false, false, false, false, false, false, false] rfl rfl (any_of HT_.out (by kernel_rfl)) (fun _ _ _ h => h) (Or.inl ⟨by rfl, ?_⟩) ?_ ?_
              rotate_left
              ·intro w'
               go_simp
               with_reducible rfl
              rotate_left
              ·simp only [Act.put, sT, sZ, sS, i64_w, i32_w]
               rfl
              refine pure_ (i := 9) (N := some 50) (v := ?_) (a' := ?_) #[true, true, true, true, false, false, false, false, false, true, false, false, false, false, false, false, false, false] rfl rfl (any_of HT_.out (by kernel_rfl)) (fun _ _ _ h => h) (Or.inl ⟨by rfl, ?_⟩) ?_ ?_
              rotate_left
              ·intro w'
               go_simp
               with_reducible rfl
              rotate_left
              ·simp only [Act.put, sT, sZ, sS, i64_w, i32_w]
               rfl
              refine pure_ (i := 10) (N := some 51) (v := ?_) (a' := ?_) #[true, true, true, true, false, false, false, false, false, true, true, false, false, false, false, false, false, false] rfl rfl (any_of HT_.out (by kernel_rfl)) (fun _ _ _ h => h) (Or.inl ⟨by rfl, ?_⟩) ?_ ?_
              rotate_left
              ·intro w'
               go_simp
               with_reducible rfl
              rotate_left
              ·simp only [Act.put, sT, sZ, sS, i64_w, i32_w]
               rfl
              refine pure_ (i := 11) (N := some 52) (v := ?_) (a' := ?_) #[true, true, true, true, false, false, false, false, false, true, true, true, false, false, false, false, false, false] rfl rfl (any_of HT_.out (by kernel_rfl)) (fun _ _ _ h => h) (Or.inl ⟨by rfl, ?_⟩) ?_ ?_
              rotate_left
              ·intro w'
               go_simp
               with_reducible rfl
              rotate_left
              ·simp only [Act.put, sT, sZ, sS, i64_w, i32_w]
               rfl
              refine take_ (i := 4) (N := some 45) (v := ?_) (a' := ?_) #[true, true, true, true, true, false, false, false, false, true, true, true, false, false, false, false, false, false] rfl rfl (take_ofW HT_.out HW_.out (by kernel_rfl)) (fun _ _ _ h => h) (Or.inl ⟨by rfl, ?_⟩) hHeld ?_ ?_
              rotate_left
              ·rintro w' ⟨s0, s1, s2⟩
               go_simp
               with_reducible rfl
              rotate_left
              ·simp only [Act.put, sT, sZ, sS, i64_w, i32_w]
               rfl
              refine pure_ (i := 5) (N := some 46) (v := ?_) (a' := ?_) #[true, true, true, true, true, true, false, false, false, true, true, true, false, false, false, false, false, false] rfl rfl (any_of HT_.out (by kernel_rfl)) (fun _ _ _ h => h) (Or.inl ⟨by rfl, ?_⟩) ?_ ?_
              rotate_left
              ·intro w'
               go_simp
               with_reducible rfl
              rotate_left
              ·simp only [Act.put, sT, sZ, sS, i64_w, i32_w]
               rfl
              refine pure_ (i := 6) (N := some 47) (v := ?_) (a' := ?_) #[true, true, true, true, true, true, true, false, false, true, true, true, false, false, false, false, false, false] rfl rfl (any_of HT_.out (by kernel_rfl)) (fun _ _ _ h => h) (Or.inl ⟨by rfl, ?_⟩) ?_ ?_
              rotate_left
              ·intro w'
               go_simp
               with_reducible rfl
              rotate_left
              ·simp only [Act.put, sT, sZ, sS, i64_w, i32_w]
               rfl
              refine take_ (i := 7) (N := some 48) (v := ?_) (a' := ?_) #[true, true, true, true, true, true, true, true, false, true, true, true, false, false, false, false, false, false] rfl rfl (take_ofW HT_.out HW_.out (by kernel_rfl)) (fun _ _ _ h => h) (Or.inl ⟨by rfl, ?_⟩) hHeld ?_ ?_
              rotate_left
              ·rintro w' ⟨s0, s1, s2⟩
               go_simp
               with_reducible rfl
              rotate_left
              ·simp only [Act.put, sT, sZ, sS, i64_w, i32_w]
               rfl
              refine pure_ (i := 8) (N := some 49) (v := ?_) (a' := ?_) #[true, true, true, true, true, true, true, true, true, true, true, true, false, false, false, false, false, false] rfl rfl (any_of HT_.out (by kernel_rfl)) (fun _ _ _ h => h) (Or.inl ⟨by rfl, ?_⟩) ?_ ?_
              rotate_left
              ·intro w'
               go_simp
               with_reducible rfl
              rotate_left
              ·simp only [Act.put, sT, sZ, sS, i64_w, i32_w]
               rfl
              refine take_ (i := 12) (N := some 53) (v := ?_) (a' := ?_) #[true, true, true, true, true, true, true, true, true, true, true, true, true, false, false, false, false, false] rfl rfl (take_ofW HT_.out HW_.out (by kernel_rfl)) (fun _ _ _ h => h) (Or.inl ⟨by rfl, ?_⟩) hHeld ?_ ?_
              rotate_left
              ·rintro w' ⟨s0, s1, s2⟩
               go_simp
               with_reducible rfl
              rotate_left
              ·simp only [Act.put, sT, sZ, sS, i64_w, i32_w]
               rfl
              refine pure_ (i := 13) (N := some 54) (v := ?_) (a' := ?_) #[true, true, true, true, true, true, true, true, true, true, true, true, true, true, false, false, false, false] rfl rfl (any_of HT_.out (by kernel_rfl)) (fun _ _ _ h => h) (Or.inl ⟨by rfl, ?_⟩) ?_ ?_
              rotate_left
              ·intro w'
               go_simp
               with_reducible rfl
              rotate_left
              ·simp only [Act.put, sT, sZ, sS, i64_w, i32_w]
               rfl
              refine one_ (i := 14) (N := some 55) #[true, true, true, true, true, true, true, true, true, true, true, true, true, true, true, false, false, false] rfl rfl (one_of HT_.out (by kernel_rfl)) (by decide) (fun K hK => ?_)
              refine goes_ Try.func30 (by kernel_rfl) rfl #[.int .i64 (Int.tmod (rd t310 x10_3) 8)] (by rfl) rfl rfl (by (try simp only [List.map_toArray, List.map_cons, List.map_nil]); first | done | rfl | (simp only [List.length_drop, List.length_take]; rfl)) ?_
              with_reducible refine (phaetonref15_power.calls k3 (Int.tmod (rd t310 x10_3) 8) t316 _ A32.out).mono ?_
              rintro e w' ⟨rfl, ⟨nd, rfl⟩⟩
              refine ⟨_, rfl, ?_⟩
              refine hK.out _ _ ⟨hHeld.1, hHeld.2.1, hHeld.2.2⟩ (fun hHeld => ?_)
              clear hK K
              refine norm_ (a' := ?_) ?_ ?_
              rotate_left
              ·show Act.put _ (some 55) _ = _
               simp only [Act.put, sT, sZ, sS, i64_w, i32_w]
               rfl
              refine pure_ (i := 15) (N := some 56) (v := ?_) (a' := ?_) #[true, true, true, true, true, true, true, true, true, true, true, true, true, true, true, true, false, false] rfl rfl (any_of HT_.out (by kernel_rfl)) (fun _ _ _ h => h) (Or.inl ⟨by rfl, ?_⟩) ?_ ?_
              rotate_left
              ·intro w'
               go_simp
               with_reducible rfl
              rotate_left
              ·simp only [Act.put, sT, sZ, sS, i64_w, i32_w]
               rfl
              refine pure_ (i := 16) (N := some 57) (v := ?_) (a' := ?_) #[true, true, true, true, true, true, true, true, true, true, true, true, true, true, true, true, true, false] rfl rfl (any_of HT_.out (by kernel_rfl)) (fun _ _ _ h => h) (Or.inl ⟨by rfl, ?_⟩) ?_ ?_
              rotate_left
              ·intro w'
               go_simp
               with_reducible rfl
              rotate_left
              ·simp only [Act.put, sT, sZ, sS, i64_w, i32_w]
               rfl
              refine pure_ (i := 17) (N := some 11) (v := ?_) (a' := ?_) #[true, true, true, true, true, true, true, true, true, true, true, true, true, true, true, true, true, true] rfl rfl (any_of HT_.out (by kernel_rfl)) (fun _ _ _ h => h) (Or.inl ⟨by rfl, ?_⟩) ?_ ?_
              rotate_left
              ·intro w'
               go_simp
               with_reducible rfl
              rotate_left
              ·simp only [Act.put, sT, sZ, sS, i64_w, i32_w]
               rfl
              refine done_ (done_of HT_.out (by kernel_rfl)) ?_
              try go_wp2
              (try (rw [drewN_self w37]; generalize hq_ : World.drewN w37 _ = w37; have n0_ : Aside0 (Kd.R (Kd.int .u8) 5 w37 w.heap.size (fun _ => True) (.slice (some ad314) x8_3.length co38) x8_3) := ⟨by rw [← hq_]; exact (by (with_reducible repeat (first | apply rA | apply rN | apply rW)); exact HO_8.out)⟩; have n1_ : Aside0 (Kd.R (Kd.int .i64) 3 w37 w.heap.size (fun _ => True) (.slice (some ad313) t310.length co36) t310) := ⟨by rw [← hq_]; exact (by (with_reducible repeat (first | apply rA | apply rN | apply rW)); exact HO_9.out)⟩; have n2_ : Aside0 (w37.heap[gb300]? = some (.cells #[.int .i64 a1_0, .int .i64 a1_1, .bool a1_2, .bool a1_3, .int .i64 a1_4, .int .i64 a1_5] 23 (0, 0))) := ⟨by rw [← hq_]; exact (by (with_reducible repeat (first | refine bN ?_ _ | refine bW ?_ | refine bA ?_ _)); exact BK300.out)⟩; have n3_ : Aside0 (Below w.heap.size w w37) := ⟨by rw [← hq_]; exact (by repeat (first | (with_reducible first | exact HB.out | apply lA | apply lN | apply lW | refine lS ?_ GE300.out) | exact HB.out))⟩; clear HO_8 HO_9 BK300 HB hq_; have HO_8 := n0_; have HO_9 := n1_; have BK300 := n2_; have HB := n3_; clear n0_ n1_ n2_ n3_))
              have n0_ := aM (rW HO_8.out)
              have n1_ := aM (rW HO_9.out)
              have n2_ := aM (bW BK300.out)
              have n3_ := aM (lW HB.out)
              clear HO_8
              clear HO_9
              clear BK300
              clear HB
              have HO_8 := n0_
              have HO_9 := n1_
              have BK300 := n2_
              have HB := n3_
              clear n0_ n1_ n2_ n3_
              have p317 : 0 ≤ (x10_3 : Int) := oD (by first | (with_reducible assumption) | assumption)
              have q317 : x10_3 < (t310.length : Int) := oD (by first | (with_reducible assumption) | assumption)
              obtain ⟨ad317, e317, hx317_0⟩ := Kd.at_int (Kd.R_reads' HO_9.out).2.2 x10_3 p317 q317
              obtain rfl : ad313 = ad317 := (by injection e317)
              replace p317 := eq_true p317
              replace q317 := eq_true q317
              have p318 : 0 ≤ (x10_3 : Int) := oD (by first | (with_reducible assumption) | assumption)
              have q318 : x10_3 < (t310.length : Int) := oD (by first | (with_reducible assumption) | assumption)
              obtain ⟨ad318, e318, hx318_0⟩ := Kd.at_int (Kd.R_reads' HO_9.out).2.2 x10_3 p318 q318
              obtain rfl : ad313 = ad318 := (by injection e318)
              replace p318 := eq_true p318
              replace q318 := eq_true q318
              have p319 : 0 ≤ ((ji29) : Int) := oD (by first | (with_reducible assumption) | assumption)
              have q319 : (ji29) < (x8_3.length : Int) := oD (by first | (with_reducible assumption) | assumption)
              obtain ⟨ad319, e319, hx319_0⟩ := Kd.at_int (Kd.R_reads' HO_8.out).2.2 (ji29) p319 q319
              obtain rfl : ad314 = ad319 := (by injection e319)
              replace p319 := eq_true p319
              replace q319 := eq_true q319
              have p320 : 0 ≤ (x10_3 : Int) := oD (by first | (with_reducible assumption) | assumption)
              have q320 : x10_3 < (t310.length : Int) := oD (by first | (with_reducible assumption) | assumption)
              obtain ⟨ad320, e320, hx320_0⟩ := Kd.at_int (Kd.R_reads' HO_9.out).2.2 x10_3 p320 q320
              obtain rfl : ad313 = ad320 := (by injection e320)
              replace p320 := eq_true p320
              replace q320 := eq_true q320
              refine start_ (n := 30) (S := fun w' => w'.cell? (ad313.add (x10_3).toNat) = some (.int .i64 (rd t310 x10_3)) ∧ w'.cell? (ad313.add (x10_3).toNat) = some (.int .i64 (rd t310 x10_3)) ∧ w'.cell? (ad314.add ((ji29)).toNat) = some (.int .u8 (rd x8_3 (ji29))) ∧ w'.cell? (ad313.add (x10_3).toNat) = some (.int .i64 (rd t310 x10_3))) (ds := [29]) #[false, false, false, false, false, false, false, false, false, false, false, false, false, false, false, false, false, false, false, false, false, false, false, false, false, false, false, false, false, false] (by kernel_rfl) rfl rfl ⟨hx317_0, hx318_0, hx319_0, hx320_0⟩ (fun hHeld => ?_); refine with_tabW phaetonref15_Put.tab10 phaetonref15_Put.bits10 (fun HT_ HW_ => ?_)
              generalize w37.drew = w39 at HO_8 HO_9 BK300 HB hx317_0 hx318_0 hx319_0 hx320_0 hHeld ⊢
              refine pure_ (i := 0) (N := some 58) (v := ?_) (a' := ?_) #[true, false, false, false, false, false, false, false, false, false, false, false, false, false, false, false, false, false, false, false, false, false, false, false, false, false, false, false, false, false] rfl rfl (any_of HT_.out (by kernel_rfl)) (fun _ _ _ h => h) (Or.inl ⟨by rfl, ?_⟩) ?_ ?_
              rotate_left
              ·intro w'
               go_simp
               with_reducible rfl
              rotate_left
              ·simp only [Act.put, sT, sZ, sS, i64_w, i32_w]
               rfl
              refine pure_ (i := 1) (N := some 59) (v := ?_) (a' := ?_) #[true, true, false, false, false, false, false, false, false, false, false, false, false, false, false, false, false, false, false, false, false, false, false, false, false, false, false, false, false, false] rfl rfl (any_of HT_.out (by kernel_rfl)) (fun _ _ _ h => h) (Or.inl ⟨by rfl, ?_⟩) ?_ ?_
              rotate_left
              ·intro w'
               go_simp
               with_reducible rfl
              rotate_left
              ·simp only [Act.put, sT, sZ, sS, i64_w, i32_w]
               rfl
              refine pure_ (i := 2) (N := some 60) (v := ?_) (a' := ?_) #[true, true, true, false, false, false, false, false, false, false, false, false, false, false, false, false, false, false, false, false, false, false, false, false, false, false, false, false, false, false] rfl rfl (any_of HT_.out (by kernel_rfl)) (fun _ _ _ h => h) (Or.inl ⟨by rfl, ?_⟩) ?_ ?_
              rotate_left
              ·intro w'
               go_simp
               with_reducible rfl
              rotate_left
              ·simp only [Act.put, sT, sZ, sS, i64_w, i32_w]
               rfl
              refine pure_ (i := 3) (N := some 61) (v := ?_) (a' := ?_) #[true, true, true, true, false, false, false, false, false, false, false, false, false, false, false, false, false, false, false, false, false, false, false, false, false, false, false, false, false, false] rfl rfl (any_of HT_.out (by kernel_rfl)) (fun _ _ _ h => h) (Or.inl ⟨by rfl, ?_⟩) ?_ ?_
              rotate_left
              ·intro w'
               go_simp
               with_reducible rfl
              rotate_left
              ·simp only [Act.put, sT, sZ, sS, i64_w, i32_w]
               rfl
              refine pure_ (i := 6) (N := some 64) (v := ?_) (a' := ?_) #[true, true, true, true, false, false, true, false, false, false, false, false, false, false, false, false, false, false, false, false, false, false, false, false, false, false, false, false, false, false] rfl rfl (any_of HT_.out (by kernel_rfl)) (fun _ _ _ h => h) (Or.inl ⟨by rfl, ?_⟩) ?_ ?_
              rotate_left
              ·intro w'
               go_simp
               with_reducible rfl
              rotate_left
              ·simp only [Act.put, sT, sZ, sS, i64_w, i32_w]
               rfl
              refine pure_ (i := 7) (N := some 65) (v := ?_) (a' := ?_) #[true, true, true, true, false, false, true, true, false, false, false, false, false, false, false, false, false, false, false, false, false, false, false, false, false, false, false, false, false, false] rfl rfl (any_of HT_.out (by kernel_rfl)) (fun _ _ _ h => h) (Or.inl ⟨by rfl, ?_⟩) ?_ ?_
              rotate_left
              ·intro w'
               go_simp
               with_reducible rfl
              rotate_left
              ·simp only [Act.put, sT, sZ, sS, i64_w, i32_w]
               rfl
              refine pure_ (i := 8) (N := some 66) (v := ?_) (a' := ?_) #[true, true, true, true, false, false, true, true, true, false, false, false, false, false, false, false, false, false, false, false, false, false, false, false, false, false, false, false, false, false] rfl rfl (any_of HT_.out (by kernel_rfl)) (fun _ _ _ h => h) (Or.inl ⟨by rfl, ?_⟩) ?_ ?_
              rotate_left
              ·intro w'
               go_simp
               with_reducible rfl
              rotate_left
              ·simp only [Act.put, sT, sZ, sS, i64_w, i32_w]
               rfl
              refine pure_ (i := 9) (N := some 67) (v := ?_) (a' := ?_) #[true, true, true, true, false, false, true, true, true, true, false, false, false, false, false, false, false, false, false, false, false, false, false, false, false, false, false, false, false, false] rfl rfl (any_of HT_.out (by kernel_rfl)) (fun _ _ _ h => h) (Or.inl ⟨by rfl, ?_⟩) ?_ ?_
              rotate_left
              ·intro w'
               go_simp
               with_reducible rfl
              rotate_left
              ·simp only [Act.put, sT, sZ, sS, i64_w, i32_w]
               rfl
              refine pure_ (i := 15) (N := some 73) (v := ?_) (a' := ?_) #[true, true, true, true, false, false, true, true, true, true, false, false, false, false, false, true, false, false, false, false, false, false, false, false, false, false, false, false, false, false] rfl rfl (any_of HT_.out (by kernel_rfl)) (fun _ _ _ h => h) (Or.inl ⟨by rfl, ?_⟩) ?_ ?_
              rotate_left
              ·intro w'
               go_simp
               with_reducible rfl
              rotate_left
              ·simp only [Act.put, sT, sZ, sS, i64_w, i32_w]
               rfl
              refine pure_ (i := 16) (N := some 74) (v := ?_) (a' := ?_) #[true, true, true, true, false, false, true, true, true, true, false, false, false, false, false, true, true, false, false, false, false, false, false, false, false, false, false, false, false, false] rfl rfl (any_of HT_.out (by kernel_rfl)) (fun _ _ _ h => h) (Or.inl ⟨by rfl, ?_⟩) ?_ ?_
              rotate_left
              ·intro w'
               go_simp
               with_reducible rfl
              rotate_left
              ·simp only [Act.put, sT, sZ, sS, i64_w, i32_w]
               rfl
              refine pure_ (i := 17) (N := some 75) (v := ?_) (a' := ?_) #[true, true, true, true, false, false, true, true, true, true, false, false, false, false, false, true, true, true, false, false, false, false, false, false, false, false, false, false, false, false] rfl rfl (any_of HT_.out (by kernel_rfl)) (fun _ _ _ h => h) (Or.inl ⟨by rfl, ?_⟩) ?_ ?_
              rotate_left
              ·intro w'
               go_simp
               with_reducible rfl
              rotate_left
              ·simp only [Act.put, sT, sZ, sS, i64_w, i32_w]
               rfl
              refine pure_ (i := 18) (N := some 76) (v := ?_) (a' := ?_) #[true, true, true, true, false, false, true, true, true, true, false, false, false, false, false, true, true, true, true, false, false, false, false, false, false, false, false, false, false, false] rfl rfl (any_of HT_.out (by kernel_rfl)) (fun _ _ _ h => h) (Or.inl ⟨by rfl, ?_⟩) ?_ ?_
              rotate_left
              ·intro w'
               go_simp
               with_reducible rfl
              rotate_left
              ·simp only [Act.put, sT, sZ, sS, i64_w, i32_w]
               rfl
              refine pure_ (i := 19) (N := some 77) (v := ?_) (a' := ?_) #[true, true, true, true, false, false, true, true, true, true, false, false, false, false, false, true, true, true, true, true, false, false, false, false, false, false, false, false, false, false] rfl rfl (any_of HT_.out (by kernel_rfl)) (fun _ _ _ h => h) (Or.inl ⟨by rfl, ?_⟩) ?_ ?_
              rotate_left
              ·intro w'
               go_simp
               with_reducible rfl
              rotate_left
              ·simp only [Act.put, sT, sZ, sS, i64_w, i32_w]
               rfl
              refine pure_ (i := 20) (N := some 78) (v := ?_) (a' := ?_) #[true, true, true, true, false, false, true, true, true, true, false, false, false, false, false, true, true, true, true, true, true, false, false, false, false, false, false, false, false, false] rfl rfl (any_of HT_.out (by kernel_rfl)) (fun _ _ _ h => h) (Or.inl ⟨by rfl, ?_⟩) ?_ ?_
              rotate_left
              ·intro w'
               go_simp
               with_reducible rfl
              rotate_left
              ·simp only [Act.put, sT, sZ, sS, i64_w, i32_w]
               rfl
              refine pure_ (i := 21) (N := some 79) (v := ?_) (a' := ?_) #[true, true, true, true, false, false, true, true, true, true, false, false, false, false, false, true, true, true, true, true, true, true, false, false, false, false, false, false, false, false] rfl rfl (any_of HT_.out (by kernel_rfl)) (fun _ _ _ h => h) (Or.inl ⟨by rfl, ?_⟩) ?_ ?_
              rotate_left
              ·intro w'
               go_simp
               with_reducible rfl
              rotate_left
              ·simp only [Act.put, sT, sZ, sS, i64_w, i32_w]
               rfl
              refine take_ (i := 4) (N := some 62) (v := ?_) (a' := ?_) #[true, true, true, true, true, false, true, true, true, true, false, false, false, false, false, true, true, true, true, true, true, true, false, false, false, false, false, false, false, false] rfl rfl (take_ofW HT_.out HW_.out (by kernel_rfl)) (fun _ _ _ h => h) (Or.inl ⟨by rfl, ?_⟩) hHeld ?_ ?_
              rotate_left
              ·rintro w' ⟨s0, s1, s2, s3⟩
               go_simp
               with_reducible rfl
              rotate_left
              ·simp only [Act.put, sT, sZ, sS, i64_w, i32_w]
               rfl
              refine pure_ (i := 5) (N := some 63) (v := ?_) (a' := ?_) #[true, true, true, true, true, true, true, true, true, true, false, false, false, false, false, true, true, true, true, true, true, true, false, false, false, false, false, false, false, false] rfl rfl (any_of HT_.out (by kernel_rfl)) (fun _ _ _ h => h) (Or.inl ⟨by rfl, ?_⟩) ?_ ?_
              rotate_left
              ·intro w'
               go_simp
               with_reducible rfl
              rotate_left
              ·simp only [Act.put, sT, sZ, sS, i64_w, i32_w]
               rfl
              refine take_ (i := 10) (N := some 68) (v := ?_) (a' := ?_) #[true, true, true, true, true, true, true, true, true, true, true, false, false, false, false, true, true, true, true, true, true, true, false, false, false, false, false, false, false, false] rfl rfl (take_ofW HT_.out HW_.out (by kernel_rfl)) (fun _ _ _ h => h) (Or.inl ⟨by rfl, ?_⟩) hHeld ?_ ?_
              rotate_left
              ·rintro w' ⟨s0, s1, s2, s3⟩
               go_simp
               with_reducible rfl
              rotate_left
              ·simp only [Act.put, sT, sZ, sS, i64_w, i32_w]
               rfl
              refine pure_ (i := 11) (N := some 69) (v := ?_) (a' := ?_) #[true, true, true, true, true, true, true, true, true, true, true, true, false, false, false, true, true, true, true, true, true, true, false, false, false, false, false, false, false, false] rfl rfl (any_of HT_.out (by kernel_rfl)) (fun _ _ _ h => h) (Or.inl ⟨by rfl, ?_⟩) ?_ ?_
              rotate_left
              ·intro w'
               go_simp
               with_reducible rfl
              rotate_left
              ·simp only [Act.put, sT, sZ, sS, i64_w, i32_w]
               rfl
              refine pure_ (i := 12) (N := some 70) (v := ?_) (a' := ?_) #[true, true, true, true, true, true, true, true, true, true, true, true, true, false, false, true, true, true, true, true, true, true, false, false, false, false, false, false, false, false] rfl rfl (any_of HT_.out (by kernel_rfl)) (fun _ _ _ h => h) (Or.inl ⟨by rfl, ?_⟩) ?_ ?_
              rotate_left
              ·intro w'
               go_simp
               with_reducible rfl
              rotate_left
              ·simp only [Act.put, sT, sZ, sS, i64_w, i32_w]
               rfl
              refine take_ (i := 13) (N := some 71) (v := ?_) (a' := ?_) #[true, true, true, true, true, true, true, true, true, true, true, true, true, true, false, true, true, true, true, true, true, true, false, false, false, false, false, false, false, false] rfl rfl (take_ofW HT_.out HW_.out (by kernel_rfl)) (fun _ _ _ h => h) (Or.inl ⟨by rfl, ?_⟩) hHeld ?_ ?_
              rotate_left
              ·rintro w' ⟨s0, s1, s2, s3⟩
               go_simp
               with_reducible rfl
              rotate_left
              ·simp only [Act.put, sT, sZ, sS, i64_w, i32_w]
               rfl
              refine pure_ (i := 14) (N := some 72) (v := ?_) (a' := ?_) #[true, true, true, true, true, true, true, true, true, true, true, true, true, true, true, true, true, true, true, true, true, true, false, false, false, false, false, false, false, false] rfl rfl (any_of HT_.out (by kernel_rfl)) (fun _ _ _ h => h) (Or.inl ⟨by rfl, ?_⟩) ?_ ?_
              rotate_left
              ·intro w'
               go_simp
               with_reducible rfl
              rotate_left
              ·simp only [Act.put, sT, sZ, sS, i64_w, i32_w]
               rfl
              refine take_ (i := 22) (N := some 80) (v := ?_) (a' := ?_) #[true, true, true, true, true, true, true, true, true, true, true, true, true, true, true, true, true, true, true, true, true, true, true, false, false, false, false, false, false, false] rfl rfl (take_ofW HT_.out HW_.out (by kernel_rfl)) (fun _ _ _ h => h) (Or.inl ⟨by rfl, ?_⟩) hHeld ?_ ?_
              rotate_left
              ·rintro w' ⟨s0, s1, s2, s3⟩
               go_simp
               with_reducible rfl
              rotate_left
              ·simp only [Act.put, sT, sZ, sS, i64_w, i32_w]
               rfl
              refine pure_ (i := 23) (N := some 81) (v := ?_) (a' := ?_) #[true, true, true, true, true, true, true, true, true, true, true, true, true, true, true, true, true, true, true, true, true, true, true, true, false, false, false, false, false, false] rfl rfl (any_of HT_.out (by kernel_rfl)) (fun _ _ _ h => h) (Or.inl ⟨by rfl, ?_⟩) ?_ ?_
              rotate_left
              ·intro w'
               go_simp
               with_reducible rfl
              rotate_left
              ·simp only [Act.put, sT, sZ, sS, i64_w, i32_w]
               rfl
              refine one_ (i := 24) (N := some 82) #[true, true, true, true, true, true, true, true, true, true, true, true, true, true, true, true, true, true, true, true, true, true, true, true, true, false, false, false, false, false] rfl rfl (one_of HT_.out (by kernel_rfl)) (by decide) (fun K hK => ?_)
              refine goes_ Try.func30 (by kernel_rfl) rfl #[.int .i64 (Int.tmod (rd t310 x10_3) 8)] (by rfl) rfl rfl (by (try simp only [List.map_toArray, List.map_cons, List.map_nil]); first | done | rfl | (simp only [List.length_drop, List.length_take]; rfl)) ?_
              with_reducible refine (phaetonref15_power.calls k3 (Int.tmod (rd t310 x10_3) 8) t321 _ A34.out).mono ?_
              rintro e w' ⟨rfl, ⟨nd, rfl⟩⟩
              refine ⟨_, rfl, ?_⟩
              have p35 : 0 ≤ ((ji29) : Int) := oD (by first | (with_reducible assumption) | assumption)
              have q35 : ((ji29) : Int) < ((x8_3.length : Int) : Int) := oD (by first | (with_reducible assumption) | assumption)
              obtain ⟨go35, co35, eo35, gb35, gl35, cl35, HG35⟩ := Kd.R_form HO_8.out (by omega)
              (first | cases eo35 | (injection eo35 with ea_ en_ ec_; (first | subst ea_ | (injection ea_ with ea_; subst ea_)); subst ec_; clear en_))
              have GB35 := aM gb35
              have GG35 := aM HG35
              clear gb35 gl35 HG35
              (first | simp only [add_plain] at hx314_0 | skip)
              (first | simp only [add_plain] at hx319_0 | skip)
              obtain ⟨hx35_0, hf35_0⟩ := Kd.R_celln 0 HO_8.out ((ji29) : Int) p35 q35
              replace p35 := eq_true p35
              replace q35 := eq_true q35
              have HP40 := Kd.R_putn HO_8.out ((ji29) : Int) ((wrap64 ((wrap64 (rd x8_3 (ji29))) + (wrap64 ((wrap64 ((Int.tmod x2_3 2) - (Int.tmod (wrap64 (Int.tdiv (wrap64 (rd x8_3 (ji29))) t316)) 2))) * t321)))) % 256)
              rw [← Ny322.out] at HP40
              have HQ40 := aM HP40
              clear HP40
              refine hK.out _ _ ⟨hHeld.1, hHeld.2.1, hHeld.2.2.1, hHeld.2.2.2⟩ (fun hHeld => ?_)
              clear hK K
              refine norm_ (a' := ?_) ?_ ?_
              rotate_left
              ·show Act.put _ (some 82) _ = _
               simp only [Act.put, sT, sZ, sS, i64_w, i32_w]
               rfl
              refine pure_ (i := 25) (N := some 83) (v := ?_) (a' := ?_) #[true, true, true, true, true, true, true, true, true, true, true, true, true, true, true, true, true, true, true, true, true, true, true, true, true, true, false, false, false, false] rfl rfl (any_of HT_.out (by kernel_rfl)) (fun _ _ _ h => h) (Or.inl ⟨by rfl, ?_⟩) ?_ ?_
              rotate_left
              ·intro w'
               go_simp
               with_reducible rfl
              rotate_left
              ·simp only [Act.put, sT, sZ, sS, i64_w, i32_w]
               rfl
              refine pure_ (i := 26) (N := some 84) (v := ?_) (a' := ?_) #[true, true, true, true, true, true, true, true, true, true, true, true, true, true, true, true, true, true, true, true, true, true, true, true, true, true, true, false, false, false] rfl rfl (any_of HT_.out (by kernel_rfl)) (fun _ _ _ h => h) (Or.inl ⟨by rfl, ?_⟩) ?_ ?_
              rotate_left
              ·intro w'
               go_simp
               with_reducible rfl
              rotate_left
              ·simp only [Act.put, sT, sZ, sS, i64_w, i32_w]
               rfl
              refine pure_ (i := 27) (N := some 85) (v := ?_) (a' := ?_) #[true, true, true, true, true, true, true, true, true, true, true, true, true, true, true, true, true, true, true, true, true, true, true, true, true, true, true, true, false, false] rfl rfl (any_of HT_.out (by kernel_rfl)) (fun _ _ _ h => h) (Or.inl ⟨by rfl, ?_⟩) ?_ ?_
              rotate_left
              ·intro w'
               go_simp
               with_reducible rfl
              rotate_left
              ·simp only [Act.put, sT, sZ, sS, i64_w, i32_w]
               rfl
              refine pure_ (i := 28) (N := some 86) (v := ?_) (a' := ?_) #[true, true, true, true, true, true, true, true, true, true, true, true, true, true, true, true, true, true, true, true, true, true, true, true, true, true, true, true, true, false] rfl rfl (any_of HT_.out (by kernel_rfl)) (fun _ _ _ h => h) (Or.inl ⟨by rfl, ?_⟩) ?_ ?_
              rotate_left
              ·intro w'
               go_simp
               with_reducible rfl
              rotate_left
              ·simp only [Act.put, sT, sZ, sS, i64_w, i32_w]
               rfl
              refine last_ (i := 29) (N := none) #[true, true, true, true, true, true, true, true, true, true, true, true, true, true, true, true, true, true, true, true, true, true, true, true, true, true, true, true, true, true] rfl rfl (one_of HT_.out (by kernel_rfl)) (by decide) (fun K hK => ?_)
              refine skip_ (w1 := ?_) (by rfl) rfl ?_ ?_
              rotate_left
              ·go_simp
               rfl
              refine hK.out _ _ ?_
              clear hK K
              refine done_ (done_of HT_.out (by kernel_rfl)) ?_
              try go_wp2
              go_roundg k3
              case measure => have := HJ3.out; have := HJ15.out; have := HK3.out; omega
              case rel => exact ⟨(wrap64 (Int.tdiv x2_3 2)), (y322), (wrap64 (x10_3 + 1)), (by first | rfl | (simp; done) | (simp [*]; done)), (by first | rfl | (simp; done) | (simp [*]; done)), H', ⟨by have := HJ3.out; have := HJ15.out; have := HK3.out; omega⟩, ⟨by (with_reducible repeat (first | apply rA | apply rN | apply rW)); exact HQ40.out⟩, ⟨by (with_reducible repeat (first | apply rA | apply rN | apply rW)); exact Kd.R_mono (Kd.R_far (p := ⟨go35, ((ji29) : Int).toNat, none⟩) (Kd.R_types HO_9.out GG35.out (by decide)) (fun _ hk => hk.2) (.int .u8 ((wrap64 ((wrap64 (rd x8_3 (ji29))) + (wrap64 ((wrap64 ((Int.tmod x2_3 2) - (Int.tmod (wrap64 (Int.tdiv (wrap64 (rd x8_3 (ji29))) t316)) 2))) * t321)))) % 256))) (fun _ hk => trivial)⟩, ⟨by (with_reducible repeat (first | refine bN ?_ _ | refine bW ?_ | refine bA ?_ _)); refine blk_far ?_ (by have h_ := Kd.R_ne HO_8.out BK300.out (by decide); intro e_; exact h_ (by rw [e_]; rfl)) _; (with_reducible repeat (first | refine bN ?_ _ | refine bW ?_ | refine bA ?_ _)); exact BK300.out⟩, ⟨by repeat (first | (with_reducible first | exact HB.out | apply lA | apply lN | apply lW | refine lS ?_ GB35.out | refine lS ?_ GE300.out) | exact HB.out)⟩⟩
            ·rw [if_neg c31] at H
             exact absurd H (by simp)
           ·rw [if_neg c30] at H
            exact absurd H (by simp)
          ·rw [if_neg c28] at H
           exact absurd H (by simp)
         ·rw [if_neg c27] at H
          have c27b0 : decide (x10_3 < (t310.length : Int)) = false := decide_eq_false c27
          clear c27
          simp only [Option.some.injEq, Prod.mk.injEq] at H
          obtain ⟨rfl, rfl⟩ := H
          obtain ⟨Ao41, co41, eo41⟩ := Kd.R_slice HO_9.out
          subst eo41
          go_wp2
          go_ret2
          exact ⟨_, by first | rfl | (simp [errW_none, errW_some] <;> rfl) | (simp [*, errW_none, errW_some] <;> rfl), by (with_reducible repeat (first | apply rA | apply rN | apply rW)); exact HO_8.out, by repeat (first | (with_reducible first | exact HB.out | apply lA | apply lN | apply lW | refine lS ?_ GE300.out) | exact HB.out)⟩
      ·rw [if_neg c20] at H
       exact absurd H (by simp)

end Go.Proofs.Ytcgkkjimonfhbaa.P

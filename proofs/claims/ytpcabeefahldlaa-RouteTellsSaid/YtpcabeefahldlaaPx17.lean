/- Go functions that the laws of this seat reach, each as a Lean function, and a proof that a call of the Go code comes to its answers; written by a program (the kit's print, turned in a few places). Conditions: each theorem's own premises. -/
import Derived.Test.YtpcabeefahldlaaPx0
import Derived.Test.YtpcabeefahldlaaPx16
namespace Go.Proofs.Ytpcabeefahldlaa.P
open Go.RowKit Go.Proofs.YtpcabeefahldlaaW.PrintWords Go.Proofs.YtpcabeefahldlaaW.PrintLast Go.Proofs.YtpcabeefahldlaaW.PrintMore
attribute [local go_sem] max2_int min2_int max_two min_two max_three min_three max_four min_four   -- for this text's walks alone
set_option linter.unusedVariables false
set_option linter.unusedSimpArgs false

/-! ### phaetonref12_Hops: function 19 -/
mutual
def phaetonref12_Hops.l0 : Nat → List (S45) → Int → List (S38) → Int → Bool → Int → Bool → Int → List Int → Option ((List (S38)))
 | 0, _, _, _, _, _, _, _, _, _ => none
 | k + 1, x0, x1, x7, x8, x215000, x215001, x215002, x215003, x215004 => if x8 < (x0.length : Int) then (if 0 ≤ x8 then (if ((rd_T45 x0 x8).f0) = x1 then ((phaetonref07_Takes.f ((rd_T45 x0 x8).f2.f0) ((rd_T45 x0 x8).f2.f1) ((rd_T45 x0 x8).f2.f2) x215000 x215001 x215002 x215003 x215004).bind fun t220 => (phaetonref12_Hops.j1 k x0 x1 x7 x8 t220 x215000 x215001 x215002 x215003 x215004)) else (phaetonref12_Hops.j1 k x0 x1 x7 x8 false x215000 x215001 x215002 x215003 x215004)) else (none)) else (some x7)
def phaetonref12_Hops.j1 : Nat → List (S45) → Int → List (S38) → Int → Bool → Bool → Int → Bool → Int → List Int → Option ((List (S38)))
 | 0, _, _, _, _, _, _, _, _, _, _ => none
 | k + 1, x0, x1, x7, x8, x32, x215000, x215001, x215002, x215003, x215004 => if x32 = true then (if 0 ≤ x8 then (if x8 < (x0.length : Int) then (if ((rd_T45 x0 x8).f3) ≥ 0 then (if x7.length < 2199023255552 then (phaetonref12_Hops.l0 k x0 x1 (x7 ++ [(⟨(rd_T45 x0 x8).f1, (⟨x215000, (rd_T45 x0 x8).f3, x215002, x215003, x215004⟩ : S25)⟩ : S38)]) (wrap64 (x8 + 1)) x215000 x215001 x215002 x215003 x215004) else (none)) else (if x7.length < 2199023255552 then (phaetonref12_Hops.l0 k x0 x1 (x7 ++ [(⟨(rd_T45 x0 x8).f1, (⟨x215000, x215001, x215002, x215003, x215004⟩ : S25)⟩ : S38)]) (wrap64 (x8 + 1)) x215000 x215001 x215002 x215003 x215004) else (none))) else (none)) else (none)) else (phaetonref12_Hops.l0 k x0 x1 x7 (wrap64 (x8 + 1)) x215000 x215001 x215002 x215003 x215004)
end
def phaetonref12_Hops.f (k : Nat) (l0 : List (S45)) (a1 : Int) (a2_0 : Bool) (a2_1 : Int) (a2_2 : Bool) (a2_3 : Int) (l2_4 : List Int) : Option ((List (S38))) := phaetonref12_Hops.l0 k l0 a1 (([] : List (S38))) 0 a2_0 a2_1 a2_2 a2_3 l2_4
def phaetonref12_Hops.T5 : Bool × List (List Nat × List Nat) := (true, [([], []), ([], []), ([0, 1], [0, 1]), ([2], [2]), ([3], [3]), ([], []), ([4, 5], [4, 5]), ([6], [6]), ([7], [7]), ([7], [7]), ([8, 9, 7], [7, 8, 9]), ([10, 7], [7, 10]), ([11, 7], [7, 11]), ([7], [7]), ([12, 13, 7, 7], [7, 12, 13]), ([7, 14], [7, 14])])
def phaetonref12_Hops.B5 : List Nat := [0, 0, 3, 7, 15, 0, 63, 127, 255, 255, 1023, 2047, 4095, 255, 16383, 32767]
theorem phaetonref12_Hops.tab5 : rtab .any (opsOf Try.f19 5) = phaetonref12_Hops.T5 := by kernel_rfl
theorem phaetonref12_Hops.bits5 : waitsOk phaetonref12_Hops.T5.2 phaetonref12_Hops.B5 = true := by kernel_rfl
def phaetonref12_Hops.T9 : Bool × List (List Nat × List Nat) := (true, [([], []), ([], []), ([], []), ([1, 2], [1, 2]), ([3], [3]), ([4], [4]), ([], []), ([5, 6], [5, 6]), ([7], [7]), ([0, 8], [0, 8]), ([9, 9, 0, 1, 2, 3, 4, 5, 6, 7, 8, 9], [0, 9])])
def phaetonref12_Hops.B9 : List Nat := [0, 0, 0, 6, 14, 30, 0, 126, 254, 511, 1023]
theorem phaetonref12_Hops.tab9 : rtab .any (opsOf Try.f19 9) = phaetonref12_Hops.T9 := by kernel_rfl
theorem phaetonref12_Hops.bits9 : waitsOk phaetonref12_Hops.T9.2 phaetonref12_Hops.B9 = true := by kernel_rfl
set_option maxHeartbeats 8000000 in
set_option maxRecDepth 100000 in
theorem phaetonref12_Hops.calls (k : Nat) (A0 : Option Addr) (c0 : Nat) (l0 : List (S45)) (a1 : Int) (a2_0 : Bool) (a2_1 : Int) (a2_2 : Bool) (a2_3 : Int) (P2_4_ : Nat → Prop) (A2_4 : Option Addr) (c2_4 : Nat) (l2_4 : List Int) (r : List (S38)) (w : World) (hr0 : Kd.C k45 w A0 l0.length l0) (hc0 : l0.length ≤ c0) (hs2_4 : Kd.V (Kd.int .u8) 5 w w.heap.size (fun k_ => P2_4_ k_) (.slice A2_4 l2_4.length c2_4) l2_4) (h : phaetonref12_Hops.f k l0 a1 a2_0 a2_1 a2_2 a2_3 l2_4 = some r) :
  Calls Try.prog 19 #[.slice A0 l0.length c0, .int .i64 a1, .agg #[.bool a2_0, .int .i64 a2_1, .bool a2_2, .int .i64 a2_3, .slice A2_4 l2_4.length c2_4]] w fun e w' => ∃ v0_ : Value, e = .returned (v0_) ∧ Kd.N k38 38 w' w.heap.size (fun k_ => (P2_4_ k_ ∨ w.heap.size ≤ k_)) v0_ r ∧ Below w.heap.size w w' := by
 have hu25 := Try.underlying25
 have hu43 := Try.underlying43
 have hu38 := Try.underlying38
 have HR0 := aM hr0
 have HC0 := aM hc0
 clear hr0 hc0
 have HO2_4 := aM (show Kd.V (Kd.int .u8) 5 w w.heap.size (fun k_ => (P2_4_ k_ ∨ w.heap.size ≤ k_)) (.slice A2_4 l2_4.length c2_4) l2_4 from Kd.V_mono hs2_4 (fun k_ hk => .inl hk))
 have HB := aM (Below.refl w.heap.size w)
 have H : (phaetonref12_Hops.l0 k l0 a1 (([] : List (S38))) 0 a2_0 a2_1 a2_2 a2_3 l2_4) = some r := h
 clear h
 obtain ⟨y215, hy215⟩ : ∃ y_ : List (S38), y_ = (([] : List (S38))) := ⟨_, rfl⟩
 replace H : (phaetonref12_Hops.l0 k l0 a1 y215 0 a2_0 a2_1 a2_2 a2_3 l2_4) = some r := by first | (rw [hy215]; with_reducible exact H) | (have H2_ := (Option.bind_some _ _).symm.trans H; rw [hy215]; with_reducible exact H2_) | (have H2_ := (Option.bind_some _ _).symm.trans H; with_reducible exact H2_) | with_reducible exact H | (rw [hy215]; exact H) | exact H
 have Ny215 := aM hy215
 clear hy215
 have H' := aM H
 clear H
 go_enter Try.func19, Try.ntmps19
 go_wp2_with (first | ((with_reducible refine gate_dst (N := 5) rfl ?_); refine box_event ?hg (N := 5) ?hd (cs := #[.bool a2_0, .int .i64 a2_1, .bool a2_2, .int .i64 a2_3, .slice A2_4 l2_4.length c2_4]) (t := 25) ?hr ?_; (case hd => rfl); (case hg => rfl); (case hr => first | (go_simp; done) | (go_simp; rfl)); intro gb214 hg w4 hbox hb; have n0_ := aM (Kd.V_below (Kd.V_elderB (by (with_reducible repeat (first | apply Kd.V_alloc | apply Kd.V_drewN | apply Kd.V_drew)); exact HO2_4.out) gb214 (Nat.le_of_eq hg.symm)) hb); have n1_ := aM (lT (by repeat (first | (with_reducible first | exact HB.out | apply lA | apply lN | apply lW) | exact HB.out)) hb); have n2_ := aM (hbox); have n3_ := aM ((by rw [hg]; exact (lZ (by repeat (first | (with_reducible first | exact HB.out | apply lA | apply lN | apply lW) | exact HB.out))) : w.heap.size ≤ gb214)); have n4_ := aM ((by rw [hg]; exact (lZ (by repeat (first | (with_reducible first | exact HB.out | apply lA | apply lN | apply lW) | exact HB.out))) : w.heap.size ≤ gb214)); clear HO2_4; clear HB; have HO2_4 := n0_; have HB := n1_; have BK214 := n2_; have GW214 := n3_; have GE214 := n4_; clear n0_ n1_ n2_ n3_ n4_; clear hb hbox hg) | ((with_reducible refine gate_dst (N := 10) rfl ?_); refine Kd.N_lit k38 _ 38 ?hg (N' := 10) ?hd (xs := ([] : List (S38))) (inner := []) (ok := (fun k_ => (P2_4_ k_ ∨ w.heap.size ≤ k_) ∧ k_ ≠ gb214)) (okp := (fun k_ => (P2_4_ k_ ∨ w.heap.size ≤ k_) ∧ k_ ≠ gb214)) ?hr ?hp (fun _ hk => hk) ((show ∀ k_, w4.heap.size ≤ k_ → (fun k_ => (P2_4_ k_ ∨ w.heap.size ≤ k_) ∧ k_ ≠ gb214) k_ from fun k_ hk => ⟨(.inr (Nat.le_trans (lZ (by repeat (first | (with_reducible first | exact HB.out | apply lA | apply lN | apply lW | refine lS ?_ GE214.out) | exact HB.out))) hk)), Kd.freshB (g := gb214) (o := .cells #[.bool a2_0, .int .i64 a2_1, .bool a2_2, .int .i64 a2_3, .slice A2_4 l2_4.length c2_4] 25 (0, 0)) (by (with_reducible repeat (first | refine bN ?_ _ | refine bW ?_ | refine bA ?_ _)); exact BK214.out) k_ hk⟩) _ (Nat.le_refl _)) (Below.refl _ _) (Nat.le_refl _) (by simp) ?_; (case hd => rfl); (case hg => rfl); (case hr => first | (go_simp; done) | (go_simp; rfl)); (case hp => exact (Reps.none _ _)); intro v216 w5 ho6 hb hg_ hnew_; clear hg_ hnew_; (first | rw [← Ny215.out] at ho6 | (simp only [Int.reduceToNat] at ho6; rw [← Ny215.out] at ho6)); have n0_ := aM (Kd.V_elder' (by (with_reducible repeat (first | apply Kd.V_alloc | apply Kd.V_drewN | apply Kd.V_drew)); exact HO2_4.out) (Kd.N_base ho6) hb); have n1_ := aM (Kd.N_lower ho6 (lZ (by repeat (first | (with_reducible first | exact HB.out | apply lA | apply lN | apply lW | refine lS ?_ GE214.out) | exact HB.out)))); have n2_ := aM (blk_below (g := gb214) (o := .cells #[.bool a2_0, .int .i64 a2_1, .bool a2_2, .int .i64 a2_3, .slice A2_4 l2_4.length c2_4] 25 (0, 0)) (by (with_reducible repeat (first | refine bN ?_ _ | refine bW ?_ | refine bA ?_ _)); exact BK214.out) hb); have n3_ := aM (lT (by repeat (first | (with_reducible first | exact HB.out | apply lA | apply lN | apply lW | refine lS ?_ GE214.out) | exact HB.out)) hb); clear HO2_4; clear BK214; clear HB; have HO2_4 := n0_; have HO217 := n1_; have BK214 := n2_; have HB := n3_; clear n0_ n1_ n2_ n3_; clear hb ho6))
 go_loopg [7, 8] k (fun kq v7 v8 w' => ∃ (x7_1 : List (S38)) (x8_1 : Int), v8 = .int .i64 x8_1 ∧ Aside0 (phaetonref12_Hops.l0 kq l0 a1 x7_1 x8_1 a2_0 a2_1 a2_2 a2_3 l2_4 = some r) ∧ Aside0 (kq ≤ k) ∧ Aside0 (Kd.N k38 38 w' w.heap.size (fun k_ => (P2_4_ k_ ∨ w.heap.size ≤ k_) ∧ k_ ≠ gb214) v7 x7_1) ∧ Aside0 (Kd.V (Kd.int .u8) 5 w' w.heap.size (fun k_ => (P2_4_ k_ ∨ w.heap.size ≤ k_) ∧ some k_ ≠ (v7 : Value).ownBlock ∧ k_ ≠ gb214) (.slice A2_4 l2_4.length c2_4) l2_4) ∧ Aside0 (w'.heap[gb214]? = some (.cells #[.bool a2_0, .int .i64 a2_1, .bool a2_2, .int .i64 a2_3, (.slice A2_4 l2_4.length c2_4)] 25 (0, 0))) ∧ Aside0 (Below w.heap.size w w'))
 case atStart => exact ⟨(y215), (0), (by first | rfl | (simp; done) | (simp [*]; done)), H', ⟨Nat.le_refl _⟩, ⟨by (with_reducible repeat (first | apply Kd.N_alloc | apply Kd.N_drewN | apply Kd.N_drew)); exact HO217.out⟩, ⟨by (with_reducible repeat (first | apply Kd.V_alloc | apply Kd.V_drewN | apply Kd.V_drew)); exact Kd.V_mono HO2_4.out (fun _ hk => ⟨hk.1.1, ⟨hk.2, hk.1.2⟩⟩)⟩, ⟨by (with_reducible repeat (first | refine bN ?_ _ | refine bW ?_ | refine bA ?_ _)); exact BK214.out⟩, ⟨by repeat (first | (with_reducible first | exact HB.out | apply lA | apply lN | apply lW | refine lS ?_ GE214.out) | exact HB.out)⟩⟩
 case round =>
  clear H'
  try clear c1
  try clear c2
  try clear p2
  obtain ⟨x7_1, x8_1, rfl, HA, HK1, HO_7, HO_215004, BK214, HB⟩ := hrel
  cases gk with
  | zero => exact absurd HA.out (by simp [phaetonref12_Hops.l0])
  | succ k1 =>
   have H := HA.out
   clear HA
   simp only [phaetonref12_Hops.l0] at H
   by_cases c7 : x8_1 < (l0.length : Int)
   ·rw [if_pos c7] at H
    have c7b0 : decide (x8_1 < (l0.length : Int)) = true := decide_eq_true c7
    clear c7
    have HC8 := aM H
    clear H
    (try have ltq_ := blk_lt BK214.out)
    go_upto_region 5 with (fail)
    go_cut [32] (fun v32 wc => ∃ (kq : Nat) (x32_7 : Bool), v32 = .bool x32_7 ∧ Aside0 (phaetonref12_Hops.j1 kq l0 a1 x7_1 x8_1 x32_7 a2_0 a2_1 a2_2 a2_3 l2_4 = some r) ∧ Aside0 (kq ≤ k1) ∧ Aside0 (Kd.N k38 38 wc w.heap.size (fun k_ => (P2_4_ k_ ∨ w.heap.size ≤ k_) ∧ k_ ≠ gb214) u7 x7_1) ∧ Aside0 (Kd.V (Kd.int .u8) 5 wc w.heap.size (fun k_ => (P2_4_ k_ ∨ w.heap.size ≤ k_) ∧ some k_ ≠ (u7 : Value).ownBlock ∧ k_ ≠ gb214) (.slice A2_4 l2_4.length c2_4) l2_4) ∧ Aside0 (wc.heap[gb214]? = some (.cells #[.bool a2_0, .int .i64 a2_1, .bool a2_2, .int .i64 a2_3, (.slice A2_4 l2_4.length c2_4)] 25 (0, 0))) ∧ Aside0 (Below w.heap.size w wc))
    case first =>
     have H := HC8.out
     clear HC8
     by_cases c9 : 0 ≤ x8_1
     ·rw [if_pos c9] at H
      have c9b0 : decide (0 ≤ x8_1) = true := decide_eq_true c9
      clear c9
      (first | rw [c9b0] | (simp only [i64_w, i32_w]; rw [c9b0]) | skip)
      by_cases c10 : ((rd_T45 l0 x8_1).f0) = a1
      ·rw [if_pos c10] at H
       have c10b0 : (((rd_T45 l0 x8_1).f0) == a1) = true := beq_iff_eq.mpr c10
       have c10b1 : (((rd_T45 l0 x8_1).f0) != a1) = false := bne_eq_false_iff_eq.mpr c10
       clear c10
       replace H := Option.bind_eq_some_iff.mp H
       obtain ⟨t220, A110, H⟩ := H
       replace H : (phaetonref12_Hops.j1 k1 l0 a1 x7_1 x8_1 t220 a2_0 a2_1 a2_2 a2_3 l2_4) = some r := H
       have A11 := aM A110
       clear A110
       have H' := aM H
       clear H
       try go_wp2
       have n0_ := aM (Kd.N_drew HO_7.out)
       have n1_ := aM (Kd.V_drew HO_215004.out)
       have n2_ := aM (bW BK214.out)
       have n3_ := aM (lW HB.out)
       clear HO_7
       clear HO_215004
       clear BK214
       clear HB
       have HO_7 := n0_
       have HO_215004 := n1_
       have BK214 := n2_
       have HB := n3_
       clear n0_ n1_ n2_ n3_
       have p218 : 0 ≤ (x8_1 : Int) := oD (by first | (with_reducible assumption) | assumption)
       have q218 : x8_1 < (l0.length : Int) := oD (by first | (with_reducible assumption) | assumption)
       obtain ⟨ad218, e218, hx218_0, hx218_1, hx218_2, hx218_3, hx218_4, hx218_5⟩ := at_T45 HR0.out x8_1 p218 q218
       have hw218_5 := hx218_5
       have hw218_4 := hx218_4
       have hw218_3 := hx218_3
       have hw218_2 := hx218_2
       have hw218_1 := hx218_1
       have hw218_0 := hx218_0
       cases e218
       replace hx218_0 := (HB.out.cell (wl w _ hx218_0)).trans hx218_0
       replace hx218_1 := (HB.out.cell (wl w _ hx218_1)).trans hx218_1
       replace hx218_2 := (HB.out.cell (wl w _ hx218_2)).trans hx218_2
       replace hx218_3 := (HB.out.cell (wl w _ hx218_3)).trans hx218_3
       replace hx218_4 := (HB.out.cell (wl w _ hx218_4)).trans hx218_4
       replace hx218_5 := (HB.out.cell (wl w _ hx218_5)).trans hx218_5
       replace p218 := eq_true p218
       replace q218 := eq_true q218
       have p219 : 0 ≤ (x8_1 : Int) := oD (by first | (with_reducible assumption) | assumption)
       have q219 : x8_1 < (l0.length : Int) := oD (by first | (with_reducible assumption) | assumption)
       obtain ⟨ad219, e219, hx219_0, hx219_1, hx219_2, hx219_3, hx219_4, hx219_5⟩ := at_T45 HR0.out x8_1 p219 q219
       have hw219_5 := hx219_5
       have hw219_4 := hx219_4
       have hw219_3 := hx219_3
       have hw219_2 := hx219_2
       have hw219_1 := hx219_1
       have hw219_0 := hx219_0
       obtain rfl : ad218 = ad219 := (by injection e219)
       replace hx219_0 := (HB.out.cell (wl w _ hx219_0)).trans hx219_0
       replace hx219_1 := (HB.out.cell (wl w _ hx219_1)).trans hx219_1
       replace hx219_2 := (HB.out.cell (wl w _ hx219_2)).trans hx219_2
       replace hx219_3 := (HB.out.cell (wl w _ hx219_3)).trans hx219_3
       replace hx219_4 := (HB.out.cell (wl w _ hx219_4)).trans hx219_4
       replace hx219_5 := (HB.out.cell (wl w _ hx219_5)).trans hx219_5
       replace p219 := eq_true p219
       replace q219 := eq_true q219
       refine start_ (n := 16) (S := fun w' => w'.cell? ⟨gb214, 0, none⟩ = some (.bool a2_0) ∧ w'.cell? ⟨gb214, 1, none⟩ = some (.int .i64 a2_1) ∧ w'.cell? ⟨gb214, 2, none⟩ = some (.bool a2_2) ∧ w'.cell? ⟨gb214, 3, none⟩ = some (.int .i64 a2_3) ∧ w'.cell? ⟨gb214, 4, none⟩ = some (.slice A2_4 l2_4.length c2_4) ∧ w'.cell? (ad218.add ((x8_1).toNat * 6)) = some (.int .i64 ((rd_T45 l0 x8_1).f0)) ∧ w'.cell? ⟨(ad218.add ((x8_1).toNat * 6)).block, (ad218.add ((x8_1).toNat * 6)).off + 1, none⟩ = some (.int .i64 ((rd_T45 l0 x8_1).f1)) ∧ w'.cell? ⟨(ad218.add ((x8_1).toNat * 6)).block, (ad218.add ((x8_1).toNat * 6)).off + 2, none⟩ = some (.bool ((rd_T45 l0 x8_1).f2.f0)) ∧ w'.cell? ⟨(ad218.add ((x8_1).toNat * 6)).block, (ad218.add ((x8_1).toNat * 6)).off + 3, none⟩ = some (.int .i64 ((rd_T45 l0 x8_1).f2.f1)) ∧ w'.cell? ⟨(ad218.add ((x8_1).toNat * 6)).block, (ad218.add ((x8_1).toNat * 6)).off + 4, none⟩ = some (.int .i64 ((rd_T45 l0 x8_1).f2.f2)) ∧ w'.cell? ⟨(ad218.add ((x8_1).toNat * 6)).block, (ad218.add ((x8_1).toNat * 6)).off + 5, none⟩ = some (.int .i64 ((rd_T45 l0 x8_1).f3)) ∧ w'.cell? (ad218.add ((x8_1).toNat * 6)) = some (.int .i64 ((rd_T45 l0 x8_1).f0)) ∧ w'.cell? ⟨(ad218.add ((x8_1).toNat * 6)).block, (ad218.add ((x8_1).toNat * 6)).off + 1, none⟩ = some (.int .i64 ((rd_T45 l0 x8_1).f1)) ∧ w'.cell? ⟨(ad218.add ((x8_1).toNat * 6)).block, (ad218.add ((x8_1).toNat * 6)).off + 2, none⟩ = some (.bool ((rd_T45 l0 x8_1).f2.f0)) ∧ w'.cell? ⟨(ad218.add ((x8_1).toNat * 6)).block, (ad218.add ((x8_1).toNat * 6)).off + 3, none⟩ = some (.int .i64 ((rd_T45 l0 x8_1).f2.f1)) ∧ w'.cell? ⟨(ad218.add ((x8_1).toNat * 6)).block, (ad218.add ((x8_1).toNat * 6)).off + 4, none⟩ = some (.int .i64 ((rd_T45 l0 x8_1).f2.f2)) ∧ w'.cell? ⟨(ad218.add ((x8_1).toNat * 6)).block, (ad218.add ((x8_1).toNat * 6)).off + 5, none⟩ = some (.int .i64 ((rd_T45 l0 x8_1).f3))) (ds := []) #[false, false, false, false, false, false, false, false, false, false, false, false, false, false, false, false] (by kernel_rfl) rfl rfl ⟨(bC BK214.out 0).trans rfl, (bC BK214.out 1).trans rfl, (bC BK214.out 2).trans rfl, (bC BK214.out 3).trans rfl, (bC BK214.out 4).trans rfl, ((HB.out.cell (wl w _ hw218_0)).trans hw218_0), ((HB.out.cell (wl w _ hw218_1)).trans hw218_1), ((HB.out.cell (wl w _ hw218_2)).trans hw218_2), ((HB.out.cell (wl w _ hw218_3)).trans hw218_3), ((HB.out.cell (wl w _ hw218_4)).trans hw218_4), ((HB.out.cell (wl w _ hw218_5)).trans hw218_5), ((HB.out.cell (wl w _ hw219_0)).trans hw219_0), ((HB.out.cell (wl w _ hw219_1)).trans hw219_1), ((HB.out.cell (wl w _ hw219_2)).trans hw219_2), ((HB.out.cell (wl w _ hw219_3)).trans hw219_3), ((HB.out.cell (wl w _ hw219_4)).trans hw219_4), ((HB.out.cell (wl w _ hw219_5)).trans hw219_5)⟩ (fun hHeld => ?_); refine with_tabW phaetonref12_Hops.tab5 phaetonref12_Hops.bits5 (fun HT_ HW_ => ?_)
       generalize wr.drew = w12 at HO_7 HO_215004 BK214 HB hx218_0 hx218_1 hx218_2 hx218_3 hx218_4 hx218_5 hx219_0 hx219_1 hx219_2 hx219_3 hx219_4 hx219_5 hHeld ⊢
       refine pure_ (i := 0) (N := some 17) (v := ?_) (a' := ?_) #[true, false, false, false, false, false, false, false, false, false, false, false, false, false, false, false] rfl rfl (any_of HT_.out (by kernel_rfl)) (fun _ _ _ h => h) (Or.inl ⟨by rfl, ?_⟩) ?_ ?_
       rotate_left
       ·intro w'
        go_simp
        with_reducible rfl
       rotate_left
       ·simp only [Act.put, sT, sZ, sS, i64_w, i32_w]
        rfl
       refine pure_ (i := 1) (N := some 18) (v := ?_) (a' := ?_) #[true, true, false, false, false, false, false, false, false, false, false, false, false, false, false, false] rfl rfl (any_of HT_.out (by kernel_rfl)) (fun _ _ _ h => h) (Or.inl ⟨by rfl, ?_⟩) ?_ ?_
       rotate_left
       ·intro w'
        go_simp
        with_reducible rfl
       rotate_left
       ·simp only [Act.put, sT, sZ, sS, i64_w, i32_w]
        rfl
       refine pure_ (i := 2) (N := some 19) (v := ?_) (a' := ?_) #[true, true, true, false, false, false, false, false, false, false, false, false, false, false, false, false] rfl rfl (any_of HT_.out (by kernel_rfl)) (fun _ _ _ h => h) (Or.inl ⟨by rfl, ?_⟩) ?_ ?_
       rotate_left
       ·intro w'
        go_simp
        with_reducible rfl
       rotate_left
       ·simp only [Act.put, sT, sZ, sS, i64_w, i32_w]
        rfl
       refine pure_ (i := 3) (N := some 20) (v := ?_) (a' := ?_) #[true, true, true, true, false, false, false, false, false, false, false, false, false, false, false, false] rfl rfl (any_of HT_.out (by kernel_rfl)) (fun _ _ _ h => h) (Or.inl ⟨by rfl, ?_⟩) ?_ ?_
       rotate_left
       ·intro w'
        go_simp
        with_reducible rfl
       rotate_left
       ·simp only [Act.put, sT, sZ, sS, i64_w, i32_w]
        rfl
       refine pure_ (i := 5) (N := some 22) (v := ?_) (a' := ?_) #[true, true, true, true, false, true, false, false, false, false, false, false, false, false, false, false] rfl rfl (any_of HT_.out (by kernel_rfl)) (fun _ _ _ h => h) (Or.inl ⟨by rfl, ?_⟩) ?_ ?_
       rotate_left
       ·intro w'
        go_simp
        with_reducible rfl
       rotate_left
       ·simp only [Act.put, sT, sZ, sS, i64_w, i32_w]
        rfl
       refine take_ (i := 4) (N := some 21) (v := ?_) (a' := ?_) #[true, true, true, true, true, true, false, false, false, false, false, false, false, false, false, false] rfl rfl (take_ofW HT_.out HW_.out (by kernel_rfl)) (fun _ _ _ h => h) (Or.inl ⟨by rfl, ?_⟩) hHeld ?_ ?_
       rotate_left
       ·rintro w' ⟨s0, s1, s2, s3, s4, s5, s6, s7, s8, s9, s10, s11, s12, s13, s14, s15, s16⟩
        go_simp
        with_reducible rfl
       rotate_left
       ·simp only [Act.put, sT, sZ, sS, i64_w, i32_w]
        rfl
       refine pure_ (i := 6) (N := some 23) (v := ?_) (a' := ?_) #[true, true, true, true, true, true, true, false, false, false, false, false, false, false, false, false] rfl rfl (any_of HT_.out (by kernel_rfl)) (fun _ _ _ h => h) (Or.inl ⟨by rfl, ?_⟩) ?_ ?_
       rotate_left
       ·intro w'
        go_simp
        with_reducible rfl
       rotate_left
       ·simp only [Act.put, sT, sZ, sS, i64_w, i32_w]
        rfl
       refine pure_ (i := 7) (N := some 24) (v := ?_) (a' := ?_) #[true, true, true, true, true, true, true, true, false, false, false, false, false, false, false, false] rfl rfl (any_of HT_.out (by kernel_rfl)) (fun _ _ _ h => h) (Or.inl ⟨by rfl, ?_⟩) ?_ ?_
       rotate_left
       ·intro w'
        go_simp
        with_reducible rfl
       rotate_left
       ·simp only [Act.put, sT, sZ, sS, i64_w, i32_w]
        rfl
       refine pure_ (i := 8) (N := some 25) (v := ?_) (a' := ?_) #[true, true, true, true, true, true, true, true, true, false, false, false, false, false, false, false] rfl rfl (any_of HT_.out (by kernel_rfl)) (fun _ _ _ h => h) (Or.inl ⟨by rfl, ?_⟩) ?_ ?_
       rotate_left
       ·intro w'
        go_simp
        with_reducible rfl
       rotate_left
       ·simp only [Act.put, sT, sZ, sS, i64_w, i32_w]
        rfl
       refine pure_ (i := 9) (N := some 26) (v := ?_) (a' := ?_) #[true, true, true, true, true, true, true, true, true, true, false, false, false, false, false, false] rfl rfl (any_of HT_.out (by kernel_rfl)) (fun _ _ _ h => h) (Or.inl ⟨by rfl, ?_⟩) ?_ ?_
       rotate_left
       ·intro w'
        go_simp
        with_reducible rfl
       rotate_left
       ·simp only [Act.put, sT, sZ, sS, i64_w, i32_w]
        rfl
       refine pure_ (i := 10) (N := some 27) (v := ?_) (a' := ?_) #[true, true, true, true, true, true, true, true, true, true, true, false, false, false, false, false] rfl rfl (any_of HT_.out (by kernel_rfl)) (fun _ _ _ h => h) (Or.inl ⟨by rfl, ?_⟩) ?_ ?_
       rotate_left
       ·intro w'
        go_simp
        with_reducible rfl
       rotate_left
       ·simp only [Act.put, sT, sZ, sS, i64_w, i32_w]
        rfl
       refine pure_ (i := 11) (N := some 28) (v := ?_) (a' := ?_) #[true, true, true, true, true, true, true, true, true, true, true, true, false, false, false, false] rfl rfl (any_of HT_.out (by kernel_rfl)) (fun _ _ _ h => h) (Or.inl ⟨by rfl, ?_⟩) ?_ ?_
       rotate_left
       ·intro w'
        go_simp
        with_reducible rfl
       rotate_left
       ·simp only [Act.put, sT, sZ, sS, i64_w, i32_w]
        rfl
       refine take_ (i := 12) (N := some 29) (v := ?_) (a' := ?_) #[true, true, true, true, true, true, true, true, true, true, true, true, true, false, false, false] rfl rfl (take_ofW HT_.out HW_.out (by kernel_rfl)) (fun _ _ _ h => h) (Or.inl ⟨by rfl, ?_⟩) hHeld ?_ ?_
       rotate_left
       ·rintro w' ⟨s0, s1, s2, s3, s4, s5, s6, s7, s8, s9, s10, s11, s12, s13, s14, s15, s16⟩
        go_simp
        with_reducible rfl
       rotate_left
       ·simp only [Act.put, sT, sZ, sS, i64_w, i32_w]
        rfl
       refine take_ (i := 13) (N := some 30) (v := ?_) (a' := ?_) #[true, true, true, true, true, true, true, true, true, true, true, true, true, true, false, false] rfl rfl (take_ofW HT_.out HW_.out (by kernel_rfl)) (fun _ _ _ h => h) (Or.inl ⟨by rfl, ?_⟩) hHeld ?_ ?_
       rotate_left
       ·rintro w' ⟨s0, s1, s2, s3, s4, s5, s6, s7, s8, s9, s10, s11, s12, s13, s14, s15, s16⟩
        go_simp
        with_reducible rfl
       rotate_left
       ·simp only [Act.put, sT, sZ, sS, i64_w, i32_w]
        rfl
       refine one_ (i := 14) (N := some 31) #[true, true, true, true, true, true, true, true, true, true, true, true, true, true, true, false] rfl rfl (one_of HT_.out (by kernel_rfl)) (by decide) (fun K hK => ?_)
       refine goes_ Try.func30 (by kernel_rfl) rfl #[.agg #[.bool ((rd_T45 l0 x8_1).f2.f0), .int .i64 ((rd_T45 l0 x8_1).f2.f1), .int .i64 ((rd_T45 l0 x8_1).f2.f2)], .agg #[.bool a2_0, .int .i64 a2_1, .bool a2_2, .int .i64 a2_3, .slice A2_4 l2_4.length c2_4]] (by rfl) rfl rfl (by (try simp only [List.map_toArray, List.map_cons, List.map_nil]); first | done | rfl | (simp only [List.length_drop, List.length_take]; rfl)) ?_
       with_reducible refine (phaetonref07_Takes.calls ((rd_T45 l0 x8_1).f2.f0) ((rd_T45 l0 x8_1).f2.f1) ((rd_T45 l0 x8_1).f2.f2) a2_0 a2_1 a2_2 a2_3 _ _ l2_4 t220 _ ?side1 ?side2 A11.out).mono ?_
       (case side1 => repeat (first | exact (Kd.V_reads' HO_215004.out).2.2 | (with_reducible refine Kd.C_alloc ?_ _) | (with_reducible refine Kd.C_drewN ?_ _) | (with_reducible refine Kd.C_drew ?_)))
       (case side2 => exact (Kd.V_reads' HO_215004.out).2.1)
       rintro e w13 ⟨rfl, hb⟩
       refine ⟨_, rfl, ?_⟩
       have n0_ := aM (Kd.N_below (by (with_reducible repeat (first | apply Kd.N_alloc | apply Kd.N_drewN | apply Kd.N_drew)); exact HO_7.out) hb)
       have n1_ := aM (Kd.V_below (by (with_reducible repeat (first | apply Kd.V_alloc | apply Kd.V_drewN | apply Kd.V_drew)); exact HO_215004.out) hb)
       have n2_ := aM (blk_below (g := gb214) (o := .cells #[.bool a2_0, .int .i64 a2_1, .bool a2_2, .int .i64 a2_3, .slice A2_4 l2_4.length c2_4] 25 (0, 0)) (by (with_reducible repeat (first | refine bN ?_ _ | refine bW ?_ | refine bA ?_ _)); exact BK214.out) hb)
       have n3_ := aM (lT (by repeat (first | (with_reducible first | exact HB.out | apply lA | apply lN | apply lW | refine lS ?_ GE214.out) | exact HB.out)) hb)
       clear HO_7
       clear HO_215004
       clear BK214
       clear HB
       have HO_7 := n0_
       have HO_215004 := n1_
       have BK214 := n2_
       have HB := n3_
       clear n0_ n1_ n2_ n3_
       (try clear hb)
       (try clear hb2)
       (try clear hk)
       (try clear hi)
       refine hK.out _ _ ⟨(bC BK214.out 0).trans rfl, (bC BK214.out 1).trans rfl, (bC BK214.out 2).trans rfl, (bC BK214.out 3).trans rfl, (bC BK214.out 4).trans rfl, ((HB.out.cell (wl w _ hw218_0)).trans hw218_0), ((HB.out.cell (wl w _ hw218_1)).trans hw218_1), ((HB.out.cell (wl w _ hw218_2)).trans hw218_2), ((HB.out.cell (wl w _ hw218_3)).trans hw218_3), ((HB.out.cell (wl w _ hw218_4)).trans hw218_4), ((HB.out.cell (wl w _ hw218_5)).trans hw218_5), ((HB.out.cell (wl w _ hw219_0)).trans hw219_0), ((HB.out.cell (wl w _ hw219_1)).trans hw219_1), ((HB.out.cell (wl w _ hw219_2)).trans hw219_2), ((HB.out.cell (wl w _ hw219_3)).trans hw219_3), ((HB.out.cell (wl w _ hw219_4)).trans hw219_4), ((HB.out.cell (wl w _ hw219_5)).trans hw219_5)⟩ (fun hHeld => ?_)
       clear hK K
       refine norm_ (a' := ?_) ?_ ?_
       rotate_left
       ·show Act.put _ (some 31) _ = _
        simp only [Act.put, sT, sZ, sS, i64_w, i32_w]
        rfl
       refine pure_ (i := 15) (N := some 32) (v := ?_) (a' := ?_) #[true, true, true, true, true, true, true, true, true, true, true, true, true, true, true, true] rfl rfl (any_of HT_.out (by kernel_rfl)) (fun _ _ _ h => h) (Or.inl ⟨by rfl, ?_⟩) ?_ ?_
       rotate_left
       ·intro w'
        go_simp
        with_reducible rfl
       rotate_left
       ·simp only [Act.put, sT, sZ, sS, i64_w, i32_w]
        rfl
       refine done_ (done_of HT_.out (by kernel_rfl)) ?_
       try go_wp2
       go_meet
       case rel => exact ⟨_, (t220), (by first | rfl | (simp; done) | (simp [*]; done)), H', ⟨by have := HK1.out; first | omega | exact Nat.le_refl _⟩, ⟨by (with_reducible repeat (first | apply Kd.N_alloc | apply Kd.N_drewN | apply Kd.N_drew)); exact HO_7.out⟩, ⟨by (with_reducible repeat (first | apply Kd.V_alloc | apply Kd.V_drewN | apply Kd.V_drew)); exact HO_215004.out⟩, ⟨by (with_reducible repeat (first | refine bN ?_ _ | refine bW ?_ | refine bA ?_ _)); exact BK214.out⟩, ⟨by repeat (first | (with_reducible first | exact HB.out | apply lA | apply lN | apply lW | refine lS ?_ GE214.out) | exact HB.out)⟩⟩
      ·rw [if_neg c10] at H
       have c10b0 : (((rd_T45 l0 x8_1).f0) == a1) = false := nF c10
       have c10b1 : (((rd_T45 l0 x8_1).f0) != a1) = true := nT c10
       have H' := aM H
       clear H
       try go_wp2
       have n0_ := aM (Kd.N_drew HO_7.out)
       have n1_ := aM (Kd.V_drew HO_215004.out)
       have n2_ := aM (bW BK214.out)
       have n3_ := aM (lW HB.out)
       clear HO_7
       clear HO_215004
       clear BK214
       clear HB
       have HO_7 := n0_
       have HO_215004 := n1_
       have BK214 := n2_
       have HB := n3_
       clear n0_ n1_ n2_ n3_
       have p218 : 0 ≤ (x8_1 : Int) := oD (by first | (with_reducible assumption) | assumption)
       have q218 : x8_1 < (l0.length : Int) := oD (by first | (with_reducible assumption) | assumption)
       obtain ⟨ad218, e218, hx218_0, hx218_1, hx218_2, hx218_3, hx218_4, hx218_5⟩ := at_T45 HR0.out x8_1 p218 q218
       have hw218_5 := hx218_5
       have hw218_4 := hx218_4
       have hw218_3 := hx218_3
       have hw218_2 := hx218_2
       have hw218_1 := hx218_1
       have hw218_0 := hx218_0
       cases e218
       replace hx218_0 := (HB.out.cell (wl w _ hx218_0)).trans hx218_0
       replace hx218_1 := (HB.out.cell (wl w _ hx218_1)).trans hx218_1
       replace hx218_2 := (HB.out.cell (wl w _ hx218_2)).trans hx218_2
       replace hx218_3 := (HB.out.cell (wl w _ hx218_3)).trans hx218_3
       replace hx218_4 := (HB.out.cell (wl w _ hx218_4)).trans hx218_4
       replace hx218_5 := (HB.out.cell (wl w _ hx218_5)).trans hx218_5
       replace p218 := eq_true p218
       replace q218 := eq_true q218
       refine start_ (n := 16) (S := fun w' => w'.cell? (ad218.add ((x8_1).toNat * 6)) = some (.int .i64 ((rd_T45 l0 x8_1).f0)) ∧ w'.cell? ⟨(ad218.add ((x8_1).toNat * 6)).block, (ad218.add ((x8_1).toNat * 6)).off + 1, none⟩ = some (.int .i64 ((rd_T45 l0 x8_1).f1)) ∧ w'.cell? ⟨(ad218.add ((x8_1).toNat * 6)).block, (ad218.add ((x8_1).toNat * 6)).off + 2, none⟩ = some (.bool ((rd_T45 l0 x8_1).f2.f0)) ∧ w'.cell? ⟨(ad218.add ((x8_1).toNat * 6)).block, (ad218.add ((x8_1).toNat * 6)).off + 3, none⟩ = some (.int .i64 ((rd_T45 l0 x8_1).f2.f1)) ∧ w'.cell? ⟨(ad218.add ((x8_1).toNat * 6)).block, (ad218.add ((x8_1).toNat * 6)).off + 4, none⟩ = some (.int .i64 ((rd_T45 l0 x8_1).f2.f2)) ∧ w'.cell? ⟨(ad218.add ((x8_1).toNat * 6)).block, (ad218.add ((x8_1).toNat * 6)).off + 5, none⟩ = some (.int .i64 ((rd_T45 l0 x8_1).f3))) (ds := []) #[false, false, false, false, false, false, false, false, false, false, false, false, false, false, false, false] (by kernel_rfl) rfl rfl ⟨((HB.out.cell (wl w _ hw218_0)).trans hw218_0), ((HB.out.cell (wl w _ hw218_1)).trans hw218_1), ((HB.out.cell (wl w _ hw218_2)).trans hw218_2), ((HB.out.cell (wl w _ hw218_3)).trans hw218_3), ((HB.out.cell (wl w _ hw218_4)).trans hw218_4), ((HB.out.cell (wl w _ hw218_5)).trans hw218_5)⟩ (fun hHeld => ?_); refine with_tabW phaetonref12_Hops.tab5 phaetonref12_Hops.bits5 (fun HT_ HW_ => ?_)
       generalize wr.drew = w14 at HO_7 HO_215004 BK214 HB hx218_0 hx218_1 hx218_2 hx218_3 hx218_4 hx218_5 hHeld ⊢
       refine pure_ (i := 0) (N := some 17) (v := ?_) (a' := ?_) #[true, false, false, false, false, false, false, false, false, false, false, false, false, false, false, false] rfl rfl (any_of HT_.out (by kernel_rfl)) (fun _ _ _ h => h) (Or.inl ⟨by rfl, ?_⟩) ?_ ?_
       rotate_left
       ·intro w'
        go_simp
        with_reducible rfl
       rotate_left
       ·simp only [Act.put, sT, sZ, sS, i64_w, i32_w]
        rfl
       refine pure_ (i := 1) (N := some 18) (v := ?_) (a' := ?_) #[true, true, false, false, false, false, false, false, false, false, false, false, false, false, false, false] rfl rfl (any_of HT_.out (by kernel_rfl)) (fun _ _ _ h => h) (Or.inl ⟨by rfl, ?_⟩) ?_ ?_
       rotate_left
       ·intro w'
        go_simp
        with_reducible rfl
       rotate_left
       ·simp only [Act.put, sT, sZ, sS, i64_w, i32_w]
        rfl
       refine pure_ (i := 2) (N := some 19) (v := ?_) (a' := ?_) #[true, true, true, false, false, false, false, false, false, false, false, false, false, false, false, false] rfl rfl (any_of HT_.out (by kernel_rfl)) (fun _ _ _ h => h) (Or.inl ⟨by rfl, ?_⟩) ?_ ?_
       rotate_left
       ·intro w'
        go_simp
        with_reducible rfl
       rotate_left
       ·simp only [Act.put, sT, sZ, sS, i64_w, i32_w]
        rfl
       refine pure_ (i := 3) (N := some 20) (v := ?_) (a' := ?_) #[true, true, true, true, false, false, false, false, false, false, false, false, false, false, false, false] rfl rfl (any_of HT_.out (by kernel_rfl)) (fun _ _ _ h => h) (Or.inl ⟨by rfl, ?_⟩) ?_ ?_
       rotate_left
       ·intro w'
        go_simp
        with_reducible rfl
       rotate_left
       ·simp only [Act.put, sT, sZ, sS, i64_w, i32_w]
        rfl
       refine pure_ (i := 5) (N := some 22) (v := ?_) (a' := ?_) #[true, true, true, true, false, true, false, false, false, false, false, false, false, false, false, false] rfl rfl (any_of HT_.out (by kernel_rfl)) (fun _ _ _ h => h) (Or.inl ⟨by rfl, ?_⟩) ?_ ?_
       rotate_left
       ·intro w'
        go_simp
        with_reducible rfl
       rotate_left
       ·simp only [Act.put, sT, sZ, sS, i64_w, i32_w]
        rfl
       refine take_ (i := 4) (N := some 21) (v := ?_) (a' := ?_) #[true, true, true, true, true, true, false, false, false, false, false, false, false, false, false, false] rfl rfl (take_ofW HT_.out HW_.out (by kernel_rfl)) (fun _ _ _ h => h) (Or.inl ⟨by rfl, ?_⟩) hHeld ?_ ?_
       rotate_left
       ·rintro w' ⟨s0, s1, s2, s3, s4, s5⟩
        go_simp
        with_reducible rfl
       rotate_left
       ·simp only [Act.put, sT, sZ, sS, i64_w, i32_w]
        rfl
       refine pure_ (i := 6) (N := some 23) (v := ?_) (a' := ?_) #[true, true, true, true, true, true, true, false, false, false, false, false, false, false, false, false] rfl rfl (any_of HT_.out (by kernel_rfl)) (fun _ _ _ h => h) (Or.inl ⟨by rfl, ?_⟩) ?_ ?_
       rotate_left
       ·intro w'
        go_simp
        with_reducible rfl
       rotate_left
       ·simp only [Act.put, sT, sZ, sS, i64_w, i32_w]
        rfl
       refine pure_ (i := 7) (N := some 24) (v := ?_) (a' := ?_) #[true, true, true, true, true, true, true, true, false, false, false, false, false, false, false, false] rfl rfl (any_of HT_.out (by kernel_rfl)) (fun _ _ _ h => h) (Or.inl ⟨by rfl, ?_⟩) ?_ ?_
       rotate_left
       ·intro w'
        go_simp
        with_reducible rfl
       rotate_left
       ·simp only [Act.put, sT, sZ, sS, i64_w, i32_w]
        rfl
       refine pure_ (i := 8) (N := some 25) (v := undef) (a' := ?_) #[true, true, true, true, true, true, true, true, true, false, false, false, false, false, false, false] rfl rfl (any_of HT_.out (by kernel_rfl)) (fun _ _ _ h => h) (Or.inr ⟨by rfl, rfl⟩) ?_ ?_
       rotate_left
       ·simp only [Act.put, sT, sZ, sS, i64_w, i32_w]
        rfl
       refine pure_ (i := 9) (N := some 26) (v := undef) (a' := ?_) #[true, true, true, true, true, true, true, true, true, true, false, false, false, false, false, false] rfl rfl (any_of HT_.out (by kernel_rfl)) (fun _ _ _ h => h) (Or.inr ⟨by rfl, rfl⟩) ?_ ?_
       rotate_left
       ·simp only [Act.put, sT, sZ, sS, i64_w, i32_w]
        rfl
       refine pure_ (i := 10) (N := some 27) (v := undef) (a' := ?_) #[true, true, true, true, true, true, true, true, true, true, true, false, false, false, false, false] rfl rfl (any_of HT_.out (by kernel_rfl)) (fun _ _ _ h => h) (Or.inr ⟨by rfl, rfl⟩) ?_ ?_
       rotate_left
       ·simp only [Act.put, sT, sZ, sS, i64_w, i32_w]
        rfl
       refine pure_ (i := 11) (N := some 28) (v := undef) (a' := ?_) #[true, true, true, true, true, true, true, true, true, true, true, true, false, false, false, false] rfl rfl (any_of HT_.out (by kernel_rfl)) (fun _ _ _ h => h) (Or.inr ⟨by rfl, rfl⟩) ?_ ?_
       rotate_left
       ·simp only [Act.put, sT, sZ, sS, i64_w, i32_w]
        rfl
       refine pure_ (i := 12) (N := some 29) (v := undef) (a' := ?_) #[true, true, true, true, true, true, true, true, true, true, true, true, true, false, false, false] rfl rfl (any_of HT_.out (by kernel_rfl)) (fun _ _ _ h => h) (Or.inr ⟨by rfl, rfl⟩) ?_ ?_
       rotate_left
       ·simp only [Act.put, sT, sZ, sS, i64_w, i32_w]
        rfl
       refine pure_ (i := 13) (N := some 30) (v := undef) (a' := ?_) #[true, true, true, true, true, true, true, true, true, true, true, true, true, true, false, false] rfl rfl (any_of HT_.out (by kernel_rfl)) (fun _ _ _ h => h) (Or.inr ⟨by rfl, rfl⟩) ?_ ?_
       rotate_left
       ·simp only [Act.put, sT, sZ, sS, i64_w, i32_w]
        rfl
       refine pure_ (i := 14) (N := some 31) (v := undef) (a' := ?_) #[true, true, true, true, true, true, true, true, true, true, true, true, true, true, true, false] rfl rfl (any_of HT_.out (by kernel_rfl)) (fun _ _ _ h => h) (Or.inr ⟨by rfl, rfl⟩) ?_ ?_
       rotate_left
       ·simp only [Act.put, sT, sZ, sS, i64_w, i32_w]
        rfl
       refine pure_ (i := 15) (N := some 32) (v := ?_) (a' := ?_) #[true, true, true, true, true, true, true, true, true, true, true, true, true, true, true, true] rfl rfl (any_of HT_.out (by kernel_rfl)) (fun _ _ _ h => h) (Or.inl ⟨by rfl, ?_⟩) ?_ ?_
       rotate_left
       ·intro w'
        go_simp
        with_reducible rfl
       rotate_left
       ·simp only [Act.put, sT, sZ, sS, i64_w, i32_w]
        rfl
       refine done_ (done_of HT_.out (by kernel_rfl)) ?_
       try go_wp2
       go_meet
       case rel => exact ⟨_, (false), (by first | rfl | (simp; done) | (simp [*]; done)), H', ⟨by have := HK1.out; first | omega | exact Nat.le_refl _⟩, ⟨by (with_reducible repeat (first | apply Kd.N_alloc | apply Kd.N_drewN | apply Kd.N_drew)); exact HO_7.out⟩, ⟨by (with_reducible repeat (first | apply Kd.V_alloc | apply Kd.V_drewN | apply Kd.V_drew)); exact HO_215004.out⟩, ⟨by (with_reducible repeat (first | refine bN ?_ _ | refine bW ?_ | refine bA ?_ _)); exact BK214.out⟩, ⟨by repeat (first | (with_reducible first | exact HB.out | apply lA | apply lN | apply lW | refine lS ?_ GE214.out) | exact HB.out)⟩⟩
     ·rw [if_neg c9] at H
      exact absurd H (by simp)
    case rest =>
     clear HC8
     try clear c1
     try clear c2
     try clear p2
     try clear q2
     try clear hx2
     try clear c3
     try clear c7
     try clear c7b0
     try clear c9
     try clear c9b0
     try clear c10
     try clear c10b0
     try clear c10b1
     try clear hx218_0
     try clear hx218_1
     try clear hx218_2
     try clear hx218_3
     try clear hx218_4
     try clear hx218_5
     try clear hx219_0
     try clear hx219_1
     try clear hx219_2
     try clear hx219_3
     try clear hx219_4
     try clear hx219_5
     try clear p2
     try clear p218
     try clear p219
     try clear q218
     try clear q219
     obtain ⟨kq, x32_7, rfl, HA, HJ7, HO_7, HO_215004, BK214, HB⟩ := hcut
     cases kq with
     | zero => exact absurd HA.out (by simp [phaetonref12_Hops.j1])
     | succ kj7 =>
      have H := HA.out
      clear HA
      simp only [phaetonref12_Hops.j1] at H
      by_cases c15 : x32_7 = true
      ·subst c15
       have H1 : (if 0 ≤ x8_1 then (if x8_1 < (l0.length : Int) then (if ((rd_T45 l0 x8_1).f3) ≥ 0 then (if x7_1.length < 2199023255552 then (phaetonref12_Hops.l0 kj7 l0 a1 (x7_1 ++ [(⟨(rd_T45 l0 x8_1).f1, (⟨a2_0, (rd_T45 l0 x8_1).f3, a2_2, a2_3, l2_4⟩ : S25)⟩ : S38)]) (wrap64 (x8_1 + 1)) a2_0 a2_1 a2_2 a2_3 l2_4) else (none)) else (if x7_1.length < 2199023255552 then (phaetonref12_Hops.l0 kj7 l0 a1 (x7_1 ++ [(⟨(rd_T45 l0 x8_1).f1, (⟨a2_0, a2_1, a2_2, a2_3, l2_4⟩ : S25)⟩ : S38)]) (wrap64 (x8_1 + 1)) a2_0 a2_1 a2_2 a2_3 l2_4) else (none))) else (none)) else (none)) = some r := by rw [if_pos rfl] at H; exact H
       clear H
       have H := H1
       clear H1
       by_cases c16 : 0 ≤ x8_1
       ·rw [if_pos c16] at H
        have c16b0 : decide (0 ≤ x8_1) = true := decide_eq_true c16
        clear c16
        by_cases c17 : x8_1 < (l0.length : Int)
        ·rw [if_pos c17] at H
         have c17b0 : decide (x8_1 < (l0.length : Int)) = true := decide_eq_true c17
         clear c17
         by_cases c18 : ((rd_T45 l0 x8_1).f3) ≥ 0
         ·rw [if_pos c18] at H
          have c18b0 : decide (0 ≤ ((rd_T45 l0 x8_1).f3)) = true := decide_eq_true c18
          clear c18
          by_cases c19 : x7_1.length < 2199023255552
          ·rw [if_pos c19] at H
           have LMc19 := aM c19
           clear c19
           obtain ⟨y225, hy225⟩ : ∃ y_ : List (S38), y_ = (x7_1 ++ [(⟨(rd_T45 l0 x8_1).f1, (⟨a2_0, (rd_T45 l0 x8_1).f3, a2_2, a2_3, l2_4⟩ : S25)⟩ : S38)]) := ⟨_, rfl⟩
           replace H : (phaetonref12_Hops.l0 kj7 l0 a1 y225 (wrap64 (x8_1 + 1)) a2_0 a2_1 a2_2 a2_3 l2_4) = some r := by first | (rw [hy225]; with_reducible exact H) | (have H2_ := (Option.bind_some _ _).symm.trans H; rw [hy225]; with_reducible exact H2_) | (have H2_ := (Option.bind_some _ _).symm.trans H; with_reducible exact H2_) | with_reducible exact H | (rw [hy225]; exact H) | exact H
           have Ny225 := aM hy225
           clear hy225
           have H' := aM H
           clear H
           have hcz20_0 : wc.cell? ⟨gb214, 0, none⟩ = some (.bool a2_0) := (bC BK214.out 0).trans rfl
           have hcz20_1 : wc.cell? ⟨gb214, 1, none⟩ = some (.int .i64 a2_1) := (bC BK214.out 1).trans rfl
           have hcz20_2 : wc.cell? ⟨gb214, 2, none⟩ = some (.bool a2_2) := (bC BK214.out 2).trans rfl
           have hcz20_3 : wc.cell? ⟨gb214, 3, none⟩ = some (.int .i64 a2_3) := (bC BK214.out 3).trans rfl
           have hcz20_4 : wc.cell? ⟨gb214, 4, none⟩ = some (.slice A2_4 l2_4.length c2_4) := (bC BK214.out 4).trans rfl
           have hfz20_0 := bF BK214.out 0
           have hfz20_1 := bF BK214.out 1
           have hfz20_2 := bF BK214.out 2
           have hfz20_3 := bF BK214.out 3
           have hfz20_4 := bF BK214.out 4
           (try have ltq_ := blk_lt BK214.out)
           try go_wp2_with (first | ((with_reducible refine gate_dst (N := 9) rfl ?_); refine box_event ?hg (N := 9) ?hd (cs := #[.bool false, .int .i64 0, .bool false, .int .i64 0, .slice none 0 0]) (t := 25) ?hr ?_; (case hd => rfl); (case hg => rfl); (case hr => first | (go_simp; done) | (go_simp; rfl)); intro gb221 hg w21 hbox hb; have n0_ := aM (Kd.N_below (Kd.N_elderB (by (with_reducible repeat (first | apply Kd.N_alloc | apply Kd.N_drewN | apply Kd.N_drew)); exact HO_7.out) gb221 (Nat.le_of_eq hg.symm)) hb); have n1_ := aM (Kd.V_below (Kd.V_elderB (by (with_reducible repeat (first | apply Kd.V_alloc | apply Kd.V_drewN | apply Kd.V_drew)); exact HO_215004.out) gb221 (Nat.le_of_eq hg.symm)) hb); have n2_ := aM (blk_below (g := gb214) (o := .cells #[.bool a2_0, .int .i64 a2_1, .bool a2_2, .int .i64 a2_3, .slice A2_4 l2_4.length c2_4] 25 (0, 0)) (by (with_reducible repeat (first | refine bN ?_ _ | refine bW ?_ | refine bA ?_ _)); exact BK214.out) hb); have n3_ := aM (lT (by repeat (first | (with_reducible first | exact HB.out | apply lA | apply lN | apply lW | refine lS ?_ GE214.out) | exact HB.out)) hb); have n4_ := aM (hbox); have n5_ := aM ((by rw [hg]; exact (lZ (by repeat (first | (with_reducible first | exact HB.out | apply lA | apply lN | apply lW | refine lS ?_ GE214.out) | exact HB.out))) : w.heap.size ≤ gb221)); have n6_ := aM ((by rw [hg]; exact (lZ (by repeat (first | (with_reducible first | exact HB.out | apply lA | apply lN | apply lW | refine lS ?_ GE214.out) | exact HB.out))) : w.heap.size ≤ gb221)); have n7_ := aM ((by rw [hg]; exact Nat.ne_of_lt (blk_lt (g := gb214) (o := .cells #[.bool a2_0, .int .i64 a2_1, .bool a2_2, .int .i64 a2_3, .slice A2_4 l2_4.length c2_4] 25 (0, 0)) (by (with_reducible repeat (first | refine bN ?_ _ | refine bW ?_ | refine bA ?_ _)); exact BK214.out)) : gb214 ≠ gb221)); have n8_ := aM ((by rw [hg]; exact Nat.ne_of_gt (blk_lt (g := gb214) (o := .cells #[.bool a2_0, .int .i64 a2_1, .bool a2_2, .int .i64 a2_3, .slice A2_4 l2_4.length c2_4] 25 (0, 0)) (by (with_reducible repeat (first | refine bN ?_ _ | refine bW ?_ | refine bA ?_ _)); exact BK214.out)) : gb221 ≠ gb214)); clear HO_7; clear HO_215004; clear BK214; clear HB; have HO_7 := n0_; have HO_215004 := n1_; have BK214 := n2_; have HB := n3_; have BK221 := n4_; have GW221 := n5_; have GE221 := n6_; have NB214_221 := n7_; have NB221_214 := n8_; clear n0_ n1_ n2_ n3_ n4_ n5_ n6_ n7_ n8_; clear hb hbox hg; have hnb22 := NB221_214.out; have hnc22 := NB214_221.out; have hcz23_0 : w21.cell? ⟨gb221, 0, none⟩ = some (.bool false) := (bC BK221.out 0).trans rfl; have hcz23_1 : w21.cell? ⟨gb221, 1, none⟩ = some (.int .i64 0) := (bC BK221.out 1).trans rfl; have hcz23_2 : w21.cell? ⟨gb221, 2, none⟩ = some (.bool false) := (bC BK221.out 2).trans rfl; have hcz23_3 : w21.cell? ⟨gb221, 3, none⟩ = some (.int .i64 0) := (bC BK221.out 3).trans rfl; have hcz23_4 : w21.cell? ⟨gb221, 4, none⟩ = some (.slice none 0 0) := (bC BK221.out 4).trans rfl; have hfz23_0 := bF BK221.out 0; have hfz23_1 := bF BK221.out 1; have hfz23_2 := bF BK221.out 2; have hfz23_3 := bF BK221.out 3; have hfz23_4 := bF BK221.out 4; have p222 : 0 ≤ (x8_1 : Int) := oD (by first | (with_reducible assumption) | assumption); have q222 : x8_1 < (l0.length : Int) := oD (by first | (with_reducible assumption) | assumption); obtain ⟨ad222, e222, hx222_0, hx222_1, hx222_2, hx222_3, hx222_4, hx222_5⟩ := at_T45 HR0.out x8_1 p222 q222; cases e222; have hn222_0 : ad222.block ≠ gb221 := Nat.ne_of_lt (Nat.lt_of_lt_of_le (by have := wl _ _ hx222_0; first | rwa [aB] at this | exact this) GW221.out); have hn222_1 : ad222.block ≠ gb221 := Nat.ne_of_lt (Nat.lt_of_lt_of_le (by have := wl _ _ hx222_0; first | rwa [aB] at this | exact this) GW221.out); have hn222_2 : ad222.block ≠ gb221 := Nat.ne_of_lt (Nat.lt_of_lt_of_le (by have := wl _ _ hx222_0; first | rwa [aB] at this | exact this) GW221.out); have hn222_3 : ad222.block ≠ gb221 := Nat.ne_of_lt (Nat.lt_of_lt_of_le (by have := wl _ _ hx222_0; first | rwa [aB] at this | exact this) GW221.out); have hn222_4 : ad222.block ≠ gb221 := Nat.ne_of_lt (Nat.lt_of_lt_of_le (by have := wl _ _ hx222_0; first | rwa [aB] at this | exact this) GW221.out); replace hx222_0 := (HB.out.cell (wl w _ hx222_0)).trans hx222_0; replace hx222_1 := (HB.out.cell (wl w _ hx222_1)).trans hx222_1; replace hx222_2 := (HB.out.cell (wl w _ hx222_2)).trans hx222_2; replace hx222_3 := (HB.out.cell (wl w _ hx222_3)).trans hx222_3; replace hx222_4 := (HB.out.cell (wl w _ hx222_4)).trans hx222_4; replace hx222_5 := (HB.out.cell (wl w _ hx222_5)).trans hx222_5; replace hx222_0 := (cell_far (p := ⟨gb221, 0, none⟩) (by first | (rw [aB]; exact hn222_0) | (show (Addr.add _ _).block ≠ _; rw [aB]; exact hn222_0) | exact hn222_0) (.bool a2_0)).trans hx222_0; replace hx222_1 := (cell_far (p := ⟨gb221, 0, none⟩) (by first | (rw [aB]; exact hn222_0) | (show (Addr.add _ _).block ≠ _; rw [aB]; exact hn222_0) | exact hn222_0) (.bool a2_0)).trans hx222_1; replace hx222_2 := (cell_far (p := ⟨gb221, 0, none⟩) (by first | (rw [aB]; exact hn222_0) | (show (Addr.add _ _).block ≠ _; rw [aB]; exact hn222_0) | exact hn222_0) (.bool a2_0)).trans hx222_2; replace hx222_3 := (cell_far (p := ⟨gb221, 0, none⟩) (by first | (rw [aB]; exact hn222_0) | (show (Addr.add _ _).block ≠ _; rw [aB]; exact hn222_0) | exact hn222_0) (.bool a2_0)).trans hx222_3; replace hx222_4 := (cell_far (p := ⟨gb221, 0, none⟩) (by first | (rw [aB]; exact hn222_0) | (show (Addr.add _ _).block ≠ _; rw [aB]; exact hn222_0) | exact hn222_0) (.bool a2_0)).trans hx222_4; replace hx222_5 := (cell_far (p := ⟨gb221, 0, none⟩) (by first | (rw [aB]; exact hn222_0) | (show (Addr.add _ _).block ≠ _; rw [aB]; exact hn222_0) | exact hn222_0) (.bool a2_0)).trans hx222_5; replace hx222_0 := (cell_far (p := ⟨gb221, 1, none⟩) (by first | (rw [aB]; exact hn222_1) | (show (Addr.add _ _).block ≠ _; rw [aB]; exact hn222_1) | exact hn222_1) (.int .i64 a2_1)).trans hx222_0; replace hx222_1 := (cell_far (p := ⟨gb221, 1, none⟩) (by first | (rw [aB]; exact hn222_1) | (show (Addr.add _ _).block ≠ _; rw [aB]; exact hn222_1) | exact hn222_1) (.int .i64 a2_1)).trans hx222_1; replace hx222_2 := (cell_far (p := ⟨gb221, 1, none⟩) (by first | (rw [aB]; exact hn222_1) | (show (Addr.add _ _).block ≠ _; rw [aB]; exact hn222_1) | exact hn222_1) (.int .i64 a2_1)).trans hx222_2; replace hx222_3 := (cell_far (p := ⟨gb221, 1, none⟩) (by first | (rw [aB]; exact hn222_1) | (show (Addr.add _ _).block ≠ _; rw [aB]; exact hn222_1) | exact hn222_1) (.int .i64 a2_1)).trans hx222_3; replace hx222_4 := (cell_far (p := ⟨gb221, 1, none⟩) (by first | (rw [aB]; exact hn222_1) | (show (Addr.add _ _).block ≠ _; rw [aB]; exact hn222_1) | exact hn222_1) (.int .i64 a2_1)).trans hx222_4; replace hx222_5 := (cell_far (p := ⟨gb221, 1, none⟩) (by first | (rw [aB]; exact hn222_1) | (show (Addr.add _ _).block ≠ _; rw [aB]; exact hn222_1) | exact hn222_1) (.int .i64 a2_1)).trans hx222_5; replace hx222_0 := (cell_far (p := ⟨gb221, 2, none⟩) (by first | (rw [aB]; exact hn222_2) | (show (Addr.add _ _).block ≠ _; rw [aB]; exact hn222_2) | exact hn222_2) (.bool a2_2)).trans hx222_0; replace hx222_1 := (cell_far (p := ⟨gb221, 2, none⟩) (by first | (rw [aB]; exact hn222_2) | (show (Addr.add _ _).block ≠ _; rw [aB]; exact hn222_2) | exact hn222_2) (.bool a2_2)).trans hx222_1; replace hx222_2 := (cell_far (p := ⟨gb221, 2, none⟩) (by first | (rw [aB]; exact hn222_2) | (show (Addr.add _ _).block ≠ _; rw [aB]; exact hn222_2) | exact hn222_2) (.bool a2_2)).trans hx222_2; replace hx222_3 := (cell_far (p := ⟨gb221, 2, none⟩) (by first | (rw [aB]; exact hn222_2) | (show (Addr.add _ _).block ≠ _; rw [aB]; exact hn222_2) | exact hn222_2) (.bool a2_2)).trans hx222_3; replace hx222_4 := (cell_far (p := ⟨gb221, 2, none⟩) (by first | (rw [aB]; exact hn222_2) | (show (Addr.add _ _).block ≠ _; rw [aB]; exact hn222_2) | exact hn222_2) (.bool a2_2)).trans hx222_4; replace hx222_5 := (cell_far (p := ⟨gb221, 2, none⟩) (by first | (rw [aB]; exact hn222_2) | (show (Addr.add _ _).block ≠ _; rw [aB]; exact hn222_2) | exact hn222_2) (.bool a2_2)).trans hx222_5; replace hx222_0 := (cell_far (p := ⟨gb221, 3, none⟩) (by first | (rw [aB]; exact hn222_3) | (show (Addr.add _ _).block ≠ _; rw [aB]; exact hn222_3) | exact hn222_3) (.int .i64 a2_3)).trans hx222_0; replace hx222_1 := (cell_far (p := ⟨gb221, 3, none⟩) (by first | (rw [aB]; exact hn222_3) | (show (Addr.add _ _).block ≠ _; rw [aB]; exact hn222_3) | exact hn222_3) (.int .i64 a2_3)).trans hx222_1; replace hx222_2 := (cell_far (p := ⟨gb221, 3, none⟩) (by first | (rw [aB]; exact hn222_3) | (show (Addr.add _ _).block ≠ _; rw [aB]; exact hn222_3) | exact hn222_3) (.int .i64 a2_3)).trans hx222_2; replace hx222_3 := (cell_far (p := ⟨gb221, 3, none⟩) (by first | (rw [aB]; exact hn222_3) | (show (Addr.add _ _).block ≠ _; rw [aB]; exact hn222_3) | exact hn222_3) (.int .i64 a2_3)).trans hx222_3; replace hx222_4 := (cell_far (p := ⟨gb221, 3, none⟩) (by first | (rw [aB]; exact hn222_3) | (show (Addr.add _ _).block ≠ _; rw [aB]; exact hn222_3) | exact hn222_3) (.int .i64 a2_3)).trans hx222_4; replace hx222_5 := (cell_far (p := ⟨gb221, 3, none⟩) (by first | (rw [aB]; exact hn222_3) | (show (Addr.add _ _).block ≠ _; rw [aB]; exact hn222_3) | exact hn222_3) (.int .i64 a2_3)).trans hx222_5; replace hx222_0 := (cell_far (p := ⟨gb221, 4, none⟩) (by first | (rw [aB]; exact hn222_4) | (show (Addr.add _ _).block ≠ _; rw [aB]; exact hn222_4) | exact hn222_4) (.slice A2_4 l2_4.length c2_4)).trans hx222_0; replace hx222_1 := (cell_far (p := ⟨gb221, 4, none⟩) (by first | (rw [aB]; exact hn222_4) | (show (Addr.add _ _).block ≠ _; rw [aB]; exact hn222_4) | exact hn222_4) (.slice A2_4 l2_4.length c2_4)).trans hx222_1; replace hx222_2 := (cell_far (p := ⟨gb221, 4, none⟩) (by first | (rw [aB]; exact hn222_4) | (show (Addr.add _ _).block ≠ _; rw [aB]; exact hn222_4) | exact hn222_4) (.slice A2_4 l2_4.length c2_4)).trans hx222_2; replace hx222_3 := (cell_far (p := ⟨gb221, 4, none⟩) (by first | (rw [aB]; exact hn222_4) | (show (Addr.add _ _).block ≠ _; rw [aB]; exact hn222_4) | exact hn222_4) (.slice A2_4 l2_4.length c2_4)).trans hx222_3; replace hx222_4 := (cell_far (p := ⟨gb221, 4, none⟩) (by first | (rw [aB]; exact hn222_4) | (show (Addr.add _ _).block ≠ _; rw [aB]; exact hn222_4) | exact hn222_4) (.slice A2_4 l2_4.length c2_4)).trans hx222_4; replace hx222_5 := (cell_far (p := ⟨gb221, 4, none⟩) (by first | (rw [aB]; exact hn222_4) | (show (Addr.add _ _).block ≠ _; rw [aB]; exact hn222_4) | exact hn222_4) (.slice A2_4 l2_4.length c2_4)).trans hx222_5; clear hn222_0; clear hn222_1; clear hn222_2; clear hn222_3; clear hn222_4; replace p222 := eq_true p222; replace q222 := eq_true q222; have p223 : 0 ≤ (x8_1 : Int) := oD (by first | (with_reducible assumption) | assumption); have q223 : x8_1 < (l0.length : Int) := oD (by first | (with_reducible assumption) | assumption); obtain ⟨ad223, e223, hx223_0, hx223_1, hx223_2, hx223_3, hx223_4, hx223_5⟩ := at_T45 HR0.out x8_1 p223 q223; obtain rfl : ad222 = ad223 := (by injection e223); have hn223_0 : ad222.block ≠ gb221 := Nat.ne_of_lt (Nat.lt_of_lt_of_le (by have := wl _ _ hx223_0; first | rwa [aB] at this | exact this) GW221.out); have hn223_1 : ad222.block ≠ gb221 := Nat.ne_of_lt (Nat.lt_of_lt_of_le (by have := wl _ _ hx223_0; first | rwa [aB] at this | exact this) GW221.out); have hn223_2 : ad222.block ≠ gb221 := Nat.ne_of_lt (Nat.lt_of_lt_of_le (by have := wl _ _ hx223_0; first | rwa [aB] at this | exact this) GW221.out); have hn223_3 : ad222.block ≠ gb221 := Nat.ne_of_lt (Nat.lt_of_lt_of_le (by have := wl _ _ hx223_0; first | rwa [aB] at this | exact this) GW221.out); have hn223_4 : ad222.block ≠ gb221 := Nat.ne_of_lt (Nat.lt_of_lt_of_le (by have := wl _ _ hx223_0; first | rwa [aB] at this | exact this) GW221.out); replace hx223_0 := (HB.out.cell (wl w _ hx223_0)).trans hx223_0; replace hx223_1 := (HB.out.cell (wl w _ hx223_1)).trans hx223_1; replace hx223_2 := (HB.out.cell (wl w _ hx223_2)).trans hx223_2; replace hx223_3 := (HB.out.cell (wl w _ hx223_3)).trans hx223_3; replace hx223_4 := (HB.out.cell (wl w _ hx223_4)).trans hx223_4; replace hx223_5 := (HB.out.cell (wl w _ hx223_5)).trans hx223_5; replace hx223_0 := (cell_far (p := ⟨gb221, 0, none⟩) (by first | (rw [aB]; exact hn223_0) | (show (Addr.add _ _).block ≠ _; rw [aB]; exact hn223_0) | exact hn223_0) (.bool a2_0)).trans hx223_0; replace hx223_1 := (cell_far (p := ⟨gb221, 0, none⟩) (by first | (rw [aB]; exact hn223_0) | (show (Addr.add _ _).block ≠ _; rw [aB]; exact hn223_0) | exact hn223_0) (.bool a2_0)).trans hx223_1; replace hx223_2 := (cell_far (p := ⟨gb221, 0, none⟩) (by first | (rw [aB]; exact hn223_0) | (show (Addr.add _ _).block ≠ _; rw [aB]; exact hn223_0) | exact hn223_0) (.bool a2_0)).trans hx223_2; replace hx223_3 := (cell_far (p := ⟨gb221, 0, none⟩) (by first | (rw [aB]; exact hn223_0) | (show (Addr.add _ _).block ≠ _; rw [aB]; exact hn223_0) | exact hn223_0) (.bool a2_0)).trans hx223_3; replace hx223_4 := (cell_far (p := ⟨gb221, 0, none⟩) (by first | (rw [aB]; exact hn223_0) | (show (Addr.add _ _).block ≠ _; rw [aB]; exact hn223_0) | exact hn223_0) (.bool a2_0)).trans hx223_4; replace hx223_5 := (cell_far (p := ⟨gb221, 0, none⟩) (by first | (rw [aB]; exact hn223_0) | (show (Addr.add _ _).block ≠ _; rw [aB]; exact hn223_0) | exact hn223_0) (.bool a2_0)).trans hx223_5; replace hx223_0 := (cell_far (p := ⟨gb221, 1, none⟩) (by first | (rw [aB]; exact hn223_1) | (show (Addr.add _ _).block ≠ _; rw [aB]; exact hn223_1) | exact hn223_1) (.int .i64 a2_1)).trans hx223_0; replace hx223_1 := (cell_far (p := ⟨gb221, 1, none⟩) (by first | (rw [aB]; exact hn223_1) | (show (Addr.add _ _).block ≠ _; rw [aB]; exact hn223_1) | exact hn223_1) (.int .i64 a2_1)).trans hx223_1; replace hx223_2 := (cell_far (p := ⟨gb221, 1, none⟩) (by first | (rw [aB]; exact hn223_1) | (show (Addr.add _ _).block ≠ _; rw [aB]; exact hn223_1) | exact hn223_1) (.int .i64 a2_1)).trans hx223_2; replace hx223_3 := (cell_far (p := ⟨gb221, 1, none⟩) (by first | (rw [aB]; exact hn223_1) | (show (Addr.add _ _).block ≠ _; rw [aB]; exact hn223_1) | exact hn223_1) (.int .i64 a2_1)).trans hx223_3; replace hx223_4 := (cell_far (p := ⟨gb221, 1, none⟩) (by first | (rw [aB]; exact hn223_1) | (show (Addr.add _ _).block ≠ _; rw [aB]; exact hn223_1) | exact hn223_1) (.int .i64 a2_1)).trans hx223_4; replace hx223_5 := (cell_far (p := ⟨gb221, 1, none⟩) (by first | (rw [aB]; exact hn223_1) | (show (Addr.add _ _).block ≠ _; rw [aB]; exact hn223_1) | exact hn223_1) (.int .i64 a2_1)).trans hx223_5; replace hx223_0 := (cell_far (p := ⟨gb221, 2, none⟩) (by first | (rw [aB]; exact hn223_2) | (show (Addr.add _ _).block ≠ _; rw [aB]; exact hn223_2) | exact hn223_2) (.bool a2_2)).trans hx223_0; replace hx223_1 := (cell_far (p := ⟨gb221, 2, none⟩) (by first | (rw [aB]; exact hn223_2) | (show (Addr.add _ _).block ≠ _; rw [aB]; exact hn223_2) | exact hn223_2) (.bool a2_2)).trans hx223_1; replace hx223_2 := (cell_far (p := ⟨gb221, 2, none⟩) (by first | (rw [aB]; exact hn223_2) | (show (Addr.add _ _).block ≠ _; rw [aB]; exact hn223_2) | exact hn223_2) (.bool a2_2)).trans hx223_2; replace hx223_3 := (cell_far (p := ⟨gb221, 2, none⟩) (by first | (rw [aB]; exact hn223_2) | (show (Addr.add _ _).block ≠ _; rw [aB]; exact hn223_2) | exact hn223_2) (.bool a2_2)).trans hx223_3; replace hx223_4 := (cell_far (p := ⟨gb221, 2, none⟩) (by first | (rw [aB]; exact hn223_2) | (show (Addr.add _ _).block ≠ _; rw [aB]; exact hn223_2) | exact hn223_2) (.bool a2_2)).trans hx223_4; replace hx223_5 := (cell_far (p := ⟨gb221, 2, none⟩) (by first | (rw [aB]; exact hn223_2) | (show (Addr.add _ _).block ≠ _; rw [aB]; exact hn223_2) | exact hn223_2) (.bool a2_2)).trans hx223_5; replace hx223_0 := (cell_far (p := ⟨gb221, 3, none⟩) (by first | (rw [aB]; exact hn223_3) | (show (Addr.add _ _).block ≠ _; rw [aB]; exact hn223_3) | exact hn223_3) (.int .i64 a2_3)).trans hx223_0; replace hx223_1 := (cell_far (p := ⟨gb221, 3, none⟩) (by first | (rw [aB]; exact hn223_3) | (show (Addr.add _ _).block ≠ _; rw [aB]; exact hn223_3) | exact hn223_3) (.int .i64 a2_3)).trans hx223_1; replace hx223_2 := (cell_far (p := ⟨gb221, 3, none⟩) (by first | (rw [aB]; exact hn223_3) | (show (Addr.add _ _).block ≠ _; rw [aB]; exact hn223_3) | exact hn223_3) (.int .i64 a2_3)).trans hx223_2; replace hx223_3 := (cell_far (p := ⟨gb221, 3, none⟩) (by first | (rw [aB]; exact hn223_3) | (show (Addr.add _ _).block ≠ _; rw [aB]; exact hn223_3) | exact hn223_3) (.int .i64 a2_3)).trans hx223_3; replace hx223_4 := (cell_far (p := ⟨gb221, 3, none⟩) (by first | (rw [aB]; exact hn223_3) | (show (Addr.add _ _).block ≠ _; rw [aB]; exact hn223_3) | exact hn223_3) (.int .i64 a2_3)).trans hx223_4; replace hx223_5 := (cell_far (p := ⟨gb221, 3, none⟩) (by first | (rw [aB]; exact hn223_3) | (show (Addr.add _ _).block ≠ _; rw [aB]; exact hn223_3) | exact hn223_3) (.int .i64 a2_3)).trans hx223_5; replace hx223_0 := (cell_far (p := ⟨gb221, 4, none⟩) (by first | (rw [aB]; exact hn223_4) | (show (Addr.add _ _).block ≠ _; rw [aB]; exact hn223_4) | exact hn223_4) (.slice A2_4 l2_4.length c2_4)).trans hx223_0; replace hx223_1 := (cell_far (p := ⟨gb221, 4, none⟩) (by first | (rw [aB]; exact hn223_4) | (show (Addr.add _ _).block ≠ _; rw [aB]; exact hn223_4) | exact hn223_4) (.slice A2_4 l2_4.length c2_4)).trans hx223_1; replace hx223_2 := (cell_far (p := ⟨gb221, 4, none⟩) (by first | (rw [aB]; exact hn223_4) | (show (Addr.add _ _).block ≠ _; rw [aB]; exact hn223_4) | exact hn223_4) (.slice A2_4 l2_4.length c2_4)).trans hx223_2; replace hx223_3 := (cell_far (p := ⟨gb221, 4, none⟩) (by first | (rw [aB]; exact hn223_4) | (show (Addr.add _ _).block ≠ _; rw [aB]; exact hn223_4) | exact hn223_4) (.slice A2_4 l2_4.length c2_4)).trans hx223_3; replace hx223_4 := (cell_far (p := ⟨gb221, 4, none⟩) (by first | (rw [aB]; exact hn223_4) | (show (Addr.add _ _).block ≠ _; rw [aB]; exact hn223_4) | exact hn223_4) (.slice A2_4 l2_4.length c2_4)).trans hx223_4; replace hx223_5 := (cell_far (p := ⟨gb221, 4, none⟩) (by first | (rw [aB]; exact hn223_4) | (show (Addr.add _ _).block ≠ _; rw [aB]; exact hn223_4) | exact hn223_4) (.slice A2_4 l2_4.length c2_4)).trans hx223_5; clear hn223_0; clear hn223_1; clear hn223_2; clear hn223_3; clear hn223_4; replace p223 := eq_true p223; replace q223 := eq_true q223))
           have n0_ : Aside0 (Kd.N k38 38 ((((((w21.setCell ⟨gb221, 0, none⟩ (.bool a2_0)).setCell ⟨gb221, 1, none⟩ (.int .i64 a2_1)).setCell ⟨gb221, 2, none⟩ (.bool a2_2)).setCell ⟨gb221, 3, none⟩ (.int .i64 a2_3)).setCell ⟨gb221, 4, none⟩ (.slice A2_4 l2_4.length c2_4)).setCell ⟨gb221, 1, none⟩ (.int .i64 ((rd_T45 l0 x8_1).f3))) w.heap.size (fun k_ => (P2_4_ k_ ∨ w.heap.size ≤ k_) ∧ k_ ≠ gb214 ∧ k_ ≠ gb221) u7 x7_1) := ⟨by (with_reducible repeat (first | apply Kd.N_alloc | apply Kd.N_drewN | apply Kd.N_drew)); exact Kd.N_mono (Kd.N_far (p := ⟨gb221, 1, none⟩) (Kd.N_far (p := ⟨gb221, 4, none⟩) (Kd.N_far (p := ⟨gb221, 3, none⟩) (Kd.N_far (p := ⟨gb221, 2, none⟩) (Kd.N_far (p := ⟨gb221, 1, none⟩) (Kd.N_far (p := ⟨gb221, 0, none⟩) (Kd.N_mono HO_7.out (fun k_ hk => (⟨hk, hk.2⟩ : _ ∧ k_ ≠ gb221))) (fun _ hk => hk.2) (.bool a2_0)) (fun _ hk => hk.2) (.int .i64 a2_1)) (fun _ hk => hk.2) (.bool a2_2)) (fun _ hk => hk.2) (.int .i64 a2_3)) (fun _ hk => hk.2) (.slice A2_4 l2_4.length c2_4)) (fun _ hk => hk.2) (.int .i64 ((rd_T45 l0 x8_1).f3))) (fun _ hk => ⟨hk.1.1.1, ⟨hk.1.1.2, hk.1.2⟩⟩)⟩
           have n1_ : Aside0 (Kd.V (Kd.int .u8) 5 ((((((w21.setCell ⟨gb221, 0, none⟩ (.bool a2_0)).setCell ⟨gb221, 1, none⟩ (.int .i64 a2_1)).setCell ⟨gb221, 2, none⟩ (.bool a2_2)).setCell ⟨gb221, 3, none⟩ (.int .i64 a2_3)).setCell ⟨gb221, 4, none⟩ (.slice A2_4 l2_4.length c2_4)).setCell ⟨gb221, 1, none⟩ (.int .i64 ((rd_T45 l0 x8_1).f3))) w.heap.size (fun k_ => (P2_4_ k_ ∨ w.heap.size ≤ k_) ∧ some k_ ≠ (u7 : Value).ownBlock ∧ k_ ≠ gb214 ∧ k_ ≠ gb221) (.slice A2_4 l2_4.length c2_4) l2_4) := ⟨by (with_reducible repeat (first | apply Kd.V_alloc | apply Kd.V_drewN | apply Kd.V_drew)); exact Kd.V_mono (Kd.V_far (p := ⟨gb221, 1, none⟩) (Kd.V_far (p := ⟨gb221, 4, none⟩) (Kd.V_far (p := ⟨gb221, 3, none⟩) (Kd.V_far (p := ⟨gb221, 2, none⟩) (Kd.V_far (p := ⟨gb221, 1, none⟩) (Kd.V_far (p := ⟨gb221, 0, none⟩) (Kd.V_mono HO_215004.out (fun k_ hk => (⟨hk, hk.2⟩ : _ ∧ k_ ≠ gb221))) (fun _ hk => hk.2) (.bool a2_0)) (fun _ hk => hk.2) (.int .i64 a2_1)) (fun _ hk => hk.2) (.bool a2_2)) (fun _ hk => hk.2) (.int .i64 a2_3)) (fun _ hk => hk.2) (.slice A2_4 l2_4.length c2_4)) (fun _ hk => hk.2) (.int .i64 ((rd_T45 l0 x8_1).f3))) (fun _ hk => ⟨hk.1.1.1, ⟨hk.1.1.2.1, ⟨hk.1.1.2.2, hk.1.2⟩⟩⟩)⟩
           have n2_ : Aside0 (((((((w21.setCell ⟨gb221, 0, none⟩ (.bool a2_0)).setCell ⟨gb221, 1, none⟩ (.int .i64 a2_1)).setCell ⟨gb221, 2, none⟩ (.bool a2_2)).setCell ⟨gb221, 3, none⟩ (.int .i64 a2_3)).setCell ⟨gb221, 4, none⟩ (.slice A2_4 l2_4.length c2_4)).setCell ⟨gb221, 1, none⟩ (.int .i64 ((rd_T45 l0 x8_1).f3))).heap[gb214]? = some (.cells #[.bool a2_0, .int .i64 a2_1, .bool a2_2, .int .i64 a2_3, .slice A2_4 l2_4.length c2_4] 25 (0, 0))) := ⟨by (with_reducible repeat (first | refine bN ?_ _ | refine bW ?_ | refine bA ?_ _)); refine blk_far ?_ NB214_221.out _; (with_reducible repeat (first | refine bN ?_ _ | refine bW ?_ | refine bA ?_ _)); refine blk_far ?_ NB214_221.out _; (with_reducible repeat (first | refine bN ?_ _ | refine bW ?_ | refine bA ?_ _)); refine blk_far ?_ NB214_221.out _; (with_reducible repeat (first | refine bN ?_ _ | refine bW ?_ | refine bA ?_ _)); refine blk_far ?_ NB214_221.out _; (with_reducible repeat (first | refine bN ?_ _ | refine bW ?_ | refine bA ?_ _)); refine blk_far ?_ NB214_221.out _; (with_reducible repeat (first | refine bN ?_ _ | refine bW ?_ | refine bA ?_ _)); refine blk_far ?_ NB214_221.out _; (with_reducible repeat (first | refine bN ?_ _ | refine bW ?_ | refine bA ?_ _)); exact BK214.out⟩
           have n3_ : Aside0 (((((((w21.setCell ⟨gb221, 0, none⟩ (.bool a2_0)).setCell ⟨gb221, 1, none⟩ (.int .i64 a2_1)).setCell ⟨gb221, 2, none⟩ (.bool a2_2)).setCell ⟨gb221, 3, none⟩ (.int .i64 a2_3)).setCell ⟨gb221, 4, none⟩ (.slice A2_4 l2_4.length c2_4)).setCell ⟨gb221, 1, none⟩ (.int .i64 ((rd_T45 l0 x8_1).f3))).heap[gb221]? = some (.cells #[.bool a2_0, .int .i64 ((rd_T45 l0 x8_1).f3), .bool a2_2, .int .i64 a2_3, .slice A2_4 l2_4.length c2_4] 25 (0, 0))) := ⟨by (with_reducible repeat (first | refine bN ?_ _ | refine bW ?_ | refine bA ?_ _)); refine blk_put (cs := #[.bool a2_0, .int .i64 a2_1, .bool a2_2, .int .i64 a2_3, .slice A2_4 l2_4.length c2_4]) ?_ 1 _ rfl; (with_reducible repeat (first | refine bN ?_ _ | refine bW ?_ | refine bA ?_ _)); refine blk_put (cs := #[.bool a2_0, .int .i64 a2_1, .bool a2_2, .int .i64 a2_3, .slice none 0 0]) ?_ 4 _ rfl; (with_reducible repeat (first | refine bN ?_ _ | refine bW ?_ | refine bA ?_ _)); refine blk_put (cs := #[.bool a2_0, .int .i64 a2_1, .bool a2_2, .int .i64 0, .slice none 0 0]) ?_ 3 _ rfl; (with_reducible repeat (first | refine bN ?_ _ | refine bW ?_ | refine bA ?_ _)); refine blk_put (cs := #[.bool a2_0, .int .i64 a2_1, .bool false, .int .i64 0, .slice none 0 0]) ?_ 2 _ rfl; (with_reducible repeat (first | refine bN ?_ _ | refine bW ?_ | refine bA ?_ _)); refine blk_put (cs := #[.bool a2_0, .int .i64 0, .bool false, .int .i64 0, .slice none 0 0]) ?_ 1 _ rfl; (with_reducible repeat (first | refine bN ?_ _ | refine bW ?_ | refine bA ?_ _)); refine blk_put (cs := #[.bool false, .int .i64 0, .bool false, .int .i64 0, .slice none 0 0]) ?_ 0 _ rfl; (with_reducible repeat (first | refine bN ?_ _ | refine bW ?_ | refine bA ?_ _)); exact BK221.out⟩
           have n4_ : Aside0 (Below w.heap.size w ((((((w21.setCell ⟨gb221, 0, none⟩ (.bool a2_0)).setCell ⟨gb221, 1, none⟩ (.int .i64 a2_1)).setCell ⟨gb221, 2, none⟩ (.bool a2_2)).setCell ⟨gb221, 3, none⟩ (.int .i64 a2_3)).setCell ⟨gb221, 4, none⟩ (.slice A2_4 l2_4.length c2_4)).setCell ⟨gb221, 1, none⟩ (.int .i64 ((rd_T45 l0 x8_1).f3)))) := ⟨by repeat (first | (with_reducible first | exact HB.out | apply lA | apply lN | apply lW | refine lS ?_ GE214.out | refine lS ?_ GE221.out) | exact HB.out)⟩
           (try clear HO_7)
           (try clear HO_215004)
           (try clear BK214)
           (try clear BK221)
           (try clear HB)
           generalize ((((((w21.setCell ⟨gb221, 0, none⟩ (.bool a2_0)).setCell ⟨gb221, 1, none⟩ (.int .i64 a2_1)).setCell ⟨gb221, 2, none⟩ (.bool a2_2)).setCell ⟨gb221, 3, none⟩ (.int .i64 a2_3)).setCell ⟨gb221, 4, none⟩ (.slice A2_4 l2_4.length c2_4)).setCell ⟨gb221, 1, none⟩ (.int .i64 ((rd_T45 l0 x8_1).f3))) = w24 at n0_ n1_ n2_ n3_ n4_ ⊢
           have HO_7 := n0_
           have HO_215004 := n1_
           have BK214 := n2_
           have BK221 := n3_
           have HB := n4_
           clear n0_ n1_ n2_ n3_ n4_
           have n0_ := aM (Kd.N_drew HO_7.out)
           have n1_ := aM (Kd.V_drew HO_215004.out)
           have n2_ := aM (bW BK214.out)
           have n3_ := aM (bW BK221.out)
           have n4_ := aM (lW HB.out)
           clear HO_7
           clear HO_215004
           clear BK214
           clear BK221
           clear HB
           have HO_7 := n0_
           have HO_215004 := n1_
           have BK214 := n2_
           have BK221 := n3_
           have HB := n4_
           clear n0_ n1_ n2_ n3_ n4_
           have p224 : 0 ≤ (x8_1 : Int) := oD (by first | (with_reducible assumption) | assumption)
           have q224 : x8_1 < (l0.length : Int) := oD (by first | (with_reducible assumption) | assumption)
           obtain ⟨ad224, e224, hx224_0, hx224_1, hx224_2, hx224_3, hx224_4, hx224_5⟩ := at_T45 HR0.out x8_1 p224 q224
           have hw224_5 := hx224_5
           have hw224_4 := hx224_4
           have hw224_3 := hx224_3
           have hw224_2 := hx224_2
           have hw224_1 := hx224_1
           have hw224_0 := hx224_0
           obtain rfl : ad222 = ad224 := (by injection e224)
           replace hx224_0 := (HB.out.cell (wl w _ hx224_0)).trans hx224_0
           replace hx224_1 := (HB.out.cell (wl w _ hx224_1)).trans hx224_1
           replace hx224_2 := (HB.out.cell (wl w _ hx224_2)).trans hx224_2
           replace hx224_3 := (HB.out.cell (wl w _ hx224_3)).trans hx224_3
           replace hx224_4 := (HB.out.cell (wl w _ hx224_4)).trans hx224_4
           replace hx224_5 := (HB.out.cell (wl w _ hx224_5)).trans hx224_5
           replace p224 := eq_true p224
           replace q224 := eq_true q224
           refine start_ (n := 11) (S := fun w' => w'.cell? ⟨gb221, 0, none⟩ = some (.bool a2_0) ∧ w'.cell? ⟨gb221, 1, none⟩ = some (.int .i64 ((rd_T45 l0 x8_1).f3)) ∧ w'.cell? ⟨gb221, 2, none⟩ = some (.bool a2_2) ∧ w'.cell? ⟨gb221, 3, none⟩ = some (.int .i64 a2_3) ∧ w'.cell? ⟨gb221, 4, none⟩ = some (.slice A2_4 l2_4.length c2_4) ∧ w'.cell? (ad222.add ((x8_1).toNat * 6)) = some (.int .i64 ((rd_T45 l0 x8_1).f0)) ∧ w'.cell? ⟨(ad222.add ((x8_1).toNat * 6)).block, (ad222.add ((x8_1).toNat * 6)).off + 1, none⟩ = some (.int .i64 ((rd_T45 l0 x8_1).f1)) ∧ w'.cell? ⟨(ad222.add ((x8_1).toNat * 6)).block, (ad222.add ((x8_1).toNat * 6)).off + 2, none⟩ = some (.bool ((rd_T45 l0 x8_1).f2.f0)) ∧ w'.cell? ⟨(ad222.add ((x8_1).toNat * 6)).block, (ad222.add ((x8_1).toNat * 6)).off + 3, none⟩ = some (.int .i64 ((rd_T45 l0 x8_1).f2.f1)) ∧ w'.cell? ⟨(ad222.add ((x8_1).toNat * 6)).block, (ad222.add ((x8_1).toNat * 6)).off + 4, none⟩ = some (.int .i64 ((rd_T45 l0 x8_1).f2.f2)) ∧ w'.cell? ⟨(ad222.add ((x8_1).toNat * 6)).block, (ad222.add ((x8_1).toNat * 6)).off + 5, none⟩ = some (.int .i64 ((rd_T45 l0 x8_1).f3))) (ds := []) #[false, false, false, false, false, false, false, false, false, false, false] (by kernel_rfl) rfl rfl ⟨(bC BK221.out 0).trans rfl, (bC BK221.out 1).trans rfl, (bC BK221.out 2).trans rfl, (bC BK221.out 3).trans rfl, (bC BK221.out 4).trans rfl, ((HB.out.cell (wl w _ hw224_0)).trans hw224_0), ((HB.out.cell (wl w _ hw224_1)).trans hw224_1), ((HB.out.cell (wl w _ hw224_2)).trans hw224_2), ((HB.out.cell (wl w _ hw224_3)).trans hw224_3), ((HB.out.cell (wl w _ hw224_4)).trans hw224_4), ((HB.out.cell (wl w _ hw224_5)).trans hw224_5)⟩ (fun hHeld => ?_); refine with_tabW phaetonref12_Hops.tab9 phaetonref12_Hops.bits9 (fun HT_ HW_ => ?_)
           generalize w24.drew = w25 at HO_7 HO_215004 BK214 BK221 HB hx224_0 hx224_1 hx224_2 hx224_3 hx224_4 hx224_5 hHeld ⊢
           refine pure_ (i := 0) (N := some 46) (v := ?_) (a' := ?_) #[true, false, false, false, false, false, false, false, false, false, false] rfl rfl (any_of HT_.out (by kernel_rfl)) (fun _ _ _ h => h) (Or.inl ⟨by rfl, ?_⟩) ?_ ?_
           rotate_left
           ·intro w'
            go_simp
            with_reducible rfl
           rotate_left
           ·simp only [Act.put, sT, sZ, sS, i64_w, i32_w]
            rfl
           refine pure_ (i := 1) (N := some 47) (v := ?_) (a' := ?_) #[true, true, false, false, false, false, false, false, false, false, false] rfl rfl (any_of HT_.out (by kernel_rfl)) (fun _ _ _ h => h) (Or.inl ⟨by rfl, ?_⟩) ?_ ?_
           rotate_left
           ·intro w'
            go_simp
            with_reducible rfl
           rotate_left
           ·simp only [Act.put, sT, sZ, sS, i64_w, i32_w]
            rfl
           refine pure_ (i := 2) (N := some 48) (v := ?_) (a' := ?_) #[true, true, true, false, false, false, false, false, false, false, false] rfl rfl (any_of HT_.out (by kernel_rfl)) (fun _ _ _ h => h) (Or.inl ⟨by rfl, ?_⟩) ?_ ?_
           rotate_left
           ·intro w'
            go_simp
            with_reducible rfl
           rotate_left
           ·simp only [Act.put, sT, sZ, sS, i64_w, i32_w]
            rfl
           refine pure_ (i := 3) (N := some 49) (v := ?_) (a' := ?_) #[true, true, true, true, false, false, false, false, false, false, false] rfl rfl (any_of HT_.out (by kernel_rfl)) (fun _ _ _ h => h) (Or.inl ⟨by rfl, ?_⟩) ?_ ?_
           rotate_left
           ·intro w'
            go_simp
            with_reducible rfl
           rotate_left
           ·simp only [Act.put, sT, sZ, sS, i64_w, i32_w]
            rfl
           refine pure_ (i := 4) (N := some 50) (v := ?_) (a' := ?_) #[true, true, true, true, true, false, false, false, false, false, false] rfl rfl (any_of HT_.out (by kernel_rfl)) (fun _ _ _ h => h) (Or.inl ⟨by rfl, ?_⟩) ?_ ?_
           rotate_left
           ·intro w'
            go_simp
            with_reducible rfl
           rotate_left
           ·simp only [Act.put, sT, sZ, sS, i64_w, i32_w]
            rfl
           refine take_ (i := 5) (N := some 51) (v := ?_) (a' := ?_) #[true, true, true, true, true, true, false, false, false, false, false] rfl rfl (take_ofW HT_.out HW_.out (by kernel_rfl)) (fun _ _ _ h => h) (Or.inl ⟨by rfl, ?_⟩) hHeld ?_ ?_
           rotate_left
           ·rintro w' ⟨s0, s1, s2, s3, s4, s5, s6, s7, s8, s9, s10⟩
            go_simp
            with_reducible rfl
           rotate_left
           ·simp only [Act.put, sT, sZ, sS, i64_w, i32_w]
            rfl
           refine take_ (i := 6) (N := some 52) (v := ?_) (a' := ?_) #[true, true, true, true, true, true, true, false, false, false, false] rfl rfl (take_ofW HT_.out HW_.out (by kernel_rfl)) (fun _ _ _ h => h) (Or.inl ⟨by rfl, ?_⟩) hHeld ?_ ?_
           rotate_left
           ·rintro w' ⟨s0, s1, s2, s3, s4, s5, s6, s7, s8, s9, s10⟩
            go_simp
            with_reducible rfl
           rotate_left
           ·simp only [Act.put, sT, sZ, sS, i64_w, i32_w]
            rfl
           refine pure_ (i := 7) (N := some 53) (v := ?_) (a' := ?_) #[true, true, true, true, true, true, true, true, false, false, false] rfl rfl (any_of HT_.out (by kernel_rfl)) (fun _ _ _ h => h) (Or.inl ⟨by rfl, ?_⟩) ?_ ?_
           rotate_left
           ·intro w'
            go_simp
            with_reducible rfl
           rotate_left
           ·simp only [Act.put, sT, sZ, sS, i64_w, i32_w]
            rfl
           refine one_ (i := 8) (N := some 54) #[true, true, true, true, true, true, true, true, true, false, false] rfl rfl (one_of HT_.out (by kernel_rfl)) (by decide) (fun K hK => ?_)
           refine value_ (w1 := ?_) (v := ?_) (by rfl) rfl ?_ ?_
           rotate_left 2
           ·go_simp
            constructor
            ·rfl
            ·rfl
           refine hK.out _ _ ⟨(bC (bA BK221.out _) 0).trans rfl, (bC (bA BK221.out _) 1).trans rfl, (bC (bA BK221.out _) 2).trans rfl, (bC (bA BK221.out _) 3).trans rfl, (bC (bA BK221.out _) 4).trans rfl, (World.cell?_alloc_lt _ _ _ (wl _ _ (((HB.out.cell (wl w _ hw224_0)).trans hw224_0)))).trans (((HB.out.cell (wl w _ hw224_0)).trans hw224_0)), (World.cell?_alloc_lt _ _ _ (wl _ _ (((HB.out.cell (wl w _ hw224_1)).trans hw224_1)))).trans (((HB.out.cell (wl w _ hw224_1)).trans hw224_1)), (World.cell?_alloc_lt _ _ _ (wl _ _ (((HB.out.cell (wl w _ hw224_2)).trans hw224_2)))).trans (((HB.out.cell (wl w _ hw224_2)).trans hw224_2)), (World.cell?_alloc_lt _ _ _ (wl _ _ (((HB.out.cell (wl w _ hw224_3)).trans hw224_3)))).trans (((HB.out.cell (wl w _ hw224_3)).trans hw224_3)), (World.cell?_alloc_lt _ _ _ (wl _ _ (((HB.out.cell (wl w _ hw224_4)).trans hw224_4)))).trans (((HB.out.cell (wl w _ hw224_4)).trans hw224_4)), (World.cell?_alloc_lt _ _ _ (wl _ _ (((HB.out.cell (wl w _ hw224_5)).trans hw224_5)))).trans (((HB.out.cell (wl w _ hw224_5)).trans hw224_5))⟩ (fun hHeld => ?_)
           clear hK K
           refine norm_ (a' := ?_) ?_ ?_
           rotate_left
           ·show Act.put _ (some 54) _ = _
            simp only [Act.put, sT, sZ, sS, i64_w, i32_w]
            rfl
           refine one_ (i := 9) (N := some 55) #[true, true, true, true, true, true, true, true, true, true, false] rfl rfl (one_of HT_.out (by kernel_rfl)) (by decide) (fun K hK => ?_)
           refine Kd.N_append_step k38 (w0 := w) w.heap.size (by rfl) (.tmp 46) (.tmp 54) 33 38 (.agg #[(.int .i64 0), (.bool false), (.int .i64 0), (.bool false), (.int .i64 0), (.slice none 0 0)]) 64 rfl Try.underlying33 info38 rfl (by decide) (by omega) u7 x7_1 (⟨(rd_T45 l0 x8_1).f1, (⟨a2_0, (rd_T45 l0 x8_1).f3, a2_2, a2_3, l2_4⟩ : S25)⟩ : S38) [.int .i64 ((rd_T45 l0 x8_1).f1), .bool a2_0, .int .i64 ((rd_T45 l0 x8_1).f3), .bool a2_2, .int .i64 a2_3, .slice A2_4 l2_4.length c2_4] (fun k_ => (P2_4_ k_ ∨ w.heap.size ≤ k_) ∧ k_ ≠ gb214 ∧ k_ ≠ gb221) (fun k_ => ((fun k_ => (P2_4_ k_ ∨ w.heap.size ≤ k_) ∧ k_ ≠ gb214 ∧ k_ ≠ gb221)) k_ ∧ some k_ ≠ (u7 : Value).ownBlock) rfl rfl ?aP (fun _ hk => hk) ?aF ?aO ?aB ?aS ?aL ?_
           (case aP => exact (k38_mkF _ _ (⟨(rd_T45 l0 x8_1).f1, (⟨a2_0, (rd_T45 l0 x8_1).f3, a2_2, a2_3, l2_4⟩ : S25)⟩ : S38) (Kd.V_reads' (Kd.V_mono (ok' := (fun k_ => ((fun k_ => (P2_4_ k_ ∨ w.heap.size ≤ k_) ∧ k_ ≠ gb214 ∧ k_ ≠ gb221)) k_ ∧ some k_ ≠ (u7 : Value).ownBlock)) (HO_215004.out) (fun k_ hk => ⟨⟨hk.1, ⟨hk.2.2.1, hk.2.2.2⟩⟩, hk.2.1⟩))).2.1 (Kd.V_F (Kd.V_mono (ok' := (fun k_ => ((fun k_ => (P2_4_ k_ ∨ w.heap.size ≤ k_) ∧ k_ ≠ gb214 ∧ k_ ≠ gb221)) k_ ∧ some k_ ≠ (u7 : Value).ownBlock)) (HO_215004.out) (fun k_ hk => ⟨⟨hk.1, ⟨hk.2.2.1, hk.2.2.2⟩⟩, hk.2.1⟩)))))
           (case aB => exact (by repeat (first | (with_reducible first | exact HB.out | apply lA | apply lN | apply lW | refine lS ?_ GE214.out | refine lS ?_ GE221.out) | exact HB.out)))
           (case aF => exact (fun k_ hk => ⟨(.inr (Nat.le_trans (lZ (by repeat (first | (with_reducible first | exact HB.out | apply lA | apply lN | apply lW | refine lS ?_ GE214.out | refine lS ?_ GE221.out) | exact HB.out))) hk)), Kd.freshB (g := gb214) (o := .cells #[.bool a2_0, .int .i64 a2_1, .bool a2_2, .int .i64 a2_3, .slice A2_4 l2_4.length c2_4] 25 (0, 0)) (by (with_reducible repeat (first | refine bN ?_ _ | refine bW ?_ | refine bA ?_ _)); exact BK214.out) k_ hk, Kd.freshB (g := gb221) (o := .cells #[.bool a2_0, .int .i64 ((rd_T45 l0 x8_1).f3), .bool a2_2, .int .i64 a2_3, .slice A2_4 l2_4.length c2_4] 25 (0, 0)) (by (with_reducible repeat (first | refine bN ?_ _ | refine bW ?_ | refine bA ?_ _)); exact BK221.out) k_ hk⟩))
           (case aO => exact (by (with_reducible repeat (first | apply Kd.N_alloc | apply Kd.N_drewN | apply Kd.N_drew)); exact HO_7.out))
           (case aS => exact (lZ (by repeat (first | (with_reducible first | exact HB.out | apply lA | apply lN | apply lW | refine lS ?_ GE214.out | refine lS ?_ GE221.out) | exact HB.out))))
           (case aL => have := LMc19.out; omega)
           intro v226 w26 ho hb hg hat
           rw [← Ny225.out] at ho
           have n0_ := aM (Kd.V_afterv (ok := (fun k_ => (P2_4_ k_ ∨ w.heap.size ≤ k_) ∧ k_ ≠ gb214 ∧ k_ ≠ gb221)) (by (with_reducible repeat (first | apply Kd.V_alloc | apply Kd.V_drewN | apply Kd.V_drew)); exact Kd.V_mono HO_215004.out (fun _ hk => ⟨⟨hk.1, ⟨hk.2.2.1, hk.2.2.2⟩⟩, hk.2.1⟩)) hg hat)
           have n1_ := aM (blk_grown (g := gb214) (o := .cells #[.bool a2_0, .int .i64 a2_1, .bool a2_2, .int .i64 a2_3, .slice A2_4 l2_4.length c2_4] 25 (0, 0)) (by (with_reducible repeat (first | refine bN ?_ _ | refine bW ?_ | refine bA ?_ _)); exact BK214.out) hg (Kd.N_ne HO_7.out BK214.out (by decide)))
           have n2_ := aM (blk_grown (g := gb221) (o := .cells #[.bool a2_0, .int .i64 ((rd_T45 l0 x8_1).f3), .bool a2_2, .int .i64 a2_3, .slice A2_4 l2_4.length c2_4] 25 (0, 0)) (by (with_reducible repeat (first | refine bN ?_ _ | refine bW ?_ | refine bA ?_ _)); exact BK221.out) hg (Kd.N_ne HO_7.out BK221.out (by decide)))
           have n3_ := aM (hb)
           have n4_ := aM (ho)
           clear HO_215004
           clear BK214
           clear BK221
           clear HB
           clear HO_7
           have HO_215004 := n0_
           have BK214 := n1_
           have BK221 := n2_
           have HB := n3_
           have HO227 := n4_
           clear n0_ n1_ n2_ n3_ n4_
           clear ho hb hg hat
           refine hK.out _ _ ⟨(bC BK221.out 0).trans rfl, (bC BK221.out 1).trans rfl, (bC BK221.out 2).trans rfl, (bC BK221.out 3).trans rfl, (bC BK221.out 4).trans rfl, ((HB.out.cell (wl w _ hw224_0)).trans hw224_0), ((HB.out.cell (wl w _ hw224_1)).trans hw224_1), ((HB.out.cell (wl w _ hw224_2)).trans hw224_2), ((HB.out.cell (wl w _ hw224_3)).trans hw224_3), ((HB.out.cell (wl w _ hw224_4)).trans hw224_4), ((HB.out.cell (wl w _ hw224_5)).trans hw224_5)⟩ (fun hHeld => ?_)
           clear hK K
           refine norm_ (a' := ?_) ?_ ?_
           rotate_left
           ·show Act.put _ (some 55) _ = _
            simp only [Act.put, sT, sZ, sS, i64_w, i32_w]
            rfl
           refine pure_ (i := 10) (N := some 7) (v := ?_) (a' := ?_) #[true, true, true, true, true, true, true, true, true, true, true] rfl rfl (any_of HT_.out (by kernel_rfl)) (fun _ _ _ h => h) (Or.inl ⟨by rfl, ?_⟩) ?_ ?_
           rotate_left
           ·intro w'
            go_simp
            with_reducible rfl
           rotate_left
           ·simp only [Act.put, sT, sZ, sS, i64_w, i32_w]
            rfl
           refine done_ (done_of HT_.out (by kernel_rfl)) ?_
           try go_wp2
           go_roundg kj7
           case measure => have := HK1.out; have := HJ7.out; omega
           case rel => exact ⟨(y225), (wrap64 (x8_1 + 1)), (by first | rfl | (simp; done) | (simp [*]; done)), H', ⟨by have := HK1.out; have := HJ7.out; omega⟩, ⟨by (with_reducible repeat (first | apply Kd.N_alloc | apply Kd.N_drewN | apply Kd.N_drew)); exact Kd.N_mono HO227.out (fun _ hk => ⟨hk.1, hk.2.1⟩)⟩, ⟨by (with_reducible repeat (first | apply Kd.V_alloc | apply Kd.V_drewN | apply Kd.V_drew)); exact Kd.V_mono HO_215004.out (fun _ hk => ⟨hk.1.1, ⟨hk.2, hk.1.2.1⟩⟩)⟩, ⟨by (with_reducible repeat (first | refine bN ?_ _ | refine bW ?_ | refine bA ?_ _)); exact BK214.out⟩, ⟨by repeat (first | (with_reducible first | exact HB.out | apply lA | apply lN | apply lW | refine lS ?_ GE214.out | refine lS ?_ GE221.out) | exact HB.out)⟩⟩
          ·rw [if_neg c19] at H
           exact absurd H (by simp)
         ·rw [if_neg c18] at H
          have c18b0 : decide (0 ≤ ((rd_T45 l0 x8_1).f3)) = false := decide_eq_false c18
          clear c18
          by_cases c27 : x7_1.length < 2199023255552
          ·rw [if_pos c27] at H
           have LMc27 := aM c27
           clear c27
           obtain ⟨y229, hy229⟩ : ∃ y_ : List (S38), y_ = (x7_1 ++ [(⟨(rd_T45 l0 x8_1).f1, (⟨a2_0, a2_1, a2_2, a2_3, l2_4⟩ : S25)⟩ : S38)]) := ⟨_, rfl⟩
           replace H : (phaetonref12_Hops.l0 kj7 l0 a1 y229 (wrap64 (x8_1 + 1)) a2_0 a2_1 a2_2 a2_3 l2_4) = some r := by first | (rw [hy229]; with_reducible exact H) | (have H2_ := (Option.bind_some _ _).symm.trans H; rw [hy229]; with_reducible exact H2_) | (have H2_ := (Option.bind_some _ _).symm.trans H; with_reducible exact H2_) | with_reducible exact H | (rw [hy229]; exact H) | exact H
           have Ny229 := aM hy229
           clear hy229
           have H' := aM H
           clear H
           have hcz28_0 : wc.cell? ⟨gb214, 0, none⟩ = some (.bool a2_0) := (bC BK214.out 0).trans rfl
           have hcz28_1 : wc.cell? ⟨gb214, 1, none⟩ = some (.int .i64 a2_1) := (bC BK214.out 1).trans rfl
           have hcz28_2 : wc.cell? ⟨gb214, 2, none⟩ = some (.bool a2_2) := (bC BK214.out 2).trans rfl
           have hcz28_3 : wc.cell? ⟨gb214, 3, none⟩ = some (.int .i64 a2_3) := (bC BK214.out 3).trans rfl
           have hcz28_4 : wc.cell? ⟨gb214, 4, none⟩ = some (.slice A2_4 l2_4.length c2_4) := (bC BK214.out 4).trans rfl
           have hfz28_0 := bF BK214.out 0
           have hfz28_1 := bF BK214.out 1
           have hfz28_2 := bF BK214.out 2
           have hfz28_3 := bF BK214.out 3
           have hfz28_4 := bF BK214.out 4
           (try have ltq_ := blk_lt BK214.out)
           try go_wp2_with (first | ((with_reducible refine gate_dst (N := 9) rfl ?_); refine box_event ?hg (N := 9) ?hd (cs := #[.bool false, .int .i64 0, .bool false, .int .i64 0, .slice none 0 0]) (t := 25) ?hr ?_; (case hd => rfl); (case hg => rfl); (case hr => first | (go_simp; done) | (go_simp; rfl)); intro gb221 hg w29 hbox hb; have n0_ := aM (Kd.N_below (Kd.N_elderB (by (with_reducible repeat (first | apply Kd.N_alloc | apply Kd.N_drewN | apply Kd.N_drew)); exact HO_7.out) gb221 (Nat.le_of_eq hg.symm)) hb); have n1_ := aM (Kd.V_below (Kd.V_elderB (by (with_reducible repeat (first | apply Kd.V_alloc | apply Kd.V_drewN | apply Kd.V_drew)); exact HO_215004.out) gb221 (Nat.le_of_eq hg.symm)) hb); have n2_ := aM (blk_below (g := gb214) (o := .cells #[.bool a2_0, .int .i64 a2_1, .bool a2_2, .int .i64 a2_3, .slice A2_4 l2_4.length c2_4] 25 (0, 0)) (by (with_reducible repeat (first | refine bN ?_ _ | refine bW ?_ | refine bA ?_ _)); exact BK214.out) hb); have n3_ := aM (lT (by repeat (first | (with_reducible first | exact HB.out | apply lA | apply lN | apply lW | refine lS ?_ GE214.out) | exact HB.out)) hb); have n4_ := aM (hbox); have n5_ := aM ((by rw [hg]; exact (lZ (by repeat (first | (with_reducible first | exact HB.out | apply lA | apply lN | apply lW | refine lS ?_ GE214.out) | exact HB.out))) : w.heap.size ≤ gb221)); have n6_ := aM ((by rw [hg]; exact (lZ (by repeat (first | (with_reducible first | exact HB.out | apply lA | apply lN | apply lW | refine lS ?_ GE214.out) | exact HB.out))) : w.heap.size ≤ gb221)); have n7_ := aM ((by rw [hg]; exact Nat.ne_of_lt (blk_lt (g := gb214) (o := .cells #[.bool a2_0, .int .i64 a2_1, .bool a2_2, .int .i64 a2_3, .slice A2_4 l2_4.length c2_4] 25 (0, 0)) (by (with_reducible repeat (first | refine bN ?_ _ | refine bW ?_ | refine bA ?_ _)); exact BK214.out)) : gb214 ≠ gb221)); have n8_ := aM ((by rw [hg]; exact Nat.ne_of_gt (blk_lt (g := gb214) (o := .cells #[.bool a2_0, .int .i64 a2_1, .bool a2_2, .int .i64 a2_3, .slice A2_4 l2_4.length c2_4] 25 (0, 0)) (by (with_reducible repeat (first | refine bN ?_ _ | refine bW ?_ | refine bA ?_ _)); exact BK214.out)) : gb221 ≠ gb214)); clear HO_7; clear HO_215004; clear BK214; clear HB; have HO_7 := n0_; have HO_215004 := n1_; have BK214 := n2_; have HB := n3_; have BK221 := n4_; have GW221 := n5_; have GE221 := n6_; have NB214_221 := n7_; have NB221_214 := n8_; clear n0_ n1_ n2_ n3_ n4_ n5_ n6_ n7_ n8_; clear hb hbox hg; have hnb30 := NB221_214.out; have hnc30 := NB214_221.out; have hcz31_0 : w29.cell? ⟨gb221, 0, none⟩ = some (.bool false) := (bC BK221.out 0).trans rfl; have hcz31_1 : w29.cell? ⟨gb221, 1, none⟩ = some (.int .i64 0) := (bC BK221.out 1).trans rfl; have hcz31_2 : w29.cell? ⟨gb221, 2, none⟩ = some (.bool false) := (bC BK221.out 2).trans rfl; have hcz31_3 : w29.cell? ⟨gb221, 3, none⟩ = some (.int .i64 0) := (bC BK221.out 3).trans rfl; have hcz31_4 : w29.cell? ⟨gb221, 4, none⟩ = some (.slice none 0 0) := (bC BK221.out 4).trans rfl; have hfz31_0 := bF BK221.out 0; have hfz31_1 := bF BK221.out 1; have hfz31_2 := bF BK221.out 2; have hfz31_3 := bF BK221.out 3; have hfz31_4 := bF BK221.out 4; have p222 : 0 ≤ (x8_1 : Int) := oD (by first | (with_reducible assumption) | assumption); have q222 : x8_1 < (l0.length : Int) := oD (by first | (with_reducible assumption) | assumption); obtain ⟨ad222, e222, hx222_0, hx222_1, hx222_2, hx222_3, hx222_4, hx222_5⟩ := at_T45 HR0.out x8_1 p222 q222; cases e222; have hn222_0 : ad222.block ≠ gb221 := Nat.ne_of_lt (Nat.lt_of_lt_of_le (by have := wl _ _ hx222_0; first | rwa [aB] at this | exact this) GW221.out); have hn222_1 : ad222.block ≠ gb221 := Nat.ne_of_lt (Nat.lt_of_lt_of_le (by have := wl _ _ hx222_0; first | rwa [aB] at this | exact this) GW221.out); have hn222_2 : ad222.block ≠ gb221 := Nat.ne_of_lt (Nat.lt_of_lt_of_le (by have := wl _ _ hx222_0; first | rwa [aB] at this | exact this) GW221.out); have hn222_3 : ad222.block ≠ gb221 := Nat.ne_of_lt (Nat.lt_of_lt_of_le (by have := wl _ _ hx222_0; first | rwa [aB] at this | exact this) GW221.out); have hn222_4 : ad222.block ≠ gb221 := Nat.ne_of_lt (Nat.lt_of_lt_of_le (by have := wl _ _ hx222_0; first | rwa [aB] at this | exact this) GW221.out); replace hx222_0 := (HB.out.cell (wl w _ hx222_0)).trans hx222_0; replace hx222_1 := (HB.out.cell (wl w _ hx222_1)).trans hx222_1; replace hx222_2 := (HB.out.cell (wl w _ hx222_2)).trans hx222_2; replace hx222_3 := (HB.out.cell (wl w _ hx222_3)).trans hx222_3; replace hx222_4 := (HB.out.cell (wl w _ hx222_4)).trans hx222_4; replace hx222_5 := (HB.out.cell (wl w _ hx222_5)).trans hx222_5; replace hx222_0 := (cell_far (p := ⟨gb221, 0, none⟩) (by first | (rw [aB]; exact hn222_0) | (show (Addr.add _ _).block ≠ _; rw [aB]; exact hn222_0) | exact hn222_0) (.bool a2_0)).trans hx222_0; replace hx222_1 := (cell_far (p := ⟨gb221, 0, none⟩) (by first | (rw [aB]; exact hn222_0) | (show (Addr.add _ _).block ≠ _; rw [aB]; exact hn222_0) | exact hn222_0) (.bool a2_0)).trans hx222_1; replace hx222_2 := (cell_far (p := ⟨gb221, 0, none⟩) (by first | (rw [aB]; exact hn222_0) | (show (Addr.add _ _).block ≠ _; rw [aB]; exact hn222_0) | exact hn222_0) (.bool a2_0)).trans hx222_2; replace hx222_3 := (cell_far (p := ⟨gb221, 0, none⟩) (by first | (rw [aB]; exact hn222_0) | (show (Addr.add _ _).block ≠ _; rw [aB]; exact hn222_0) | exact hn222_0) (.bool a2_0)).trans hx222_3; replace hx222_4 := (cell_far (p := ⟨gb221, 0, none⟩) (by first | (rw [aB]; exact hn222_0) | (show (Addr.add _ _).block ≠ _; rw [aB]; exact hn222_0) | exact hn222_0) (.bool a2_0)).trans hx222_4; replace hx222_5 := (cell_far (p := ⟨gb221, 0, none⟩) (by first | (rw [aB]; exact hn222_0) | (show (Addr.add _ _).block ≠ _; rw [aB]; exact hn222_0) | exact hn222_0) (.bool a2_0)).trans hx222_5; replace hx222_0 := (cell_far (p := ⟨gb221, 1, none⟩) (by first | (rw [aB]; exact hn222_1) | (show (Addr.add _ _).block ≠ _; rw [aB]; exact hn222_1) | exact hn222_1) (.int .i64 a2_1)).trans hx222_0; replace hx222_1 := (cell_far (p := ⟨gb221, 1, none⟩) (by first | (rw [aB]; exact hn222_1) | (show (Addr.add _ _).block ≠ _; rw [aB]; exact hn222_1) | exact hn222_1) (.int .i64 a2_1)).trans hx222_1; replace hx222_2 := (cell_far (p := ⟨gb221, 1, none⟩) (by first | (rw [aB]; exact hn222_1) | (show (Addr.add _ _).block ≠ _; rw [aB]; exact hn222_1) | exact hn222_1) (.int .i64 a2_1)).trans hx222_2; replace hx222_3 := (cell_far (p := ⟨gb221, 1, none⟩) (by first | (rw [aB]; exact hn222_1) | (show (Addr.add _ _).block ≠ _; rw [aB]; exact hn222_1) | exact hn222_1) (.int .i64 a2_1)).trans hx222_3; replace hx222_4 := (cell_far (p := ⟨gb221, 1, none⟩) (by first | (rw [aB]; exact hn222_1) | (show (Addr.add _ _).block ≠ _; rw [aB]; exact hn222_1) | exact hn222_1) (.int .i64 a2_1)).trans hx222_4; replace hx222_5 := (cell_far (p := ⟨gb221, 1, none⟩) (by first | (rw [aB]; exact hn222_1) | (show (Addr.add _ _).block ≠ _; rw [aB]; exact hn222_1) | exact hn222_1) (.int .i64 a2_1)).trans hx222_5; replace hx222_0 := (cell_far (p := ⟨gb221, 2, none⟩) (by first | (rw [aB]; exact hn222_2) | (show (Addr.add _ _).block ≠ _; rw [aB]; exact hn222_2) | exact hn222_2) (.bool a2_2)).trans hx222_0; replace hx222_1 := (cell_far (p := ⟨gb221, 2, none⟩) (by first | (rw [aB]; exact hn222_2) | (show (Addr.add _ _).block ≠ _; rw [aB]; exact hn222_2) | exact hn222_2) (.bool a2_2)).trans hx222_1; replace hx222_2 := (cell_far (p := ⟨gb221, 2, none⟩) (by first | (rw [aB]; exact hn222_2) | (show (Addr.add _ _).block ≠ _; rw [aB]; exact hn222_2) | exact hn222_2) (.bool a2_2)).trans hx222_2; replace hx222_3 := (cell_far (p := ⟨gb221, 2, none⟩) (by first | (rw [aB]; exact hn222_2) | (show (Addr.add _ _).block ≠ _; rw [aB]; exact hn222_2) | exact hn222_2) (.bool a2_2)).trans hx222_3; replace hx222_4 := (cell_far (p := ⟨gb221, 2, none⟩) (by first | (rw [aB]; exact hn222_2) | (show (Addr.add _ _).block ≠ _; rw [aB]; exact hn222_2) | exact hn222_2) (.bool a2_2)).trans hx222_4; replace hx222_5 := (cell_far (p := ⟨gb221, 2, none⟩) (by first | (rw [aB]; exact hn222_2) | (show (Addr.add _ _).block ≠ _; rw [aB]; exact hn222_2) | exact hn222_2) (.bool a2_2)).trans hx222_5; replace hx222_0 := (cell_far (p := ⟨gb221, 3, none⟩) (by first | (rw [aB]; exact hn222_3) | (show (Addr.add _ _).block ≠ _; rw [aB]; exact hn222_3) | exact hn222_3) (.int .i64 a2_3)).trans hx222_0; replace hx222_1 := (cell_far (p := ⟨gb221, 3, none⟩) (by first | (rw [aB]; exact hn222_3) | (show (Addr.add _ _).block ≠ _; rw [aB]; exact hn222_3) | exact hn222_3) (.int .i64 a2_3)).trans hx222_1; replace hx222_2 := (cell_far (p := ⟨gb221, 3, none⟩) (by first | (rw [aB]; exact hn222_3) | (show (Addr.add _ _).block ≠ _; rw [aB]; exact hn222_3) | exact hn222_3) (.int .i64 a2_3)).trans hx222_2; replace hx222_3 := (cell_far (p := ⟨gb221, 3, none⟩) (by first | (rw [aB]; exact hn222_3) | (show (Addr.add _ _).block ≠ _; rw [aB]; exact hn222_3) | exact hn222_3) (.int .i64 a2_3)).trans hx222_3; replace hx222_4 := (cell_far (p := ⟨gb221, 3, none⟩) (by first | (rw [aB]; exact hn222_3) | (show (Addr.add _ _).block ≠ _; rw [aB]; exact hn222_3) | exact hn222_3) (.int .i64 a2_3)).trans hx222_4; replace hx222_5 := (cell_far (p := ⟨gb221, 3, none⟩) (by first | (rw [aB]; exact hn222_3) | (show (Addr.add _ _).block ≠ _; rw [aB]; exact hn222_3) | exact hn222_3) (.int .i64 a2_3)).trans hx222_5; replace hx222_0 := (cell_far (p := ⟨gb221, 4, none⟩) (by first | (rw [aB]; exact hn222_4) | (show (Addr.add _ _).block ≠ _; rw [aB]; exact hn222_4) | exact hn222_4) (.slice A2_4 l2_4.length c2_4)).trans hx222_0; replace hx222_1 := (cell_far (p := ⟨gb221, 4, none⟩) (by first | (rw [aB]; exact hn222_4) | (show (Addr.add _ _).block ≠ _; rw [aB]; exact hn222_4) | exact hn222_4) (.slice A2_4 l2_4.length c2_4)).trans hx222_1; replace hx222_2 := (cell_far (p := ⟨gb221, 4, none⟩) (by first | (rw [aB]; exact hn222_4) | (show (Addr.add _ _).block ≠ _; rw [aB]; exact hn222_4) | exact hn222_4) (.slice A2_4 l2_4.length c2_4)).trans hx222_2; replace hx222_3 := (cell_far (p := ⟨gb221, 4, none⟩) (by first | (rw [aB]; exact hn222_4) | (show (Addr.add _ _).block ≠ _; rw [aB]; exact hn222_4) | exact hn222_4) (.slice A2_4 l2_4.length c2_4)).trans hx222_3; replace hx222_4 := (cell_far (p := ⟨gb221, 4, none⟩) (by first | (rw [aB]; exact hn222_4) | (show (Addr.add _ _).block ≠ _; rw [aB]; exact hn222_4) | exact hn222_4) (.slice A2_4 l2_4.length c2_4)).trans hx222_4; replace hx222_5 := (cell_far (p := ⟨gb221, 4, none⟩) (by first | (rw [aB]; exact hn222_4) | (show (Addr.add _ _).block ≠ _; rw [aB]; exact hn222_4) | exact hn222_4) (.slice A2_4 l2_4.length c2_4)).trans hx222_5; clear hn222_0; clear hn222_1; clear hn222_2; clear hn222_3; clear hn222_4; replace p222 := eq_true p222; replace q222 := eq_true q222))
           have n0_ : Aside0 (Kd.N k38 38 (((((w29.setCell ⟨gb221, 0, none⟩ (.bool a2_0)).setCell ⟨gb221, 1, none⟩ (.int .i64 a2_1)).setCell ⟨gb221, 2, none⟩ (.bool a2_2)).setCell ⟨gb221, 3, none⟩ (.int .i64 a2_3)).setCell ⟨gb221, 4, none⟩ (.slice A2_4 l2_4.length c2_4)) w.heap.size (fun k_ => (P2_4_ k_ ∨ w.heap.size ≤ k_) ∧ k_ ≠ gb214 ∧ k_ ≠ gb221) u7 x7_1) := ⟨by (with_reducible repeat (first | apply Kd.N_alloc | apply Kd.N_drewN | apply Kd.N_drew)); exact Kd.N_mono (Kd.N_far (p := ⟨gb221, 4, none⟩) (Kd.N_far (p := ⟨gb221, 3, none⟩) (Kd.N_far (p := ⟨gb221, 2, none⟩) (Kd.N_far (p := ⟨gb221, 1, none⟩) (Kd.N_far (p := ⟨gb221, 0, none⟩) (Kd.N_mono HO_7.out (fun k_ hk => (⟨hk, hk.2⟩ : _ ∧ k_ ≠ gb221))) (fun _ hk => hk.2) (.bool a2_0)) (fun _ hk => hk.2) (.int .i64 a2_1)) (fun _ hk => hk.2) (.bool a2_2)) (fun _ hk => hk.2) (.int .i64 a2_3)) (fun _ hk => hk.2) (.slice A2_4 l2_4.length c2_4)) (fun _ hk => ⟨hk.1.1.1, ⟨hk.1.1.2, hk.1.2⟩⟩)⟩
           have n1_ : Aside0 (Kd.V (Kd.int .u8) 5 (((((w29.setCell ⟨gb221, 0, none⟩ (.bool a2_0)).setCell ⟨gb221, 1, none⟩ (.int .i64 a2_1)).setCell ⟨gb221, 2, none⟩ (.bool a2_2)).setCell ⟨gb221, 3, none⟩ (.int .i64 a2_3)).setCell ⟨gb221, 4, none⟩ (.slice A2_4 l2_4.length c2_4)) w.heap.size (fun k_ => (P2_4_ k_ ∨ w.heap.size ≤ k_) ∧ some k_ ≠ (u7 : Value).ownBlock ∧ k_ ≠ gb214 ∧ k_ ≠ gb221) (.slice A2_4 l2_4.length c2_4) l2_4) := ⟨by (with_reducible repeat (first | apply Kd.V_alloc | apply Kd.V_drewN | apply Kd.V_drew)); exact Kd.V_mono (Kd.V_far (p := ⟨gb221, 4, none⟩) (Kd.V_far (p := ⟨gb221, 3, none⟩) (Kd.V_far (p := ⟨gb221, 2, none⟩) (Kd.V_far (p := ⟨gb221, 1, none⟩) (Kd.V_far (p := ⟨gb221, 0, none⟩) (Kd.V_mono HO_215004.out (fun k_ hk => (⟨hk, hk.2⟩ : _ ∧ k_ ≠ gb221))) (fun _ hk => hk.2) (.bool a2_0)) (fun _ hk => hk.2) (.int .i64 a2_1)) (fun _ hk => hk.2) (.bool a2_2)) (fun _ hk => hk.2) (.int .i64 a2_3)) (fun _ hk => hk.2) (.slice A2_4 l2_4.length c2_4)) (fun _ hk => ⟨hk.1.1.1, ⟨hk.1.1.2.1, ⟨hk.1.1.2.2, hk.1.2⟩⟩⟩)⟩
           have n2_ : Aside0 ((((((w29.setCell ⟨gb221, 0, none⟩ (.bool a2_0)).setCell ⟨gb221, 1, none⟩ (.int .i64 a2_1)).setCell ⟨gb221, 2, none⟩ (.bool a2_2)).setCell ⟨gb221, 3, none⟩ (.int .i64 a2_3)).setCell ⟨gb221, 4, none⟩ (.slice A2_4 l2_4.length c2_4)).heap[gb214]? = some (.cells #[.bool a2_0, .int .i64 a2_1, .bool a2_2, .int .i64 a2_3, .slice A2_4 l2_4.length c2_4] 25 (0, 0))) := ⟨by (with_reducible repeat (first | refine bN ?_ _ | refine bW ?_ | refine bA ?_ _)); refine blk_far ?_ NB214_221.out _; (with_reducible repeat (first | refine bN ?_ _ | refine bW ?_ | refine bA ?_ _)); refine blk_far ?_ NB214_221.out _; (with_reducible repeat (first | refine bN ?_ _ | refine bW ?_ | refine bA ?_ _)); refine blk_far ?_ NB214_221.out _; (with_reducible repeat (first | refine bN ?_ _ | refine bW ?_ | refine bA ?_ _)); refine blk_far ?_ NB214_221.out _; (with_reducible repeat (first | refine bN ?_ _ | refine bW ?_ | refine bA ?_ _)); refine blk_far ?_ NB214_221.out _; (with_reducible repeat (first | refine bN ?_ _ | refine bW ?_ | refine bA ?_ _)); exact BK214.out⟩
           have n3_ : Aside0 ((((((w29.setCell ⟨gb221, 0, none⟩ (.bool a2_0)).setCell ⟨gb221, 1, none⟩ (.int .i64 a2_1)).setCell ⟨gb221, 2, none⟩ (.bool a2_2)).setCell ⟨gb221, 3, none⟩ (.int .i64 a2_3)).setCell ⟨gb221, 4, none⟩ (.slice A2_4 l2_4.length c2_4)).heap[gb221]? = some (.cells #[.bool a2_0, .int .i64 a2_1, .bool a2_2, .int .i64 a2_3, .slice A2_4 l2_4.length c2_4] 25 (0, 0))) := ⟨by (with_reducible repeat (first | refine bN ?_ _ | refine bW ?_ | refine bA ?_ _)); refine blk_put (cs := #[.bool a2_0, .int .i64 a2_1, .bool a2_2, .int .i64 a2_3, .slice none 0 0]) ?_ 4 _ rfl; (with_reducible repeat (first | refine bN ?_ _ | refine bW ?_ | refine bA ?_ _)); refine blk_put (cs := #[.bool a2_0, .int .i64 a2_1, .bool a2_2, .int .i64 0, .slice none 0 0]) ?_ 3 _ rfl; (with_reducible repeat (first | refine bN ?_ _ | refine bW ?_ | refine bA ?_ _)); refine blk_put (cs := #[.bool a2_0, .int .i64 a2_1, .bool false, .int .i64 0, .slice none 0 0]) ?_ 2 _ rfl; (with_reducible repeat (first | refine bN ?_ _ | refine bW ?_ | refine bA ?_ _)); refine blk_put (cs := #[.bool a2_0, .int .i64 0, .bool false, .int .i64 0, .slice none 0 0]) ?_ 1 _ rfl; (with_reducible repeat (first | refine bN ?_ _ | refine bW ?_ | refine bA ?_ _)); refine blk_put (cs := #[.bool false, .int .i64 0, .bool false, .int .i64 0, .slice none 0 0]) ?_ 0 _ rfl; (with_reducible repeat (first | refine bN ?_ _ | refine bW ?_ | refine bA ?_ _)); exact BK221.out⟩
           have n4_ : Aside0 (Below w.heap.size w (((((w29.setCell ⟨gb221, 0, none⟩ (.bool a2_0)).setCell ⟨gb221, 1, none⟩ (.int .i64 a2_1)).setCell ⟨gb221, 2, none⟩ (.bool a2_2)).setCell ⟨gb221, 3, none⟩ (.int .i64 a2_3)).setCell ⟨gb221, 4, none⟩ (.slice A2_4 l2_4.length c2_4))) := ⟨by repeat (first | (with_reducible first | exact HB.out | apply lA | apply lN | apply lW | refine lS ?_ GE214.out | refine lS ?_ GE221.out) | exact HB.out)⟩
           (try clear HO_7)
           (try clear HO_215004)
           (try clear BK214)
           (try clear BK221)
           (try clear HB)
           generalize (((((w29.setCell ⟨gb221, 0, none⟩ (.bool a2_0)).setCell ⟨gb221, 1, none⟩ (.int .i64 a2_1)).setCell ⟨gb221, 2, none⟩ (.bool a2_2)).setCell ⟨gb221, 3, none⟩ (.int .i64 a2_3)).setCell ⟨gb221, 4, none⟩ (.slice A2_4 l2_4.length c2_4)) = w32 at n0_ n1_ n2_ n3_ n4_ ⊢
           have HO_7 := n0_
           have HO_215004 := n1_
           have BK214 := n2_
           have BK221 := n3_
           have HB := n4_
           clear n0_ n1_ n2_ n3_ n4_
           have n0_ := aM (Kd.N_drew HO_7.out)
           have n1_ := aM (Kd.V_drew HO_215004.out)
           have n2_ := aM (bW BK214.out)
           have n3_ := aM (bW BK221.out)
           have n4_ := aM (lW HB.out)
           clear HO_7
           clear HO_215004
           clear BK214
           clear BK221
           clear HB
           have HO_7 := n0_
           have HO_215004 := n1_
           have BK214 := n2_
           have BK221 := n3_
           have HB := n4_
           clear n0_ n1_ n2_ n3_ n4_
           have p228 : 0 ≤ (x8_1 : Int) := oD (by first | (with_reducible assumption) | assumption)
           have q228 : x8_1 < (l0.length : Int) := oD (by first | (with_reducible assumption) | assumption)
           obtain ⟨ad228, e228, hx228_0, hx228_1, hx228_2, hx228_3, hx228_4, hx228_5⟩ := at_T45 HR0.out x8_1 p228 q228
           have hw228_5 := hx228_5
           have hw228_4 := hx228_4
           have hw228_3 := hx228_3
           have hw228_2 := hx228_2
           have hw228_1 := hx228_1
           have hw228_0 := hx228_0
           obtain rfl : ad222 = ad228 := (by injection e228)
           replace hx228_0 := (HB.out.cell (wl w _ hx228_0)).trans hx228_0
           replace hx228_1 := (HB.out.cell (wl w _ hx228_1)).trans hx228_1
           replace hx228_2 := (HB.out.cell (wl w _ hx228_2)).trans hx228_2
           replace hx228_3 := (HB.out.cell (wl w _ hx228_3)).trans hx228_3
           replace hx228_4 := (HB.out.cell (wl w _ hx228_4)).trans hx228_4
           replace hx228_5 := (HB.out.cell (wl w _ hx228_5)).trans hx228_5
           replace p228 := eq_true p228
           replace q228 := eq_true q228
           refine start_ (n := 11) (S := fun w' => w'.cell? ⟨gb221, 0, none⟩ = some (.bool a2_0) ∧ w'.cell? ⟨gb221, 1, none⟩ = some (.int .i64 a2_1) ∧ w'.cell? ⟨gb221, 2, none⟩ = some (.bool a2_2) ∧ w'.cell? ⟨gb221, 3, none⟩ = some (.int .i64 a2_3) ∧ w'.cell? ⟨gb221, 4, none⟩ = some (.slice A2_4 l2_4.length c2_4) ∧ w'.cell? (ad222.add ((x8_1).toNat * 6)) = some (.int .i64 ((rd_T45 l0 x8_1).f0)) ∧ w'.cell? ⟨(ad222.add ((x8_1).toNat * 6)).block, (ad222.add ((x8_1).toNat * 6)).off + 1, none⟩ = some (.int .i64 ((rd_T45 l0 x8_1).f1)) ∧ w'.cell? ⟨(ad222.add ((x8_1).toNat * 6)).block, (ad222.add ((x8_1).toNat * 6)).off + 2, none⟩ = some (.bool ((rd_T45 l0 x8_1).f2.f0)) ∧ w'.cell? ⟨(ad222.add ((x8_1).toNat * 6)).block, (ad222.add ((x8_1).toNat * 6)).off + 3, none⟩ = some (.int .i64 ((rd_T45 l0 x8_1).f2.f1)) ∧ w'.cell? ⟨(ad222.add ((x8_1).toNat * 6)).block, (ad222.add ((x8_1).toNat * 6)).off + 4, none⟩ = some (.int .i64 ((rd_T45 l0 x8_1).f2.f2)) ∧ w'.cell? ⟨(ad222.add ((x8_1).toNat * 6)).block, (ad222.add ((x8_1).toNat * 6)).off + 5, none⟩ = some (.int .i64 ((rd_T45 l0 x8_1).f3))) (ds := []) #[false, false, false, false, false, false, false, false, false, false, false] (by kernel_rfl) rfl rfl ⟨(bC BK221.out 0).trans rfl, (bC BK221.out 1).trans rfl, (bC BK221.out 2).trans rfl, (bC BK221.out 3).trans rfl, (bC BK221.out 4).trans rfl, ((HB.out.cell (wl w _ hw228_0)).trans hw228_0), ((HB.out.cell (wl w _ hw228_1)).trans hw228_1), ((HB.out.cell (wl w _ hw228_2)).trans hw228_2), ((HB.out.cell (wl w _ hw228_3)).trans hw228_3), ((HB.out.cell (wl w _ hw228_4)).trans hw228_4), ((HB.out.cell (wl w _ hw228_5)).trans hw228_5)⟩ (fun hHeld => ?_); refine with_tabW phaetonref12_Hops.tab9 phaetonref12_Hops.bits9 (fun HT_ HW_ => ?_)
           generalize w32.drew = w33 at HO_7 HO_215004 BK214 BK221 HB hx228_0 hx228_1 hx228_2 hx228_3 hx228_4 hx228_5 hHeld ⊢
           refine pure_ (i := 0) (N := some 46) (v := ?_) (a' := ?_) #[true, false, false, false, false, false, false, false, false, false, false] rfl rfl (any_of HT_.out (by kernel_rfl)) (fun _ _ _ h => h) (Or.inl ⟨by rfl, ?_⟩) ?_ ?_
           rotate_left
           ·intro w'
            go_simp
            with_reducible rfl
           rotate_left
           ·simp only [Act.put, sT, sZ, sS, i64_w, i32_w]
            rfl
           refine pure_ (i := 1) (N := some 47) (v := ?_) (a' := ?_) #[true, true, false, false, false, false, false, false, false, false, false] rfl rfl (any_of HT_.out (by kernel_rfl)) (fun _ _ _ h => h) (Or.inl ⟨by rfl, ?_⟩) ?_ ?_
           rotate_left
           ·intro w'
            go_simp
            with_reducible rfl
           rotate_left
           ·simp only [Act.put, sT, sZ, sS, i64_w, i32_w]
            rfl
           refine pure_ (i := 2) (N := some 48) (v := ?_) (a' := ?_) #[true, true, true, false, false, false, false, false, false, false, false] rfl rfl (any_of HT_.out (by kernel_rfl)) (fun _ _ _ h => h) (Or.inl ⟨by rfl, ?_⟩) ?_ ?_
           rotate_left
           ·intro w'
            go_simp
            with_reducible rfl
           rotate_left
           ·simp only [Act.put, sT, sZ, sS, i64_w, i32_w]
            rfl
           refine pure_ (i := 3) (N := some 49) (v := ?_) (a' := ?_) #[true, true, true, true, false, false, false, false, false, false, false] rfl rfl (any_of HT_.out (by kernel_rfl)) (fun _ _ _ h => h) (Or.inl ⟨by rfl, ?_⟩) ?_ ?_
           rotate_left
           ·intro w'
            go_simp
            with_reducible rfl
           rotate_left
           ·simp only [Act.put, sT, sZ, sS, i64_w, i32_w]
            rfl
           refine pure_ (i := 4) (N := some 50) (v := ?_) (a' := ?_) #[true, true, true, true, true, false, false, false, false, false, false] rfl rfl (any_of HT_.out (by kernel_rfl)) (fun _ _ _ h => h) (Or.inl ⟨by rfl, ?_⟩) ?_ ?_
           rotate_left
           ·intro w'
            go_simp
            with_reducible rfl
           rotate_left
           ·simp only [Act.put, sT, sZ, sS, i64_w, i32_w]
            rfl
           refine take_ (i := 5) (N := some 51) (v := ?_) (a' := ?_) #[true, true, true, true, true, true, false, false, false, false, false] rfl rfl (take_ofW HT_.out HW_.out (by kernel_rfl)) (fun _ _ _ h => h) (Or.inl ⟨by rfl, ?_⟩) hHeld ?_ ?_
           rotate_left
           ·rintro w' ⟨s0, s1, s2, s3, s4, s5, s6, s7, s8, s9, s10⟩
            go_simp
            with_reducible rfl
           rotate_left
           ·simp only [Act.put, sT, sZ, sS, i64_w, i32_w]
            rfl
           refine take_ (i := 6) (N := some 52) (v := ?_) (a' := ?_) #[true, true, true, true, true, true, true, false, false, false, false] rfl rfl (take_ofW HT_.out HW_.out (by kernel_rfl)) (fun _ _ _ h => h) (Or.inl ⟨by rfl, ?_⟩) hHeld ?_ ?_
           rotate_left
           ·rintro w' ⟨s0, s1, s2, s3, s4, s5, s6, s7, s8, s9, s10⟩
            go_simp
            with_reducible rfl
           rotate_left
           ·simp only [Act.put, sT, sZ, sS, i64_w, i32_w]
            rfl
           refine pure_ (i := 7) (N := some 53) (v := ?_) (a' := ?_) #[true, true, true, true, true, true, true, true, false, false, false] rfl rfl (any_of HT_.out (by kernel_rfl)) (fun _ _ _ h => h) (Or.inl ⟨by rfl, ?_⟩) ?_ ?_
           rotate_left
           ·intro w'
            go_simp
            with_reducible rfl
           rotate_left
           ·simp only [Act.put, sT, sZ, sS, i64_w, i32_w]
            rfl
           refine one_ (i := 8) (N := some 54) #[true, true, true, true, true, true, true, true, true, false, false] rfl rfl (one_of HT_.out (by kernel_rfl)) (by decide) (fun K hK => ?_)
           refine value_ (w1 := ?_) (v := ?_) (by rfl) rfl ?_ ?_
           rotate_left 2
           ·go_simp
            constructor
            ·rfl
            ·rfl
           refine hK.out _ _ ⟨(bC (bA BK221.out _) 0).trans rfl, (bC (bA BK221.out _) 1).trans rfl, (bC (bA BK221.out _) 2).trans rfl, (bC (bA BK221.out _) 3).trans rfl, (bC (bA BK221.out _) 4).trans rfl, (World.cell?_alloc_lt _ _ _ (wl _ _ (((HB.out.cell (wl w _ hw228_0)).trans hw228_0)))).trans (((HB.out.cell (wl w _ hw228_0)).trans hw228_0)), (World.cell?_alloc_lt _ _ _ (wl _ _ (((HB.out.cell (wl w _ hw228_1)).trans hw228_1)))).trans (((HB.out.cell (wl w _ hw228_1)).trans hw228_1)), (World.cell?_alloc_lt _ _ _ (wl _ _ (((HB.out.cell (wl w _ hw228_2)).trans hw228_2)))).trans (((HB.out.cell (wl w _ hw228_2)).trans hw228_2)), (World.cell?_alloc_lt _ _ _ (wl _ _ (((HB.out.cell (wl w _ hw228_3)).trans hw228_3)))).trans (((HB.out.cell (wl w _ hw228_3)).trans hw228_3)), (World.cell?_alloc_lt _ _ _ (wl _ _ (((HB.out.cell (wl w _ hw228_4)).trans hw228_4)))).trans (((HB.out.cell (wl w _ hw228_4)).trans hw228_4)), (World.cell?_alloc_lt _ _ _ (wl _ _ (((HB.out.cell (wl w _ hw228_5)).trans hw228_5)))).trans (((HB.out.cell (wl w _ hw228_5)).trans hw228_5))⟩ (fun hHeld => ?_)
           clear hK K
           refine norm_ (a' := ?_) ?_ ?_
           rotate_left
           ·show Act.put _ (some 54) _ = _
            simp only [Act.put, sT, sZ, sS, i64_w, i32_w]
            rfl
           refine one_ (i := 9) (N := some 55) #[true, true, true, true, true, true, true, true, true, true, false] rfl rfl (one_of HT_.out (by kernel_rfl)) (by decide) (fun K hK => ?_)
           refine Kd.N_append_step k38 (w0 := w) w.heap.size (by rfl) (.tmp 46) (.tmp 54) 33 38 (.agg #[(.int .i64 0), (.bool false), (.int .i64 0), (.bool false), (.int .i64 0), (.slice none 0 0)]) 64 rfl Try.underlying33 info38 rfl (by decide) (by omega) u7 x7_1 (⟨(rd_T45 l0 x8_1).f1, (⟨a2_0, a2_1, a2_2, a2_3, l2_4⟩ : S25)⟩ : S38) [.int .i64 ((rd_T45 l0 x8_1).f1), .bool a2_0, .int .i64 a2_1, .bool a2_2, .int .i64 a2_3, .slice A2_4 l2_4.length c2_4] (fun k_ => (P2_4_ k_ ∨ w.heap.size ≤ k_) ∧ k_ ≠ gb214 ∧ k_ ≠ gb221) (fun k_ => ((fun k_ => (P2_4_ k_ ∨ w.heap.size ≤ k_) ∧ k_ ≠ gb214 ∧ k_ ≠ gb221)) k_ ∧ some k_ ≠ (u7 : Value).ownBlock) rfl rfl ?aP (fun _ hk => hk) ?aF ?aO ?aB ?aS ?aL ?_
           (case aP => exact (k38_mkF _ _ (⟨(rd_T45 l0 x8_1).f1, (⟨a2_0, a2_1, a2_2, a2_3, l2_4⟩ : S25)⟩ : S38) (Kd.V_reads' (Kd.V_mono (ok' := (fun k_ => ((fun k_ => (P2_4_ k_ ∨ w.heap.size ≤ k_) ∧ k_ ≠ gb214 ∧ k_ ≠ gb221)) k_ ∧ some k_ ≠ (u7 : Value).ownBlock)) (HO_215004.out) (fun k_ hk => ⟨⟨hk.1, ⟨hk.2.2.1, hk.2.2.2⟩⟩, hk.2.1⟩))).2.1 (Kd.V_F (Kd.V_mono (ok' := (fun k_ => ((fun k_ => (P2_4_ k_ ∨ w.heap.size ≤ k_) ∧ k_ ≠ gb214 ∧ k_ ≠ gb221)) k_ ∧ some k_ ≠ (u7 : Value).ownBlock)) (HO_215004.out) (fun k_ hk => ⟨⟨hk.1, ⟨hk.2.2.1, hk.2.2.2⟩⟩, hk.2.1⟩)))))
           (case aB => exact (by repeat (first | (with_reducible first | exact HB.out | apply lA | apply lN | apply lW | refine lS ?_ GE214.out | refine lS ?_ GE221.out) | exact HB.out)))
           (case aF => exact (fun k_ hk => ⟨(.inr (Nat.le_trans (lZ (by repeat (first | (with_reducible first | exact HB.out | apply lA | apply lN | apply lW | refine lS ?_ GE214.out | refine lS ?_ GE221.out) | exact HB.out))) hk)), Kd.freshB (g := gb214) (o := .cells #[.bool a2_0, .int .i64 a2_1, .bool a2_2, .int .i64 a2_3, .slice A2_4 l2_4.length c2_4] 25 (0, 0)) (by (with_reducible repeat (first | refine bN ?_ _ | refine bW ?_ | refine bA ?_ _)); exact BK214.out) k_ hk, Kd.freshB (g := gb221) (o := .cells #[.bool a2_0, .int .i64 a2_1, .bool a2_2, .int .i64 a2_3, .slice A2_4 l2_4.length c2_4] 25 (0, 0)) (by (with_reducible repeat (first | refine bN ?_ _ | refine bW ?_ | refine bA ?_ _)); exact BK221.out) k_ hk⟩))
           (case aO => exact (by (with_reducible repeat (first | apply Kd.N_alloc | apply Kd.N_drewN | apply Kd.N_drew)); exact HO_7.out))
           (case aS => exact (lZ (by repeat (first | (with_reducible first | exact HB.out | apply lA | apply lN | apply lW | refine lS ?_ GE214.out | refine lS ?_ GE221.out) | exact HB.out))))
           (case aL => have := LMc27.out; omega)
           intro v230 w34 ho hb hg hat
           rw [← Ny229.out] at ho
           have n0_ := aM (Kd.V_afterv (ok := (fun k_ => (P2_4_ k_ ∨ w.heap.size ≤ k_) ∧ k_ ≠ gb214 ∧ k_ ≠ gb221)) (by (with_reducible repeat (first | apply Kd.V_alloc | apply Kd.V_drewN | apply Kd.V_drew)); exact Kd.V_mono HO_215004.out (fun _ hk => ⟨⟨hk.1, ⟨hk.2.2.1, hk.2.2.2⟩⟩, hk.2.1⟩)) hg hat)
           have n1_ := aM (blk_grown (g := gb214) (o := .cells #[.bool a2_0, .int .i64 a2_1, .bool a2_2, .int .i64 a2_3, .slice A2_4 l2_4.length c2_4] 25 (0, 0)) (by (with_reducible repeat (first | refine bN ?_ _ | refine bW ?_ | refine bA ?_ _)); exact BK214.out) hg (Kd.N_ne HO_7.out BK214.out (by decide)))
           have n2_ := aM (blk_grown (g := gb221) (o := .cells #[.bool a2_0, .int .i64 a2_1, .bool a2_2, .int .i64 a2_3, .slice A2_4 l2_4.length c2_4] 25 (0, 0)) (by (with_reducible repeat (first | refine bN ?_ _ | refine bW ?_ | refine bA ?_ _)); exact BK221.out) hg (Kd.N_ne HO_7.out BK221.out (by decide)))
           have n3_ := aM (hb)
           have n4_ := aM (ho)
           clear HO_215004
           clear BK214
           clear BK221
           clear HB
           clear HO_7
           have HO_215004 := n0_
           have BK214 := n1_
           have BK221 := n2_
           have HB := n3_
           have HO231 := n4_
           clear n0_ n1_ n2_ n3_ n4_
           clear ho hb hg hat
           refine hK.out _ _ ⟨(bC BK221.out 0).trans rfl, (bC BK221.out 1).trans rfl, (bC BK221.out 2).trans rfl, (bC BK221.out 3).trans rfl, (bC BK221.out 4).trans rfl, ((HB.out.cell (wl w _ hw228_0)).trans hw228_0), ((HB.out.cell (wl w _ hw228_1)).trans hw228_1), ((HB.out.cell (wl w _ hw228_2)).trans hw228_2), ((HB.out.cell (wl w _ hw228_3)).trans hw228_3), ((HB.out.cell (wl w _ hw228_4)).trans hw228_4), ((HB.out.cell (wl w _ hw228_5)).trans hw228_5)⟩ (fun hHeld => ?_)
           clear hK K
           refine norm_ (a' := ?_) ?_ ?_
           rotate_left
           ·show Act.put _ (some 55) _ = _
            simp only [Act.put, sT, sZ, sS, i64_w, i32_w]
            rfl
           refine pure_ (i := 10) (N := some 7) (v := ?_) (a' := ?_) #[true, true, true, true, true, true, true, true, true, true, true] rfl rfl (any_of HT_.out (by kernel_rfl)) (fun _ _ _ h => h) (Or.inl ⟨by rfl, ?_⟩) ?_ ?_
           rotate_left
           ·intro w'
            go_simp
            with_reducible rfl
           rotate_left
           ·simp only [Act.put, sT, sZ, sS, i64_w, i32_w]
            rfl
           refine done_ (done_of HT_.out (by kernel_rfl)) ?_
           try go_wp2
           go_roundg kj7
           case measure => have := HK1.out; have := HJ7.out; omega
           case rel => exact ⟨(y229), (wrap64 (x8_1 + 1)), (by first | rfl | (simp; done) | (simp [*]; done)), H', ⟨by have := HK1.out; have := HJ7.out; omega⟩, ⟨by (with_reducible repeat (first | apply Kd.N_alloc | apply Kd.N_drewN | apply Kd.N_drew)); exact Kd.N_mono HO231.out (fun _ hk => ⟨hk.1, hk.2.1⟩)⟩, ⟨by (with_reducible repeat (first | apply Kd.V_alloc | apply Kd.V_drewN | apply Kd.V_drew)); exact Kd.V_mono HO_215004.out (fun _ hk => ⟨hk.1.1, ⟨hk.2, hk.1.2.1⟩⟩)⟩, ⟨by (with_reducible repeat (first | refine bN ?_ _ | refine bW ?_ | refine bA ?_ _)); exact BK214.out⟩, ⟨by repeat (first | (with_reducible first | exact HB.out | apply lA | apply lN | apply lW | refine lS ?_ GE214.out | refine lS ?_ GE221.out) | exact HB.out)⟩⟩
          ·rw [if_neg c27] at H
           exact absurd H (by simp)
        ·rw [if_neg c17] at H
         exact absurd H (by simp)
       ·rw [if_neg c16] at H
        exact absurd H (by simp)
      ·replace c15 := Bool.eq_false_iff.mpr c15
       subst c15
       have H1 : (phaetonref12_Hops.l0 kj7 l0 a1 x7_1 (wrap64 (x8_1 + 1)) a2_0 a2_1 a2_2 a2_3 l2_4) = some r := by rw [if_neg (show ¬ (false = true) by decide)] at H; exact H
       clear H
       have H := H1
       clear H1
       have H' := aM H
       clear H
       (try have ltq_ := blk_lt BK214.out)
       go_wp2
       go_roundg kj7
       case measure => have := HK1.out; have := HJ7.out; omega
       case rel => exact ⟨(x7_1), (wrap64 (x8_1 + 1)), (by first | rfl | (simp; done) | (simp [*]; done)), H', ⟨by have := HK1.out; have := HJ7.out; omega⟩, ⟨by (with_reducible repeat (first | apply Kd.N_alloc | apply Kd.N_drewN | apply Kd.N_drew)); exact HO_7.out⟩, ⟨by (with_reducible repeat (first | apply Kd.V_alloc | apply Kd.V_drewN | apply Kd.V_drew)); exact HO_215004.out⟩, ⟨by (with_reducible repeat (first | refine bN ?_ _ | refine bW ?_ | refine bA ?_ _)); exact BK214.out⟩, ⟨by repeat (first | (with_reducible first | exact HB.out | apply lA | apply lN | apply lW | refine lS ?_ GE214.out) | exact HB.out)⟩⟩
   ·rw [if_neg c7] at H
    have c7b0 : decide (x8_1 < (l0.length : Int)) = false := decide_eq_false c7
    clear c7
    obtain rfl := Option.some.inj H
    (try have ltq_ := blk_lt BK214.out)
    go_wp2
    go_ret
    exact ⟨_, by first | rfl | (simp [errW_none, errW_some] <;> rfl) | (simp [*, errW_none, errW_some] <;> rfl), by (with_reducible repeat (first | apply Kd.N_alloc | apply Kd.N_drewN | apply Kd.N_drew)); exact Kd.N_mono HO_7.out (fun _ hk => hk.1), by repeat (first | (with_reducible first | exact HB.out | apply lA | apply lN | apply lW | refine lS ?_ GE214.out) | exact HB.out)⟩

end Go.Proofs.Ytpcabeefahldlaa.P

/- Go functions that the laws of this seat reach, each as a Lean function, and a proof that a call of the Go code comes to its answers; written by a program (the kit's print, turned in a few places). Conditions: each theorem's own premises. -/
import Derived.Shelf.Abstract
import Derived.Test.YtpcabeefahldlaaPx0
import Derived.Test.YtpcabeefahldlaaPx6
namespace Go.Proofs.Ytpcabeefahldlaa.P
open Go.Shelf Go.RowKit Go.Proofs.YtpcabeefahldlaaW.PrintWords Go.Proofs.YtpcabeefahldlaaW.PrintLast Go.Proofs.YtpcabeefahldlaaW.PrintMore
attribute [local go_sem] max2_int min2_int max_two min_two max_three min_three max_four min_four   -- for this text's walks alone
set_option linter.unusedVariables false
set_option linter.unusedSimpArgs false

/-! ### route_ReachNext: function 31 -/
def route_ReachNext.l0 : Nat → List (S45) → List (S38) → List (S38) → Int → Int → Option ((List (S38)))
 | 0, _, _, _, _, _ => none
 | k + 1, x1, x4, x7, x8, x9 => if x9 < x8 then (if 0 ≤ x9 then (if x9 < (x7.length : Int) then ((route_Hops.f k x1 ((rd_T38 x7 x9).f0) ((rd_T38 x7 x9).f1.f0) ((rd_T38 x7 x9).f1.f1) ((rd_T38 x7 x9).f1.f2) ((rd_T38 x7 x9).f1.f3) ((rd_T38 x7 x9).f1.f4)).bind fun t129 => (if x4.length + t129.length < 2199023255552 then (route_ReachNext.l0 k x1 (x4 ++ t129) x7 x8 (wrap64 (x9 + 1))) else (none))) else (none)) else (none)) else (some x4)
def route_ReachNext.f (k : Nat) (l0 : List (S38)) (l1 : List (S45)) : Option ((List (S38))) := route_ReachNext.l0 k l1 ([] : List (S38)) l0 (l0.length : Int) 0
theorem route_ReachNext.mono_l : ∀ k, (∀ y0 y1 y2 y3 y4, LeO (route_ReachNext.l0 k y0 y1 y2 y3 y4) (route_ReachNext.l0 (k + 1) y0 y1 y2 y3 y4))
 | 0 => fun _ _ _ _ _ r h => by simp [route_ReachNext.l0] at h
 | k + 1 => by
  have ih0 := route_ReachNext.mono_l k
  ·intro y0 y1 y2 y3 y4
   unfold route_ReachNext.l0
   repeat' first
   | (with_reducible exact ih0 _ _ _ _ _)
   | (with_reducible exact route_Hops.mono _ _ _ _ _ _ _ _)
   | (with_reducible exact LeO.refl _)
   | (with_reducible exact LeO.none _)
   | (with_reducible refine LeO.ite ?_ ?_)
   | (with_reducible refine LeO.bind ?_ (fun _ => ?_))
   | exact ih0 _ _ _ _ _
   | exact route_Hops.mono _ _ _ _ _ _ _ _
   | exact LeO.none _
   | refine LeO.ite ?_ ?_
   | refine LeO.bind ?_ (fun _ => ?_)
theorem route_ReachNext.mono : ∀ a0 a1 k, LeO (route_ReachNext.f k a0 a1) (route_ReachNext.f (k + 1) a0 a1) := by
 intro a0 a1 k
 have ih0 := route_ReachNext.mono_l k
 unfold route_ReachNext.f
 repeat' first
   | (with_reducible exact ih0 _ _ _ _ _)
   | (with_reducible exact route_Hops.mono _ _ _ _ _ _ _ _)
   | (with_reducible exact LeO.refl _)
   | (with_reducible exact LeO.none _)
   | (with_reducible refine LeO.ite ?_ ?_)
   | (with_reducible refine LeO.bind ?_ (fun _ => ?_))
   | exact ih0 _ _ _ _ _
   | exact route_Hops.mono _ _ _ _ _ _ _ _
   | exact LeO.none _
   | refine LeO.ite ?_ ?_
   | refine LeO.bind ?_ (fun _ => ?_)
set_option maxHeartbeats 8000000 in
set_option maxRecDepth 100000 in
theorem route_ReachNext.calls (k : Nat) (P0_ : Nat → Prop) (A0 : Option Addr) (c0 : Nat) (l0 : List (S38)) (A1 : Option Addr) (c1 : Nat) (l1 : List (S45)) (r : List (S38)) (w : World) (hs0 : Kd.V k38 38 w w.heap.size (fun k_ => P0_ k_) (.slice A0 l0.length c0) l0) (hr1 : Kd.C k45 w A1 l1.length l1) (hc1 : l1.length ≤ c1) (h : route_ReachNext.f k l0 l1 = some r) (gl : Nat) (hgl : gl < w.heap.size) (hcl : w.cell? ⟨gl, 0, none⟩ = some (.slice A1 l1.length c1)) :
  Calls Try.prog 31 #[.slice A0 l0.length c0, .pointer (some ⟨gl, 0, none⟩)] w fun e w' => ∃ v0_ : Value, e = .returned (v0_) ∧ Kd.N k38 38 w' w.heap.size (fun k_ => (P0_ k_ ∨ w.heap.size ≤ k_)) v0_ r ∧ Below w.heap.size w w' := by
 have hu38 := Try.underlying38
 have hu25 := Try.underlying25
 have HO0 := aM (show Kd.V k38 38 w w.heap.size (fun k_ => (P0_ k_ ∨ w.heap.size ≤ k_)) (.slice A0 l0.length c0) l0 from Kd.V_mono hs0 (fun k_ hk => .inl hk))
 have HR1 := aM hr1
 have HC1 := aM hc1
 clear hr1 hc1
 have HB := aM (Below.refl w.heap.size w)
 have HGL := aM hgl
 have HCL := aM hcl
 clear hgl hcl
 have H : (route_ReachNext.l0 k l1 ([] : List (S38)) l0 (l0.length : Int) 0) = some r := h
 clear h
 have H' := aM H
 clear H
 go_enter Try.func31, Try.ntmps31
 go_wp2
 go_loopg [4, 9] k (fun kq v4 v9 w' => ∃ (x4_1 : List (S38)) (x9_1 : Int), v9 = .int .i64 x9_1 ∧ Aside0 (route_ReachNext.l0 kq l1 x4_1 l0 (l0.length : Int) x9_1 = some r) ∧ Aside0 (kq ≤ k) ∧ Aside0 (Kd.N k38 38 w' w.heap.size (fun k_ => (P0_ k_ ∨ w.heap.size ≤ k_)) v4 x4_1) ∧ Aside0 (Kd.V k38 38 w' w.heap.size (fun k_ => (P0_ k_ ∨ w.heap.size ≤ k_) ∧ some k_ ≠ (v4 : Value).ownBlock) (.slice A0 l0.length c0) l0) ∧ Aside0 (Below w.heap.size w w'))
 case atStart => exact ⟨(([] : List (S38))), (0), (by first | rfl | (simp; done) | (simp [*]; done)), H', ⟨Nat.le_refl _⟩, ⟨by first | exact Kd.S_nil _ _ _ _ _ | exact Kd.N_nil _ _ _ _ _ | exact Kd.V_nil _ _ _ _ _ | exact Kd.Q_nil _ _ _ _ _ | exact Kd.R_nil _ _ _ _ _⟩, ⟨by (with_reducible repeat (first | apply Kd.V_alloc | apply Kd.V_drewN | apply Kd.V_drew)); exact Kd.V_mono HO0.out (fun _ hk => ⟨hk, (by simp [Value.ownBlock])⟩)⟩, ⟨by repeat (first | (with_reducible first | exact HB.out | apply lA | apply lN | apply lW) | exact HB.out)⟩⟩
 case round =>
  clear H'
  try clear c1
  try clear p2
  obtain ⟨x4_1, x9_1, rfl, HA, HK1, HO_4, HO_7, HB⟩ := hrel
  cases gk with
  | zero => exact absurd HA.out (by simp [route_ReachNext.l0])
  | succ k1 =>
   have H := HA.out
   clear HA
   simp only [route_ReachNext.l0] at H
   by_cases c3 : x9_1 < (l0.length : Int)
   ·rw [if_pos c3] at H
    have c3b0 : decide (x9_1 < (l0.length : Int)) = true := decide_eq_true c3
    clear c3
    by_cases c4 : 0 ≤ x9_1
    ·rw [if_pos c4] at H
     have c4b0 : decide (0 ≤ x9_1) = true := decide_eq_true c4
     clear c4
     by_cases c5 : x9_1 < (l0.length : Int)
     ·rw [if_pos c5] at H
      have c5b0 : decide (x9_1 < (l0.length : Int)) = true := decide_eq_true c5
      clear c5
      replace H := Option.bind_eq_some_iff.mp H
      obtain ⟨t129, A60, H⟩ := H
      replace H : (if x4_1.length + t129.length < 2199023255552 then (route_ReachNext.l0 k1 l1 (x4_1 ++ t129) l0 (l0.length : Int) (wrap64 (x9_1 + 1))) else (none)) = some r := H
      have A6 := aM A60
      clear A60
      by_cases c7 : x4_1.length + t129.length < 2199023255552
      ·rw [if_pos c7] at H
       have LMc7 := aM c7
       clear c7
       obtain ⟨y132, hy132⟩ : ∃ y_ : List (S38), y_ = (x4_1 ++ t129) := ⟨_, rfl⟩
       replace H : (route_ReachNext.l0 k1 l1 y132 l0 (l0.length : Int) (wrap64 (x9_1 + 1))) = some r := by first | (rw [hy132]; with_reducible exact H) | (have H2_ := (Option.bind_some _ _).symm.trans H; rw [hy132]; with_reducible exact H2_) | (have H2_ := (Option.bind_some _ _).symm.trans H; with_reducible exact H2_) | with_reducible exact H | (rw [hy132]; exact H) | exact H
       have Ny132 := aM hy132
       clear hy132
       have H' := aM H
       clear H
       have p127 : 0 ≤ (x9_1 : Int) := oD (by first | (with_reducible assumption) | assumption)
       have q127 : x9_1 < (l0.length : Int) := oD (by first | (with_reducible assumption) | assumption)
       obtain ⟨ad127, A127_5, c127_5, e127, hx127_0, hx127_1, hx127_2, hx127_3, hx127_4, hx127_5, hl127_5, hi127_5⟩ := at_T38 (Kd.V_reads' HO_7.out).2.2 x9_1 p127 q127
       cases e127
       obtain ⟨ce127, hce127, hMe127, hcc127⟩ := Kd.V_get HO_7.out z38 x9_1 p127 (by first | exact q127 | exact oD (by first | (with_reducible assumption) | assumption) | (have e_ := (Kd.V_reads' HO_7.out).1; omega))
       obtain ⟨ua127_5, uc127_5, rfl, ul127_5, ge127_5⟩ := k38_openF hMe127
       have hv127_5 := hcc127 5 _ rfl
       rw [add_field _ _ 5 (by omega)] at hv127_5
       replace hv127_5 := Option.some.inj (hv127_5.symm.trans hx127_5)
       injection hv127_5 with hva_ hvn_ hvc_
       rw [hva_] at ge127_5
       rw [hvc_] at ul127_5
       have HL127_5 := aM (show Kd.V (Kd.int .u8) 5 _ w.heap.size _ _ ((rd_T38 l0 x9_1).f1.f4) from Kd.V_mk ul127_5 ge127_5)
       clear hva_ hvn_ hvc_ ge127_5 ul127_5
       clear hcc127 hce127
       have HR127_5 := aM hi127_5
       have HC127_5 := aM hl127_5
       clear hi127_5 hl127_5
       replace p127 := eq_true p127
       replace q127 := eq_true q127
       go_wp2_with (first | ((with_reducible refine gate_dst (N := 6) rfl ?_); refine box_event ?hg (N := 6) ?hd (cs := #[.int .i64 0, .bool false, .int .i64 0, .bool false, .int .i64 0, .slice none 0 0]) (t := 38) ?hr ?_; (case hd => rfl); (case hg => rfl); (case hr => first | (go_simp; done) | (go_simp; rfl)); intro gb128 hg w8 hbox hb; have n0_ := aM (Kd.N_below (Kd.N_elderB (by (with_reducible repeat (first | apply Kd.N_alloc | apply Kd.N_drewN | apply Kd.N_drew)); exact HO_4.out) gb128 (Nat.le_of_eq hg.symm)) hb); have n1_ := aM (Kd.V_below (Kd.V_elderB (by (with_reducible repeat (first | apply Kd.V_alloc | apply Kd.V_drewN | apply Kd.V_drew)); exact HO_7.out) gb128 (Nat.le_of_eq hg.symm)) hb); have n2_ := aM (Kd.V_below (Kd.V_elderB (by (with_reducible repeat (first | apply Kd.V_alloc | apply Kd.V_drewN | apply Kd.V_drew)); exact HL127_5.out) gb128 (Nat.le_of_eq hg.symm)) hb); have n3_ := aM (Kd.C_below (by repeat (first | (with_reducible exact HR127_5.out) | (with_reducible refine Kd.C_alloc ?_ _) | (with_reducible refine Kd.C_drewN ?_ _) | (with_reducible refine Kd.C_drew ?_) | exact HR127_5.out)) hb); have n4_ := aM (lT (by repeat (first | (with_reducible first | exact HB.out | apply lA | apply lN | apply lW) | exact HB.out)) hb); have n5_ := aM (hbox); have n6_ := aM ((by rw [hg]; exact (lZ (by repeat (first | (with_reducible first | exact HB.out | apply lA | apply lN | apply lW) | exact HB.out))) : w.heap.size ≤ gb128)); have n7_ := aM ((by rw [hg]; exact (lZ (by repeat (first | (with_reducible first | exact HB.out | apply lA | apply lN | apply lW) | exact HB.out))) : w.heap.size ≤ gb128)); clear HO_4; clear HO_7; clear HL127_5; clear HR127_5; clear HB; have HO_4 := n0_; have HO_7 := n1_; have HL127_5 := n2_; have HR127_5 := n3_; have HB := n4_; have BK128 := n5_; have GW128 := n6_; have GE128 := n7_; clear n0_ n1_ n2_ n3_ n4_ n5_ n6_ n7_; clear hb hbox hg; have hcz9_0 : w8.cell? ⟨gb128, 0, none⟩ = some (.int .i64 0) := (bC BK128.out 0).trans rfl; have hcz9_1 : w8.cell? ⟨gb128, 1, none⟩ = some (.bool false) := (bC BK128.out 1).trans rfl; have hcz9_2 : w8.cell? ⟨gb128, 2, none⟩ = some (.int .i64 0) := (bC BK128.out 2).trans rfl; have hcz9_3 : w8.cell? ⟨gb128, 3, none⟩ = some (.bool false) := (bC BK128.out 3).trans rfl; have hcz9_4 : w8.cell? ⟨gb128, 4, none⟩ = some (.int .i64 0) := (bC BK128.out 4).trans rfl; have hcz9_5 : w8.cell? ⟨gb128, 5, none⟩ = some (.slice none 0 0) := (bC BK128.out 5).trans rfl; have hfz9_0 := bF BK128.out 0; have hfz9_1 := bF BK128.out 1; have hfz9_2 := bF BK128.out 2; have hfz9_3 := bF BK128.out 3; have hfz9_4 := bF BK128.out 4; have hfz9_5 := bF BK128.out 5; have hcl_ := (HB.out.cell (p := ⟨gl, 0, none⟩) HGL.out).trans HCL.out; have hnl_ := Nat.ne_of_lt (Nat.lt_of_lt_of_le HGL.out GE128.out); have hnm_ := hnl_.symm) | ((with_reducible refine gate_store (t := 38) (p := 6) rfl ?_); refine store_event (t := 38) (p := 6) (v := ?vo_w10) (w1 := ((((((w8.setCell ⟨gb128, 0, none⟩ (.int .i64 ((rd_T38 l0 x9_1).f0))).setCell ⟨gb128, 1, none⟩ (.bool ((rd_T38 l0 x9_1).f1.f0))).setCell ⟨gb128, 2, none⟩ (.int .i64 ((rd_T38 l0 x9_1).f1.f1))).setCell ⟨gb128, 3, none⟩ (.bool ((rd_T38 l0 x9_1).f1.f2))).setCell ⟨gb128, 4, none⟩ (.int .i64 ((rd_T38 l0 x9_1).f1.f3))).setCell ⟨gb128, 5, none⟩ (.slice A127_5 ((rd_T38 l0 x9_1).f1.f4).length c127_5))) ?hg ?ho ?hn ?hr ?_; (case ho => rfl); (case hg => rfl); (case hn => rfl); (case hr => first | (go_simp; done) | (go_simp; rfl)); intro w10 hw; have n0_ : Aside0 (Kd.N k38 38 w10 w.heap.size (fun k_ => (P0_ k_ ∨ w.heap.size ≤ k_) ∧ k_ ≠ gb128) u4 x4_1) := ⟨(by rw [hw]; exact (by (with_reducible repeat (first | apply Kd.N_alloc | apply Kd.N_drewN | apply Kd.N_drew)); exact Kd.N_mono (Kd.N_far (p := ⟨gb128, 5, none⟩) (Kd.N_far (p := ⟨gb128, 4, none⟩) (Kd.N_far (p := ⟨gb128, 3, none⟩) (Kd.N_far (p := ⟨gb128, 2, none⟩) (Kd.N_far (p := ⟨gb128, 1, none⟩) (Kd.N_far (p := ⟨gb128, 0, none⟩) (Kd.N_mono HO_4.out (fun k_ hk => (⟨hk, hk.2⟩ : _ ∧ k_ ≠ gb128))) (fun _ hk => hk.2) (.int .i64 ((rd_T38 l0 x9_1).f0))) (fun _ hk => hk.2) (.bool ((rd_T38 l0 x9_1).f1.f0))) (fun _ hk => hk.2) (.int .i64 ((rd_T38 l0 x9_1).f1.f1))) (fun _ hk => hk.2) (.bool ((rd_T38 l0 x9_1).f1.f2))) (fun _ hk => hk.2) (.int .i64 ((rd_T38 l0 x9_1).f1.f3))) (fun _ hk => hk.2) (.slice A127_5 ((rd_T38 l0 x9_1).f1.f4).length c127_5)) (fun _ hk => ⟨hk.1.1, hk.1.2⟩)))⟩; have n1_ : Aside0 (Kd.V k38 38 w10 w.heap.size (fun k_ => (P0_ k_ ∨ w.heap.size ≤ k_) ∧ some k_ ≠ (u4 : Value).ownBlock ∧ k_ ≠ gb128) (.slice (some ad127) l0.length c0) l0) := ⟨(by rw [hw]; exact (by (with_reducible repeat (first | apply Kd.V_alloc | apply Kd.V_drewN | apply Kd.V_drew)); exact Kd.V_mono (Kd.V_far (p := ⟨gb128, 5, none⟩) (Kd.V_far (p := ⟨gb128, 4, none⟩) (Kd.V_far (p := ⟨gb128, 3, none⟩) (Kd.V_far (p := ⟨gb128, 2, none⟩) (Kd.V_far (p := ⟨gb128, 1, none⟩) (Kd.V_far (p := ⟨gb128, 0, none⟩) (Kd.V_mono HO_7.out (fun k_ hk => (⟨hk, hk.2⟩ : _ ∧ k_ ≠ gb128))) (fun _ hk => hk.2) (.int .i64 ((rd_T38 l0 x9_1).f0))) (fun _ hk => hk.2) (.bool ((rd_T38 l0 x9_1).f1.f0))) (fun _ hk => hk.2) (.int .i64 ((rd_T38 l0 x9_1).f1.f1))) (fun _ hk => hk.2) (.bool ((rd_T38 l0 x9_1).f1.f2))) (fun _ hk => hk.2) (.int .i64 ((rd_T38 l0 x9_1).f1.f3))) (fun _ hk => hk.2) (.slice A127_5 ((rd_T38 l0 x9_1).f1.f4).length c127_5)) (fun _ hk => ⟨hk.1.1.1, ⟨hk.1.1.2, hk.1.2⟩⟩)))⟩; have n2_ : Aside0 (Kd.V (Kd.int .u8) 5 w10 w.heap.size (fun k_ => (P0_ k_ ∨ w.heap.size ≤ k_) ∧ some k_ ≠ (u4 : Value).ownBlock ∧ k_ ≠ gb128) (.slice A127_5 ((rd_T38 l0 x9_1).f1.f4).length c127_5) ((rd_T38 l0 x9_1).f1.f4)) := ⟨(by rw [hw]; exact (by (with_reducible repeat (first | apply Kd.V_alloc | apply Kd.V_drewN | apply Kd.V_drew)); exact Kd.V_mono (Kd.V_far (p := ⟨gb128, 5, none⟩) (Kd.V_far (p := ⟨gb128, 4, none⟩) (Kd.V_far (p := ⟨gb128, 3, none⟩) (Kd.V_far (p := ⟨gb128, 2, none⟩) (Kd.V_far (p := ⟨gb128, 1, none⟩) (Kd.V_far (p := ⟨gb128, 0, none⟩) (Kd.V_mono HL127_5.out (fun k_ hk => (⟨hk, hk.2⟩ : _ ∧ k_ ≠ gb128))) (fun _ hk => hk.2) (.int .i64 ((rd_T38 l0 x9_1).f0))) (fun _ hk => hk.2) (.bool ((rd_T38 l0 x9_1).f1.f0))) (fun _ hk => hk.2) (.int .i64 ((rd_T38 l0 x9_1).f1.f1))) (fun _ hk => hk.2) (.bool ((rd_T38 l0 x9_1).f1.f2))) (fun _ hk => hk.2) (.int .i64 ((rd_T38 l0 x9_1).f1.f3))) (fun _ hk => hk.2) (.slice A127_5 ((rd_T38 l0 x9_1).f1.f4).length c127_5)) (fun _ hk => ⟨hk.1.1.1, ⟨hk.1.1.2, hk.1.2⟩⟩)))⟩; have n3_ : Aside0 (w10.heap[gb128]? = some (.cells #[.int .i64 ((rd_T38 l0 x9_1).f0), .bool ((rd_T38 l0 x9_1).f1.f0), .int .i64 ((rd_T38 l0 x9_1).f1.f1), .bool ((rd_T38 l0 x9_1).f1.f2), .int .i64 ((rd_T38 l0 x9_1).f1.f3), .slice A127_5 ((rd_T38 l0 x9_1).f1.f4).length c127_5] 38 (0, 0))) := ⟨(by rw [hw]; exact (by (with_reducible repeat (first | refine bN ?_ _ | refine bW ?_ | refine bA ?_ _)); refine blk_put (cs := #[.int .i64 ((rd_T38 l0 x9_1).f0), .bool ((rd_T38 l0 x9_1).f1.f0), .int .i64 ((rd_T38 l0 x9_1).f1.f1), .bool ((rd_T38 l0 x9_1).f1.f2), .int .i64 ((rd_T38 l0 x9_1).f1.f3), .slice none 0 0]) ?_ 5 _ rfl; (with_reducible repeat (first | refine bN ?_ _ | refine bW ?_ | refine bA ?_ _)); refine blk_put (cs := #[.int .i64 ((rd_T38 l0 x9_1).f0), .bool ((rd_T38 l0 x9_1).f1.f0), .int .i64 ((rd_T38 l0 x9_1).f1.f1), .bool ((rd_T38 l0 x9_1).f1.f2), .int .i64 0, .slice none 0 0]) ?_ 4 _ rfl; (with_reducible repeat (first | refine bN ?_ _ | refine bW ?_ | refine bA ?_ _)); refine blk_put (cs := #[.int .i64 ((rd_T38 l0 x9_1).f0), .bool ((rd_T38 l0 x9_1).f1.f0), .int .i64 ((rd_T38 l0 x9_1).f1.f1), .bool false, .int .i64 0, .slice none 0 0]) ?_ 3 _ rfl; (with_reducible repeat (first | refine bN ?_ _ | refine bW ?_ | refine bA ?_ _)); refine blk_put (cs := #[.int .i64 ((rd_T38 l0 x9_1).f0), .bool ((rd_T38 l0 x9_1).f1.f0), .int .i64 0, .bool false, .int .i64 0, .slice none 0 0]) ?_ 2 _ rfl; (with_reducible repeat (first | refine bN ?_ _ | refine bW ?_ | refine bA ?_ _)); refine blk_put (cs := #[.int .i64 ((rd_T38 l0 x9_1).f0), .bool false, .int .i64 0, .bool false, .int .i64 0, .slice none 0 0]) ?_ 1 _ rfl; (with_reducible repeat (first | refine bN ?_ _ | refine bW ?_ | refine bA ?_ _)); refine blk_put (cs := #[.int .i64 0, .bool false, .int .i64 0, .bool false, .int .i64 0, .slice none 0 0]) ?_ 0 _ rfl; (with_reducible repeat (first | refine bN ?_ _ | refine bW ?_ | refine bA ?_ _)); exact BK128.out))⟩; have n4_ : Aside0 (Below w.heap.size w w10) := ⟨(by rw [hw]; exact (by repeat (first | (with_reducible first | exact HB.out | apply lA | apply lN | apply lW | refine lS ?_ GE128.out) | exact HB.out)))⟩; clear hw; clear HO_4; clear HO_7; clear HL127_5; clear BK128; clear HB; have HO_4 := n0_; have HO_7 := n1_; have HL127_5 := n2_; have BK128 := n3_; have HB := n4_; clear n0_ n1_ n2_ n3_ n4_; have hcz11_0 : w10.cell? ⟨gb128, 0, none⟩ = some (.int .i64 ((rd_T38 l0 x9_1).f0)) := (bC BK128.out 0).trans rfl; have hcz11_1 : w10.cell? ⟨gb128, 1, none⟩ = some (.bool ((rd_T38 l0 x9_1).f1.f0)) := (bC BK128.out 1).trans rfl; have hcz11_2 : w10.cell? ⟨gb128, 2, none⟩ = some (.int .i64 ((rd_T38 l0 x9_1).f1.f1)) := (bC BK128.out 2).trans rfl; have hcz11_3 : w10.cell? ⟨gb128, 3, none⟩ = some (.bool ((rd_T38 l0 x9_1).f1.f2)) := (bC BK128.out 3).trans rfl; have hcz11_4 : w10.cell? ⟨gb128, 4, none⟩ = some (.int .i64 ((rd_T38 l0 x9_1).f1.f3)) := (bC BK128.out 4).trans rfl; have hcz11_5 : w10.cell? ⟨gb128, 5, none⟩ = some (.slice A127_5 ((rd_T38 l0 x9_1).f1.f4).length c127_5) := (bC BK128.out 5).trans rfl; have hfz11_0 := bF BK128.out 0; have hfz11_1 := bF BK128.out 1; have hfz11_2 := bF BK128.out 2; have hfz11_3 := bF BK128.out 3; have hfz11_4 := bF BK128.out 4; have hfz11_5 := bF BK128.out 5; (try clear hcl_); have hcl_ := (HB.out.cell (p := ⟨gl, 0, none⟩) HGL.out).trans HCL.out) | (go_at_call 18; fail))
       go_at_call 18
       (with_reducible refine (route_Hops.calls k1 _ _ l1 ((rd_T38 l0 x9_1).f0) ((rd_T38 l0 x9_1).f1.f0) ((rd_T38 l0 x9_1).f1.f1) ((rd_T38 l0 x9_1).f1.f2) ((rd_T38 l0 x9_1).f1.f3) (fun k_ => ((P0_ k_ ∨ w.heap.size ≤ k_) ∧ (some k_ ≠ (u4 : Value).ownBlock ∧ k_ ≠ gb128))) _ _ ((rd_T38 l0 x9_1).f1.f4) t129 _ ?side1 ?side2 ?side3 A6.out).mono ?_)
       (case side1 => repeat (first | exact (Kd.C_below HR1.out HB.out) | (with_reducible refine Kd.C_alloc ?_ _) | (with_reducible refine Kd.C_drewN ?_ _) | (with_reducible refine Kd.C_drew ?_)))
       (case side2 => exact HC1.out)
       (case side3 => exact HL127_5.out)
       rintro e w12 ⟨v130, rfl, ho0, hb⟩
       have n0_ := aM (Kd.N_elder' (by (with_reducible repeat (first | apply Kd.N_alloc | apply Kd.N_drewN | apply Kd.N_drew)); exact HO_4.out) (Kd.N_base ho0) hb)
       have n1_ := aM (Kd.V_elder' (by (with_reducible repeat (first | apply Kd.V_alloc | apply Kd.V_drewN | apply Kd.V_drew)); exact HO_7.out) (Kd.N_base ho0) hb)
       have n2_ := aM (Kd.V_elder' (by (with_reducible repeat (first | apply Kd.V_alloc | apply Kd.V_drewN | apply Kd.V_drew)); exact HL127_5.out) (Kd.N_base ho0) hb)
       have n3_ := aM (Kd.N_lower (Kd.N_mono (ok' := fun k_ => (P0_ k_ ∨ w.heap.size ≤ k_) ∧ some k_ ≠ (u4 : Value).ownBlock ∧ k_ ≠ gb128) ho0 (fun k_ hk_ => ⟨Or.elim hk_ (fun hs_ => hs_.1) (fun hn_ => (.inr (Nat.le_trans (lZ (by repeat (first | (with_reducible first | exact HB.out | apply lA | apply lN | apply lW | refine lS ?_ GE128.out) | exact HB.out))) hn_))), Or.elim hk_ (fun hs_ => hs_.2.1) (fun hn_ => (Kd.fresh' (Kd.N_lt (by (with_reducible repeat (first | apply Kd.N_alloc | apply Kd.N_drewN | apply Kd.N_drew)); exact HO_4.out)) k_ hn_)), Or.elim hk_ (fun hs_ => hs_.2.2) (fun hn_ => (Kd.freshB (g := gb128) (o := .cells #[.int .i64 ((rd_T38 l0 x9_1).f0), .bool ((rd_T38 l0 x9_1).f1.f0), .int .i64 ((rd_T38 l0 x9_1).f1.f1), .bool ((rd_T38 l0 x9_1).f1.f2), .int .i64 ((rd_T38 l0 x9_1).f1.f3), .slice A127_5 ((rd_T38 l0 x9_1).f1.f4).length c127_5] 38 (0, 0)) (by (with_reducible repeat (first | refine bN ?_ _ | refine bW ?_ | refine bA ?_ _)); exact BK128.out) k_ hn_))⟩)) (lZ (by repeat (first | (with_reducible first | exact HB.out | apply lA | apply lN | apply lW | refine lS ?_ GE128.out) | exact HB.out))))
       have n4_ := aM (Kd.C_below (Kd.V_reads' HL127_5.out).2.2 hb)
       have n5_ := aM (blk_below (g := gb128) (o := .cells #[.int .i64 ((rd_T38 l0 x9_1).f0), .bool ((rd_T38 l0 x9_1).f1.f0), .int .i64 ((rd_T38 l0 x9_1).f1.f1), .bool ((rd_T38 l0 x9_1).f1.f2), .int .i64 ((rd_T38 l0 x9_1).f1.f3), .slice A127_5 ((rd_T38 l0 x9_1).f1.f4).length c127_5] 38 (0, 0)) (by (with_reducible repeat (first | refine bN ?_ _ | refine bW ?_ | refine bA ?_ _)); exact BK128.out) hb)
       have n6_ := aM (lT (by repeat (first | (with_reducible first | exact HB.out | apply lA | apply lN | apply lW | refine lS ?_ GE128.out) | exact HB.out)) hb)
       clear HO_4
       clear HO_7
       clear HL127_5
       clear HR127_5
       clear BK128
       clear HB
       have HO_4 := n0_
       have HO_7 := n1_
       have HL127_5 := n2_
       have HO131 := n3_
       have HR127_5 := n4_
       have BK128 := n5_
       have HB := n6_
       clear n0_ n1_ n2_ n3_ n4_ n5_ n6_
       (try clear hb)
       (try clear hb2)
       (try clear hk)
       (try clear hi)
       (try clear ho0)
       obtain ⟨Ao14, co14, eo14⟩ := Kd.N_slice HO131.out
       subst eo14
       go_wp2_with (first | ((with_reducible refine gate_builtin (b := .append) (xs := #[.tmp 13, .tmp 19]) rfl ?_); at_builtin; refine Kd.N_append_rows k38 (w0 := w) w.heap.size rfl (.tmp 13) (.tmp 19) 33 38 (.agg #[(.int .i64 0), (.bool false), (.int .i64 0), (.bool false), (.int .i64 0), (.slice none 0 0)]) 64 rfl Try.underlying33 info38 rfl (by decide) (by omega) u4 x4_1 t129 _ _ _ (fun k_ => (P0_ k_ ∨ w.heap.size ≤ k_) ∧ k_ ≠ gb128) (fun k_ => ((fun k_ => (P0_ k_ ∨ w.heap.size ≤ k_) ∧ k_ ≠ gb128)) k_ ∧ some k_ ≠ (u4 : Value).ownBlock) rfl rfl ?aO ?aR (fun _ hk => hk) ?aF ?aB ?aS ?aL ?_; (case aR => exact (by skip; exact Kd.N_F (Kd.N_mono (ok' := (fun k_ => ((fun k_ => (P0_ k_ ∨ w.heap.size ≤ k_) ∧ k_ ≠ gb128)) k_ ∧ some k_ ≠ (u4 : Value).ownBlock)) (HO131.out) (fun k_ hk => ⟨⟨hk.1, hk.2.2⟩, hk.2.1⟩)))); (case aB => exact (by repeat (first | (with_reducible first | exact HB.out | apply lA | apply lN | apply lW | refine lS ?_ GE128.out) | exact HB.out))); (case aF => exact (fun k_ hk => ⟨(.inr (Nat.le_trans (lZ (by repeat (first | (with_reducible first | exact HB.out | apply lA | apply lN | apply lW | refine lS ?_ GE128.out) | exact HB.out))) hk)), Kd.freshB (g := gb128) (o := .cells #[.int .i64 ((rd_T38 l0 x9_1).f0), .bool ((rd_T38 l0 x9_1).f1.f0), .int .i64 ((rd_T38 l0 x9_1).f1.f1), .bool ((rd_T38 l0 x9_1).f1.f2), .int .i64 ((rd_T38 l0 x9_1).f1.f3), .slice A127_5 ((rd_T38 l0 x9_1).f1.f4).length c127_5] 38 (0, 0)) (by (with_reducible repeat (first | refine bN ?_ _ | refine bW ?_ | refine bA ?_ _)); exact BK128.out) k_ hk⟩)); (case aO => exact (by (with_reducible repeat (first | apply Kd.N_alloc | apply Kd.N_drewN | apply Kd.N_drew)); exact Kd.N_mono HO_4.out (fun _ hk => ⟨hk.1.1, hk.1.2⟩))); (case aS => exact (lZ (by repeat (first | (with_reducible first | exact HB.out | apply lA | apply lN | apply lW | refine lS ?_ GE128.out) | exact HB.out)))); (case aL => have := LMc7.out; omega); intro v133 w13 ho hb hg hat; rw [← Ny132.out] at ho; have n0_ := aM (Kd.V_afterv (ok := (fun k_ => (P0_ k_ ∨ w.heap.size ≤ k_) ∧ some k_ ≠ (.slice Ao14 t129.length co14 : Value).ownBlock ∧ k_ ≠ gb128)) (by (with_reducible repeat (first | apply Kd.V_alloc | apply Kd.V_drewN | apply Kd.V_drew)); exact Kd.V_mono HO_7.out (fun _ hk => ⟨⟨hk.1.1, ⟨hk.2, hk.1.2.2⟩⟩, hk.1.2.1⟩)) hg hat); have n1_ := aM (Kd.V_afterv (ok := (fun k_ => (P0_ k_ ∨ w.heap.size ≤ k_) ∧ some k_ ≠ (.slice Ao14 t129.length co14 : Value).ownBlock ∧ k_ ≠ gb128)) (by (with_reducible repeat (first | apply Kd.V_alloc | apply Kd.V_drewN | apply Kd.V_drew)); exact Kd.V_mono HL127_5.out (fun _ hk => ⟨⟨hk.1.1, ⟨hk.2, hk.1.2.2⟩⟩, hk.1.2.1⟩)) hg hat); have n2_ := aM (blk_grown (g := gb128) (o := .cells #[.int .i64 ((rd_T38 l0 x9_1).f0), .bool ((rd_T38 l0 x9_1).f1.f0), .int .i64 ((rd_T38 l0 x9_1).f1.f1), .bool ((rd_T38 l0 x9_1).f1.f2), .int .i64 ((rd_T38 l0 x9_1).f1.f3), .slice A127_5 ((rd_T38 l0 x9_1).f1.f4).length c127_5] 38 (0, 0)) (by (with_reducible repeat (first | refine bN ?_ _ | refine bW ?_ | refine bA ?_ _)); exact BK128.out) hg (Kd.N_away HO_4.out (fun _ hk => hk.1.2))); have n3_ := aM (Kd.N_afterv (ok := (fun k_ => (P0_ k_ ∨ w.heap.size ≤ k_) ∧ k_ ≠ gb128)) (by (with_reducible repeat (first | apply Kd.N_alloc | apply Kd.N_drewN | apply Kd.N_drew)); exact Kd.N_mono HO131.out (fun _ hk => ⟨⟨hk.1, hk.2.2⟩, hk.2.1⟩)) hg hat); have n4_ := aM (hb); have n5_ := aM (ho); clear HO_7; clear HL127_5; clear BK128; clear HO131; clear HB; clear HO_4; have HO_7 := n0_; have HL127_5 := n1_; have BK128 := n2_; have HO131 := n3_; have HB := n4_; have HO134 := n5_; clear n0_ n1_ n2_ n3_ n4_ n5_; clear ho hb hg hat))
       go_roundg k1
       case measure => have := HK1.out; omega
       case rel => exact ⟨(y132), (wrap64 (x9_1 + 1)), (by first | rfl | (simp; done) | (simp [*]; done)), H', ⟨by have := HK1.out; omega⟩, ⟨by (with_reducible repeat (first | apply Kd.N_alloc | apply Kd.N_drewN | apply Kd.N_drew)); exact Kd.N_mono HO134.out (fun _ hk => hk.1)⟩, ⟨by (with_reducible repeat (first | apply Kd.V_alloc | apply Kd.V_drewN | apply Kd.V_drew)); exact Kd.V_mono HO_7.out (fun _ hk => ⟨hk.1.1, hk.2⟩)⟩, ⟨by repeat (first | (with_reducible first | exact HB.out | apply lA | apply lN | apply lW | refine lS ?_ GE128.out) | exact HB.out)⟩⟩
      ·rw [if_neg c7] at H
       exact absurd H (by simp)
     ·rw [if_neg c5] at H
      exact absurd H (by simp)
    ·rw [if_neg c4] at H
     exact absurd H (by simp)
   ·rw [if_neg c3] at H
    have c3b0 : decide (x9_1 < (l0.length : Int)) = false := decide_eq_false c3
    clear c3
    obtain rfl := Option.some.inj H
    go_wp2
    go_ret
    exact ⟨_, by first | rfl | (simp [errW_none, errW_some] <;> rfl) | (simp [*, errW_none, errW_some] <;> rfl), by (with_reducible repeat (first | apply Kd.N_alloc | apply Kd.N_drewN | apply Kd.N_drew)); exact HO_4.out, by repeat (first | (with_reducible first | exact HB.out | apply lA | apply lN | apply lW) | exact HB.out)⟩

end Go.Proofs.Ytpcabeefahldlaa.P

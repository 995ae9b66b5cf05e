/- Go functions that the laws of this seat reach, each as a Lean function, and a proof that a call of the Go code comes to its answers; written by a program (the kit's print, turned in a few places). Conditions: each theorem's own premises. -/
import Derived.Shelf.Abstract
import Derived.Test.YtpcabeefahldlaaPx0
import Derived.Test.YtpcabeefahldlaaPx6
import Derived.Test.YtpcabeefahldlaaPx7
import Derived.Test.YtpcabeefahldlaaGLoop
namespace Go.Proofs.Ytpcabeefahldlaa.P
open Go.Shelf Go.RowKit Go.Proofs.YtpcabeefahldlaaW.PrintWords Go.Proofs.YtpcabeefahldlaaW.PrintLast Go.Proofs.YtpcabeefahldlaaW.PrintMore
attribute [local go_sem] max2_int min2_int max_two min_two max_three min_three max_four min_four   -- for this text's walks alone
set_option linter.unusedVariables false
set_option linter.unusedSimpArgs false

/-! ### route_Reach: function 20 -/
def route_Reach.l0 : Nat → List (S38) → List (S38) → List (S45) → Option ((List (S38)))
 | 0, _, _, _ => none
 | k + 1, x9, x11, x136000 => if (x11.length : Int) > 0 then (if x9.length + x11.length < 2199023255552 then ((route_ReachNext.f k x11 x136000).bind fun t144 => (route_Reach.l0 k (x9 ++ x11) t144 x136000)) else (none)) else (some x9)
def route_Reach.f (k : Nat) (l0 : List (S45)) (a1 : Int) (a2 : Int) (a3_0 : Bool) (a3_1 : Int) (a3_2 : Bool) (a3_3 : Int) (l3_4 : List Int) : Option ((List (S38))) := (route_Loopless.f k l0 a1).bind fun t137 => (if t137 = true then ((route_Hops.f k l0 a2 a3_0 a3_1 a3_2 a3_3 l3_4).bind fun t138 => (route_Reach.l0 k ([] : List (S38)) t138 l0)) else (some ([] : List (S38))))
theorem route_Reach.mono_l : ∀ k, (∀ y0 y1 y2, LeO (route_Reach.l0 k y0 y1 y2) (route_Reach.l0 (k + 1) y0 y1 y2))
 | 0 => fun _ _ _ r h => by simp [route_Reach.l0] at h
 | k + 1 => by
  have ih0 := route_Reach.mono_l k
  ·intro y0 y1 y2
   unfold route_Reach.l0
   repeat' first
   | (with_reducible exact ih0 _ _ _)
   | (with_reducible exact route_Hops.mono _ _ _ _ _ _ _ _)
   | (with_reducible exact route_Loopless.mono _ _ _)
   | (with_reducible exact route_ReachNext.mono _ _ _)
   | (with_reducible exact LeO.refl _)
   | (with_reducible exact LeO.none _)
   | (with_reducible refine LeO.ite ?_ ?_)
   | (with_reducible refine LeO.bind ?_ (fun _ => ?_))
   | exact ih0 _ _ _
   | exact route_Hops.mono _ _ _ _ _ _ _ _
   | exact route_Loopless.mono _ _ _
   | exact route_ReachNext.mono _ _ _
   | exact LeO.none _
   | refine LeO.ite ?_ ?_
   | refine LeO.bind ?_ (fun _ => ?_)
theorem route_Reach.mono : ∀ a0 a1 a2 a3 a4 a5 a6 a7 k, LeO (route_Reach.f k a0 a1 a2 a3 a4 a5 a6 a7) (route_Reach.f (k + 1) a0 a1 a2 a3 a4 a5 a6 a7) := by
 intro a0 a1 a2 a3 a4 a5 a6 a7 k
 have ih0 := route_Reach.mono_l k
 unfold route_Reach.f
 repeat' first
   | (with_reducible exact ih0 _ _ _)
   | (with_reducible exact route_Hops.mono _ _ _ _ _ _ _ _)
   | (with_reducible exact route_Loopless.mono _ _ _)
   | (with_reducible exact route_ReachNext.mono _ _ _)
   | (with_reducible exact LeO.refl _)
   | (with_reducible exact LeO.none _)
   | (with_reducible refine LeO.ite ?_ ?_)
   | (with_reducible refine LeO.bind ?_ (fun _ => ?_))
   | exact ih0 _ _ _
   | exact route_Hops.mono _ _ _ _ _ _ _ _
   | exact route_Loopless.mono _ _ _
   | exact route_ReachNext.mono _ _ _
   | exact LeO.none _
   | refine LeO.ite ?_ ?_
   | refine LeO.bind ?_ (fun _ => ?_)
set_option maxHeartbeats 8000000 in
set_option maxRecDepth 100000 in
theorem route_Reach.calls (k : Nat) (A0 : Option Addr) (c0 : Nat) (l0 : List (S45)) (a1 : Int) (a2 : Int) (a3_0 : Bool) (a3_1 : Int) (a3_2 : Bool) (a3_3 : Int) (P3_4_ : Nat → Prop) (A3_4 : Option Addr) (c3_4 : Nat) (l3_4 : List Int) (r : List (S38)) (w : World) (hr0 : Kd.C k45 w A0 l0.length l0) (hc0 : l0.length ≤ c0) (hs3_4 : Kd.V (Kd.int .u8) 5 w w.heap.size (fun k_ => P3_4_ k_) (.slice A3_4 l3_4.length c3_4) l3_4) (h : route_Reach.f k l0 a1 a2 a3_0 a3_1 a3_2 a3_3 l3_4 = some r) :
  Calls Try.prog 20 #[.slice A0 l0.length c0, .int .i64 a1, .int .i64 a2, .agg #[.bool a3_0, .int .i64 a3_1, .bool a3_2, .int .i64 a3_3, .slice A3_4 l3_4.length c3_4]] w fun e w' => ∃ v0_ : Value, e = .returned (v0_) ∧ Kd.N k38 38 w' w.heap.size (fun k_ => (P3_4_ k_ ∨ w.heap.size ≤ k_)) v0_ r ∧ Below w.heap.size w w' := by
 have hu25 := Try.underlying25
 have HR0 := aM hr0
 have HC0 := aM hc0
 clear hr0 hc0
 have HO3_4 := aM (show Kd.V (Kd.int .u8) 5 w w.heap.size (fun k_ => (P3_4_ k_ ∨ w.heap.size ≤ k_)) (.slice A3_4 l3_4.length c3_4) l3_4 from Kd.V_mono hs3_4 (fun k_ hk => .inl hk))
 have HB := aM (Below.refl w.heap.size w)
 have H : ((route_Loopless.f k l0 a1).bind fun t137 => (if t137 = true then ((route_Hops.f k l0 a2 a3_0 a3_1 a3_2 a3_3 l3_4).bind fun t138 => (route_Reach.l0 k ([] : List (S38)) t138 l0)) else (some ([] : List (S38))))) = some r := h
 clear h
 replace H := Option.bind_eq_some_iff.mp H
 obtain ⟨t137, A50, H⟩ := H
 replace H : (if t137 = true then ((route_Hops.f k l0 a2 a3_0 a3_1 a3_2 a3_3 l3_4).bind fun t138 => (route_Reach.l0 k ([] : List (S38)) t138 l0)) else (some ([] : List (S38)))) = some r := H
 have A5 := aM A50
 clear A50
 by_cases c6 : t137 = true
 ·subst c6
  have H1 : ((route_Hops.f k l0 a2 a3_0 a3_1 a3_2 a3_3 l3_4).bind fun t138 => (route_Reach.l0 k ([] : List (S38)) t138 l0)) = some r := by rw [if_pos rfl] at H; exact H
  clear H
  have H := H1
  clear H1
  replace H := Option.bind_eq_some_iff.mp H
  obtain ⟨t138, A70, H⟩ := H
  replace H : (route_Reach.l0 k ([] : List (S38)) t138 l0) = some r := H
  have A7 := aM A70
  clear A70
  have H' := aM H
  clear H
  go_enter Try.func20, Try.ntmps20
  go_wp2_with (first | ((with_reducible refine gate_dst (N := 4) rfl ?_); refine box_event ?hg (N := 4) ?hd (cs := #[.slice A0 l0.length c0]) (t := 22) ?hr ?_; (case hd => rfl); (case hg => rfl); (case hr => first | (go_simp; done) | (go_simp; rfl)); intro gb135 hg w8 hbox hb; have n0_ := aM (Kd.V_below (Kd.V_elderB (by (with_reducible repeat (first | apply Kd.V_alloc | apply Kd.V_drewN | apply Kd.V_drew)); exact HO3_4.out) gb135 (Nat.le_of_eq hg.symm)) hb); have n1_ := aM (lT (by repeat (first | (with_reducible first | exact HB.out | apply lA | apply lN | apply lW) | exact HB.out)) hb); have n2_ := aM (hbox); have n3_ := aM ((by rw [hg]; exact (lZ (by repeat (first | (with_reducible first | exact HB.out | apply lA | apply lN | apply lW) | exact HB.out))) : w.heap.size ≤ gb135)); have n4_ := aM ((by rw [hg]; exact (lZ (by repeat (first | (with_reducible first | exact HB.out | apply lA | apply lN | apply lW) | exact HB.out))) : w.heap.size ≤ gb135)); clear HO3_4; clear HB; have HO3_4 := n0_; have HB := n1_; have BK135 := n2_; have GW135 := n3_; have GE135 := n4_; clear n0_ n1_ n2_ n3_ n4_; clear hb hbox hg) | ((with_reducible refine gate_dst (N := 7) rfl ?_); refine box_event ?hg (N := 7) ?hd (cs := #[.bool a3_0, .int .i64 a3_1, .bool a3_2, .int .i64 a3_3, .slice A3_4 l3_4.length c3_4]) (t := 25) ?hr ?_; (case hd => rfl); (case hg => rfl); (case hr => first | (go_simp; done) | (go_simp; rfl)); intro gb136 hg w9 hbox hb; have n0_ := aM (Kd.V_below (Kd.V_elderB (by (with_reducible repeat (first | apply Kd.V_alloc | apply Kd.V_drewN | apply Kd.V_drew)); exact HO3_4.out) gb136 (Nat.le_of_eq hg.symm)) hb); have n1_ := aM (blk_below (g := gb135) (o := .cells #[.slice A0 l0.length c0] 22 (0, 0)) (by (with_reducible repeat (first | refine bN ?_ _ | refine bW ?_ | refine bA ?_ _)); exact BK135.out) hb); have n2_ := aM (lT (by repeat (first | (with_reducible first | exact HB.out | apply lA | apply lN | apply lW | refine lS ?_ GE135.out) | exact HB.out)) hb); have n3_ := aM (hbox); have n4_ := aM ((by rw [hg]; exact (lZ (by repeat (first | (with_reducible first | exact HB.out | apply lA | apply lN | apply lW | refine lS ?_ GE135.out) | exact HB.out))) : w.heap.size ≤ gb136)); have n5_ := aM ((by rw [hg]; exact (lZ (by repeat (first | (with_reducible first | exact HB.out | apply lA | apply lN | apply lW | refine lS ?_ GE135.out) | exact HB.out))) : w.heap.size ≤ gb136)); have n6_ := aM ((by rw [hg]; exact Nat.ne_of_lt (blk_lt (g := gb135) (o := .cells #[.slice A0 l0.length c0] 22 (0, 0)) (by (with_reducible repeat (first | refine bN ?_ _ | refine bW ?_ | refine bA ?_ _)); exact BK135.out)) : gb135 ≠ gb136)); have n7_ := aM ((by rw [hg]; exact Nat.ne_of_gt (blk_lt (g := gb135) (o := .cells #[.slice A0 l0.length c0] 22 (0, 0)) (by (with_reducible repeat (first | refine bN ?_ _ | refine bW ?_ | refine bA ?_ _)); exact BK135.out)) : gb136 ≠ gb135)); clear HO3_4; clear BK135; clear HB; have HO3_4 := n0_; have BK135 := n1_; have HB := n2_; have BK136 := n3_; have GW136 := n4_; have GE136 := n5_; have NB135_136 := n6_; have NB136_135 := n7_; clear n0_ n1_ n2_ n3_ n4_ n5_ n6_ n7_; clear hb hbox hg; have hnb10 := NB135_136.out; have hnc10 := NB136_135.out; have hcz11_0 : w9.cell? ⟨gb135, 0, none⟩ = some (.slice A0 l0.length c0) := (bC BK135.out 0).trans rfl; have hfz11_0 := bF BK135.out 0) | ((with_reducible refine gate_callee (f := 14) rfl ?_); refine goesL_ (some 14) rfl rfl Try.func14 (by kernel_rfl) rfl #[.slice A0 l0.length c0, .int .i64 a1] rfl (by (try simp only [List.map_toArray, List.map_cons, List.map_nil]); first | done | rfl | (simp only [List.length_drop, List.length_take]; rfl)) ?_; (with_reducible refine (route_Loopless.calls k _ _ l0 a1 true _ ?side1 ?side2 A5.out).mono ?_); (case side1 => repeat (first | exact (Kd.C_below HR0.out HB.out) | (with_reducible refine Kd.C_alloc ?_ _) | (with_reducible refine Kd.C_drewN ?_ _) | (with_reducible refine Kd.C_drew ?_))); (case side2 => exact HC0.out); rintro e w12 ⟨rfl, hb⟩; refine ⟨_, rfl, ?_⟩; have n0_ := aM (Kd.V_below (by (with_reducible repeat (first | apply Kd.V_alloc | apply Kd.V_drewN | apply Kd.V_drew)); exact HO3_4.out) hb); have n1_ := aM (blk_below (g := gb135) (o := .cells #[.slice A0 l0.length c0] 22 (0, 0)) (by (with_reducible repeat (first | refine bN ?_ _ | refine bW ?_ | refine bA ?_ _)); exact BK135.out) hb); have n2_ := aM (blk_below (g := gb136) (o := .cells #[.bool a3_0, .int .i64 a3_1, .bool a3_2, .int .i64 a3_3, .slice A3_4 l3_4.length c3_4] 25 (0, 0)) (by (with_reducible repeat (first | refine bN ?_ _ | refine bW ?_ | refine bA ?_ _)); exact BK136.out) hb); have n3_ := aM (lT (by repeat (first | (with_reducible first | exact HB.out | apply lA | apply lN | apply lW | refine lS ?_ GE135.out | refine lS ?_ GE136.out) | exact HB.out)) hb); clear HO3_4; clear BK135; clear BK136; clear HB; have HO3_4 := n0_; have BK135 := n1_; have BK136 := n2_; have HB := n3_; clear n0_ n1_ n2_ n3_; (try clear hb); (try clear hb2); (try clear hk); (try clear hi); have hcz13_0 : w12.cell? ⟨gb135, 0, none⟩ = some (.slice A0 l0.length c0) := (bC BK135.out 0).trans rfl; have hfz13_0 := bF BK135.out 0; have hcz14_0 : w12.cell? ⟨gb136, 0, none⟩ = some (.bool a3_0) := (bC BK136.out 0).trans rfl; have hcz14_1 : w12.cell? ⟨gb136, 1, none⟩ = some (.int .i64 a3_1) := (bC BK136.out 1).trans rfl; have hcz14_2 : w12.cell? ⟨gb136, 2, none⟩ = some (.bool a3_2) := (bC BK136.out 2).trans rfl; have hcz14_3 : w12.cell? ⟨gb136, 3, none⟩ = some (.int .i64 a3_3) := (bC BK136.out 3).trans rfl; have hcz14_4 : w12.cell? ⟨gb136, 4, none⟩ = some (.slice A3_4 l3_4.length c3_4) := (bC BK136.out 4).trans rfl; have hfz14_0 := bF BK136.out 0; have hfz14_1 := bF BK136.out 1; have hfz14_2 := bF BK136.out 2; have hfz14_3 := bF BK136.out 3; have hfz14_4 := bF BK136.out 4) | ((with_reducible refine gate_callee (f := 18) rfl ?_); refine goesL_ (some 20) rfl rfl Try.func18 (by kernel_rfl) rfl #[.slice A0 l0.length c0, .int .i64 a2, .agg #[.bool a3_0, .int .i64 a3_1, .bool a3_2, .int .i64 a3_3, .slice A3_4 l3_4.length c3_4]] rfl (by (try simp only [List.map_toArray, List.map_cons, List.map_nil]); first | done | rfl | (simp only [List.length_drop, List.length_take]; rfl)) ?_; (with_reducible refine (route_Hops.calls k _ _ l0 a2 a3_0 a3_1 a3_2 a3_3 (fun k_ => (((P3_4_ k_ ∨ w.heap.size ≤ k_) ∧ k_ ≠ gb135) ∧ k_ ≠ gb136)) _ _ l3_4 t138 _ ?side1 ?side2 ?side3 A7.out).mono ?_); (case side1 => repeat (first | exact (Kd.C_below HR0.out HB.out) | (with_reducible refine Kd.C_alloc ?_ _) | (with_reducible refine Kd.C_drewN ?_ _) | (with_reducible refine Kd.C_drew ?_))); (case side2 => exact HC0.out); (case side3 => exact HO3_4.out); rintro e w15 ⟨v139, rfl, ho0, hb⟩; refine ⟨_, rfl, ?_⟩; have n0_ := aM (Kd.V_elder' (by (with_reducible repeat (first | apply Kd.V_alloc | apply Kd.V_drewN | apply Kd.V_drew)); exact HO3_4.out) (Kd.N_base ho0) hb); have n1_ := aM (Kd.N_lower (Kd.N_mono (ok' := fun k_ => (P3_4_ k_ ∨ w.heap.size ≤ k_) ∧ k_ ≠ gb135 ∧ k_ ≠ gb136) ho0 (fun k_ hk_ => ⟨Or.elim hk_ (fun hs_ => hs_.1.1) (fun hn_ => (.inr (Nat.le_trans (lZ (by repeat (first | (with_reducible first | exact HB.out | apply lA | apply lN | apply lW | refine lS ?_ GE135.out | refine lS ?_ GE136.out) | exact HB.out))) hn_))), Or.elim hk_ (fun hs_ => hs_.1.2) (fun hn_ => (Kd.freshB (g := gb135) (o := .cells #[.slice A0 l0.length c0] 22 (0, 0)) (by (with_reducible repeat (first | refine bN ?_ _ | refine bW ?_ | refine bA ?_ _)); exact BK135.out) k_ hn_)), Or.elim hk_ (fun hs_ => hs_.2) (fun hn_ => (Kd.freshB (g := gb136) (o := .cells #[.bool a3_0, .int .i64 a3_1, .bool a3_2, .int .i64 a3_3, .slice A3_4 l3_4.length c3_4] 25 (0, 0)) (by (with_reducible repeat (first | refine bN ?_ _ | refine bW ?_ | refine bA ?_ _)); exact BK136.out) k_ hn_))⟩)) (lZ (by repeat (first | (with_reducible first | exact HB.out | apply lA | apply lN | apply lW | refine lS ?_ GE135.out | refine lS ?_ GE136.out) | exact HB.out)))); have n2_ := aM (blk_below (g := gb135) (o := .cells #[.slice A0 l0.length c0] 22 (0, 0)) (by (with_reducible repeat (first | refine bN ?_ _ | refine bW ?_ | refine bA ?_ _)); exact BK135.out) hb); have n3_ := aM (blk_below (g := gb136) (o := .cells #[.bool a3_0, .int .i64 a3_1, .bool a3_2, .int .i64 a3_3, .slice A3_4 l3_4.length c3_4] 25 (0, 0)) (by (with_reducible repeat (first | refine bN ?_ _ | refine bW ?_ | refine bA ?_ _)); exact BK136.out) hb); have n4_ := aM (lT (by repeat (first | (with_reducible first | exact HB.out | apply lA | apply lN | apply lW | refine lS ?_ GE135.out | refine lS ?_ GE136.out) | exact HB.out)) hb); clear HO3_4; clear BK135; clear BK136; clear HB; have HO3_4 := n0_; have HO140 := n1_; have BK135 := n2_; have BK136 := n3_; have HB := n4_; clear n0_ n1_ n2_ n3_ n4_; (try clear hb); (try clear hb2); (try clear hk); (try clear hi); (try clear ho0)))
  go_loopg [9, 11] k (fun kq v9 v11 w' => ∃ (x9_1 : List (S38)) (x11_1 : List (S38)), Aside0 (route_Reach.l0 kq x9_1 x11_1 l0 = some r) ∧ Aside0 (kq ≤ k) ∧ Aside0 (Kd.N k38 38 w' w.heap.size (fun k_ => (P3_4_ k_ ∨ w.heap.size ≤ k_) ∧ some k_ ≠ (v11 : Value).ownBlock ∧ k_ ≠ gb135 ∧ k_ ≠ gb136) v9 x9_1) ∧ Aside0 (Kd.N k38 38 w' w.heap.size (fun k_ => (P3_4_ k_ ∨ w.heap.size ≤ k_) ∧ some k_ ≠ (v9 : Value).ownBlock ∧ k_ ≠ gb135 ∧ k_ ≠ gb136) v11 x11_1) ∧ Aside0 (Kd.V (Kd.int .u8) 5 w' w.heap.size (fun k_ => (P3_4_ k_ ∨ w.heap.size ≤ k_) ∧ some k_ ≠ (v9 : Value).ownBlock ∧ some k_ ≠ (v11 : Value).ownBlock ∧ k_ ≠ gb135 ∧ k_ ≠ gb136) (.slice A3_4 l3_4.length c3_4) l3_4) ∧ Aside0 (w'.heap[gb135]? = some (.cells #[(.slice A0 l0.length c0)] 22 (0, 0))) ∧ Aside0 (w'.heap[gb136]? = some (.cells #[.bool a3_0, .int .i64 a3_1, .bool a3_2, .int .i64 a3_3, (.slice A3_4 l3_4.length c3_4)] 25 (0, 0))) ∧ Aside0 (Below w.heap.size w w'))
  case atStart => exact ⟨(([] : List (S38))), (t138), H', ⟨Nat.le_refl _⟩, ⟨by first | exact Kd.S_nil _ _ _ _ _ | exact Kd.N_nil _ _ _ _ _ | exact Kd.V_nil _ _ _ _ _ | exact Kd.Q_nil _ _ _ _ _ | exact Kd.R_nil _ _ _ _ _⟩, ⟨by (with_reducible repeat (first | apply Kd.N_alloc | apply Kd.N_drewN | apply Kd.N_drew)); exact Kd.N_mono HO140.out (fun _ hk => ⟨hk.1, ⟨(by simp [Value.ownBlock]), ⟨hk.2.1, hk.2.2⟩⟩⟩)⟩, ⟨by (with_reducible repeat (first | apply Kd.V_alloc | apply Kd.V_drewN | apply Kd.V_drew)); exact Kd.V_mono HO3_4.out (fun _ hk => ⟨hk.1.1.1, ⟨(by simp [Value.ownBlock]), ⟨hk.2, ⟨hk.1.1.2, hk.1.2⟩⟩⟩⟩)⟩, ⟨by (with_reducible repeat (first | refine bN ?_ _ | refine bW ?_ | refine bA ?_ _)); exact BK135.out⟩, ⟨by (with_reducible repeat (first | refine bN ?_ _ | refine bW ?_ | refine bA ?_ _)); exact BK136.out⟩, ⟨by repeat (first | (with_reducible first | exact HB.out | apply lA | apply lN | apply lW | refine lS ?_ GE135.out | refine lS ?_ GE136.out) | exact HB.out)⟩⟩
  case round =>
   clear H'
   try clear c1
   try clear c2
   try clear p2
   try clear c3
   try clear c6
   try clear c10
   try clear c14
   try clear hcz11_0
   try clear hcz13_0
   try clear hcz14_0
   try clear hcz14_1
   try clear hcz14_2
   try clear hcz14_3
   try clear hcz14_4
   try clear hfz11_0
   try clear hfz13_0
   try clear hfz14_0
   try clear hfz14_1
   try clear hfz14_2
   try clear hfz14_3
   try clear hfz14_4
   obtain ⟨x9_1, x11_1, HA, HK1, HO_9, HO_11, HO_137004, BK135, BK136, HB⟩ := hrel
   cases gk with
   | zero => exact absurd HA.out (by simp [route_Reach.l0])
   | succ k1 =>
    have H := HA.out
    clear HA
    simp only [route_Reach.l0] at H
    by_cases c16 : (x11_1.length : Int) > 0
    ·rw [if_pos c16] at H
     have c16b0 : decide (0 < (x11_1.length : Int)) = true := decide_eq_true c16
     have c16b1 : decide (0 < x11_1.length) = true := decide_eq_true (by omega)
     clear c16
     by_cases c17 : x9_1.length + x11_1.length < 2199023255552
     ·rw [if_pos c17] at H
      have LMc17 := aM c17
      clear c17
      obtain ⟨y141, hy141⟩ : ∃ y_ : List (S38), y_ = (x9_1 ++ x11_1) := ⟨_, rfl⟩
      replace H : ((route_ReachNext.f k1 x11_1 l0).bind fun t144 => (route_Reach.l0 k1 y141 t144 l0)) = some r := by first | (rw [hy141]; with_reducible exact H) | (have H2_ := (Option.bind_some _ _).symm.trans H; rw [hy141]; with_reducible exact H2_) | (have H2_ := (Option.bind_some _ _).symm.trans H; with_reducible exact H2_) | with_reducible exact H | (rw [hy141]; exact H) | exact H
      have Ny141 := aM hy141
      clear hy141
      replace H := Option.bind_eq_some_iff.mp H
      obtain ⟨t144, A180, H⟩ := H
      replace H : (route_Reach.l0 k1 y141 t144 l0) = some r := H
      have A18 := aM A180
      clear A180
      have H' := aM H
      clear H
      obtain ⟨Ao19, co19, eo19⟩ := Kd.N_slice HO_11.out
      subst eo19
      go_wp2_with (first | ((with_reducible refine gate_builtin (b := .append) (xs := #[.tmp 27, .tmp 28]) rfl ?_); at_builtin; refine Kd.N_append_rows k38 (w0 := w) w.heap.size rfl (.tmp 27) (.tmp 28) 33 38 (.agg #[(.int .i64 0), (.bool false), (.int .i64 0), (.bool false), (.int .i64 0), (.slice none 0 0)]) 64 rfl Try.underlying33 info38 rfl (by decide) (by omega) u9 x9_1 x11_1 _ _ _ (fun k_ => (P3_4_ k_ ∨ w.heap.size ≤ k_) ∧ k_ ≠ gb135 ∧ k_ ≠ gb136) (fun k_ => ((fun k_ => (P3_4_ k_ ∨ w.heap.size ≤ k_) ∧ k_ ≠ gb135 ∧ k_ ≠ gb136)) k_ ∧ some k_ ≠ (u9 : Value).ownBlock) rfl rfl ?aO ?aR (fun _ hk => hk) ?aF ?aB ?aS ?aL ?_; (case aR => exact (by skip; exact Kd.N_F (Kd.N_mono (ok' := (fun k_ => ((fun k_ => (P3_4_ k_ ∨ w.heap.size ≤ k_) ∧ k_ ≠ gb135 ∧ k_ ≠ gb136)) k_ ∧ some k_ ≠ (u9 : Value).ownBlock)) (HO_11.out) (fun k_ hk => ⟨⟨hk.1, ⟨hk.2.2.1, hk.2.2.2⟩⟩, hk.2.1⟩)))); (case aB => exact (by repeat (first | (with_reducible first | exact HB.out | apply lA | apply lN | apply lW | refine lS ?_ GE135.out | refine lS ?_ GE136.out) | exact HB.out))); (case aF => exact (fun k_ hk => ⟨(.inr (Nat.le_trans (lZ (by repeat (first | (with_reducible first | exact HB.out | apply lA | apply lN | apply lW | refine lS ?_ GE135.out | refine lS ?_ GE136.out) | exact HB.out))) hk)), Kd.freshB (g := gb135) (o := .cells #[.slice A0 l0.length c0] 22 (0, 0)) (by (with_reducible repeat (first | refine bN ?_ _ | refine bW ?_ | refine bA ?_ _)); exact BK135.out) k_ hk, Kd.freshB (g := gb136) (o := .cells #[.bool a3_0, .int .i64 a3_1, .bool a3_2, .int .i64 a3_3, .slice A3_4 l3_4.length c3_4] 25 (0, 0)) (by (with_reducible repeat (first | refine bN ?_ _ | refine bW ?_ | refine bA ?_ _)); exact BK136.out) k_ hk⟩)); (case aO => exact (by (with_reducible repeat (first | apply Kd.N_alloc | apply Kd.N_drewN | apply Kd.N_drew)); exact Kd.N_mono HO_9.out (fun _ hk => ⟨hk.1, ⟨hk.2.2.1, hk.2.2.2⟩⟩))); (case aS => exact (lZ (by repeat (first | (with_reducible first | exact HB.out | apply lA | apply lN | apply lW | refine lS ?_ GE135.out | refine lS ?_ GE136.out) | exact HB.out)))); (case aL => have := LMc17.out; omega); intro v142 w20 ho hb hg hat; rw [← Ny141.out] at ho; have n0_ := aM (Kd.N_afterv (ok := (fun k_ => (P3_4_ k_ ∨ w.heap.size ≤ k_) ∧ k_ ≠ gb135 ∧ k_ ≠ gb136)) (by (with_reducible repeat (first | apply Kd.N_alloc | apply Kd.N_drewN | apply Kd.N_drew)); exact Kd.N_mono HO_11.out (fun _ hk => ⟨⟨hk.1, ⟨hk.2.2.1, hk.2.2.2⟩⟩, hk.2.1⟩)) hg hat); have n1_ := aM (Kd.V_afterv (ok := (fun k_ => (P3_4_ k_ ∨ w.heap.size ≤ k_) ∧ some k_ ≠ (.slice Ao19 x11_1.length co19 : Value).ownBlock ∧ k_ ≠ gb135 ∧ k_ ≠ gb136)) (by (with_reducible repeat (first | apply Kd.V_alloc | apply Kd.V_drewN | apply Kd.V_drew)); exact Kd.V_mono HO_137004.out (fun _ hk => ⟨⟨hk.1, ⟨hk.2.2.1, ⟨hk.2.2.2.1, hk.2.2.2.2⟩⟩⟩, hk.2.1⟩)) hg hat); have n2_ := aM (blk_grown (g := gb135) (o := .cells #[.slice A0 l0.length c0] 22 (0, 0)) (by (with_reducible repeat (first | refine bN ?_ _ | refine bW ?_ | refine bA ?_ _)); exact BK135.out) hg (Kd.N_ne HO_9.out BK135.out (by decide))); have n3_ := aM (blk_grown (g := gb136) (o := .cells #[.bool a3_0, .int .i64 a3_1, .bool a3_2, .int .i64 a3_3, .slice A3_4 l3_4.length c3_4] 25 (0, 0)) (by (with_reducible repeat (first | refine bN ?_ _ | refine bW ?_ | refine bA ?_ _)); exact BK136.out) hg (Kd.N_ne HO_9.out BK136.out (by decide))); have n4_ := aM (hb); have n5_ := aM (ho); clear HO_11; clear HO_137004; clear BK135; clear BK136; clear HB; clear HO_9; have HO_11 := n0_; have HO_137004 := n1_; have BK135 := n2_; have BK136 := n3_; have HB := n4_; have HO143 := n5_; clear n0_ n1_ n2_ n3_ n4_ n5_; clear ho hb hg hat; have hnb21 := NB135_136.out; have hnc21 := NB136_135.out; have hcz22_0 : w20.cell? ⟨gb135, 0, none⟩ = some (.slice A0 l0.length c0) := (bC BK135.out 0).trans rfl; have hfz22_0 := bF BK135.out 0) | (go_at_fn 31; fail))
      (with_reducible refine (route_ReachNext.calls k1 (fun k_ => (((P3_4_ k_ ∨ w.heap.size ≤ k_) ∧ (k_ ≠ gb135 ∧ k_ ≠ gb136)) ∧ some k_ ≠ (v142 : Value).ownBlock)) _ _ x11_1 A0 c0 l0 t144 _ ?side1 ?side2 ?side3 A18.out gb135 ?side4 ?side5).mono ?_)
      (case side1 => exact Kd.N_V (HO_11.out))
      (case side2 => repeat (first | exact (Kd.C_below HR0.out HB.out) | (with_reducible refine Kd.C_alloc ?_ _) | (with_reducible refine Kd.C_drewN ?_ _) | (with_reducible refine Kd.C_drew ?_)))
      (case side3 => exact HC0.out)
      (case side4 => exact blk_lt (by (with_reducible repeat (first | refine bN ?_ _ | refine bW ?_ | refine bA ?_ _)); exact BK135.out))
      (case side5 => exact (bC (by (with_reducible repeat (first | refine bN ?_ _ | refine bW ?_ | refine bA ?_ _)); exact BK135.out) 0).trans rfl)
      rintro e w23 ⟨v145, rfl, ho0, hb⟩
      have n0_ := aM (Kd.N_elder' (by (with_reducible repeat (first | apply Kd.N_alloc | apply Kd.N_drewN | apply Kd.N_drew)); exact HO_11.out) (Kd.N_base ho0) hb)
      have n1_ := aM (Kd.V_elder' (by (with_reducible repeat (first | apply Kd.V_alloc | apply Kd.V_drewN | apply Kd.V_drew)); exact HO_137004.out) (Kd.N_base ho0) hb)
      have n2_ := aM (Kd.N_elder' (by (with_reducible repeat (first | apply Kd.N_alloc | apply Kd.N_drewN | apply Kd.N_drew)); exact HO143.out) (Kd.N_base ho0) hb)
      have n3_ := aM (Kd.N_lower (Kd.N_mono (ok' := fun k_ => (P3_4_ k_ ∨ w.heap.size ≤ k_) ∧ some k_ ≠ (v142 : Value).ownBlock ∧ k_ ≠ gb135 ∧ k_ ≠ gb136) ho0 (fun k_ hk_ => ⟨Or.elim hk_ (fun hs_ => hs_.1.1) (fun hn_ => (.inr (Nat.le_trans (lZ (by repeat (first | (with_reducible first | exact HB.out | apply lA | apply lN | apply lW | refine lS ?_ GE135.out | refine lS ?_ GE136.out) | exact HB.out))) hn_))), Or.elim hk_ (fun hs_ => hs_.2) (fun hn_ => (Kd.fresh' (Kd.N_lt (by (with_reducible repeat (first | apply Kd.N_alloc | apply Kd.N_drewN | apply Kd.N_drew)); exact HO143.out)) k_ hn_)), Or.elim hk_ (fun hs_ => hs_.1.2.1) (fun hn_ => (Kd.freshB (g := gb135) (o := .cells #[.slice A0 l0.length c0] 22 (0, 0)) (by (with_reducible repeat (first | refine bN ?_ _ | refine bW ?_ | refine bA ?_ _)); exact BK135.out) k_ hn_)), Or.elim hk_ (fun hs_ => hs_.1.2.2) (fun hn_ => (Kd.freshB (g := gb136) (o := .cells #[.bool a3_0, .int .i64 a3_1, .bool a3_2, .int .i64 a3_3, .slice A3_4 l3_4.length c3_4] 25 (0, 0)) (by (with_reducible repeat (first | refine bN ?_ _ | refine bW ?_ | refine bA ?_ _)); exact BK136.out) k_ hn_))⟩)) (lZ (by repeat (first | (with_reducible first | exact HB.out | apply lA | apply lN | apply lW | refine lS ?_ GE135.out | refine lS ?_ GE136.out) | exact HB.out))))
      have n4_ := aM (blk_below (g := gb135) (o := .cells #[.slice A0 l0.length c0] 22 (0, 0)) (by (with_reducible repeat (first | refine bN ?_ _ | refine bW ?_ | refine bA ?_ _)); exact BK135.out) hb)
      have n5_ := aM (blk_below (g := gb136) (o := .cells #[.bool a3_0, .int .i64 a3_1, .bool a3_2, .int .i64 a3_3, .slice A3_4 l3_4.length c3_4] 25 (0, 0)) (by (with_reducible repeat (first | refine bN ?_ _ | refine bW ?_ | refine bA ?_ _)); exact BK136.out) hb)
      have n6_ := aM (lT (by repeat (first | (with_reducible first | exact HB.out | apply lA | apply lN | apply lW | refine lS ?_ GE135.out | refine lS ?_ GE136.out) | exact HB.out)) hb)
      clear HO_11
      clear HO_137004
      clear HO143
      clear BK135
      clear BK136
      clear HB
      have HO_11 := n0_
      have HO_137004 := n1_
      have HO143 := n2_
      have HO146 := n3_
      have BK135 := n4_
      have BK136 := n5_
      have HB := n6_
      clear n0_ n1_ n2_ n3_ n4_ n5_ n6_
      (try clear hb)
      (try clear hb2)
      (try clear hk)
      (try clear hi)
      (try clear ho0)
      go_wp2
      go_roundg k1
      case measure => have := HK1.out; omega
      case rel => exact ⟨(y141), (t144), H', ⟨by have := HK1.out; omega⟩, ⟨by (with_reducible repeat (first | apply Kd.N_alloc | apply Kd.N_drewN | apply Kd.N_drew)); exact Kd.N_mono HO143.out (fun _ hk => ⟨hk.1.1, ⟨hk.2, ⟨hk.1.2.1, hk.1.2.2⟩⟩⟩)⟩, ⟨by (with_reducible repeat (first | apply Kd.N_alloc | apply Kd.N_drewN | apply Kd.N_drew)); exact HO146.out⟩, ⟨by (with_reducible repeat (first | apply Kd.V_alloc | apply Kd.V_drewN | apply Kd.V_drew)); exact Kd.V_mono HO_137004.out (fun _ hk => ⟨hk.1.1.1, ⟨hk.1.2, ⟨hk.2, ⟨hk.1.1.2.2.1, hk.1.1.2.2.2⟩⟩⟩⟩)⟩, ⟨by (with_reducible repeat (first | refine bN ?_ _ | refine bW ?_ | refine bA ?_ _)); exact BK135.out⟩, ⟨by (with_reducible repeat (first | refine bN ?_ _ | refine bW ?_ | refine bA ?_ _)); exact BK136.out⟩, ⟨by repeat (first | (with_reducible first | exact HB.out | apply lA | apply lN | apply lW | refine lS ?_ GE135.out | refine lS ?_ GE136.out) | exact HB.out)⟩⟩
     ·rw [if_neg c17] at H
      exact absurd H (by simp)
    ·rw [if_neg c16] at H
     have c16b0 : decide (0 < (x11_1.length : Int)) = false := decide_eq_false c16
     have c16b1 : decide (0 < x11_1.length) = false := decide_eq_false (by omega)
     clear c16
     obtain rfl := Option.some.inj H
     obtain ⟨Ao24, co24, eo24⟩ := Kd.N_slice HO_11.out
     subst eo24
     go_wp2
     go_ret
     exact ⟨_, by first | rfl | (simp [errW_none, errW_some] <;> rfl) | (simp [*, errW_none, errW_some] <;> rfl), by (with_reducible repeat (first | apply Kd.N_alloc | apply Kd.N_drewN | apply Kd.N_drew)); exact Kd.N_mono HO_9.out (fun _ hk => hk.1), by repeat (first | (with_reducible first | exact HB.out | apply lA | apply lN | apply lW | refine lS ?_ GE135.out | refine lS ?_ GE136.out) | exact HB.out)⟩
 ·replace c6 := Bool.eq_false_iff.mpr c6
  subst c6
  have H1 : (some ([] : List (S38))) = some r := by rw [if_neg (show ¬ (false = true) by decide)] at H; exact H
  clear H
  have H := H1
  clear H1
  obtain rfl := Option.some.inj H
  go_enter Try.func20, Try.ntmps20
  go_wp2_with (first | ((with_reducible refine gate_dst (N := 4) rfl ?_); refine box_event ?hg (N := 4) ?hd (cs := #[.slice A0 l0.length c0]) (t := 22) ?hr ?_; (case hd => rfl); (case hg => rfl); (case hr => first | (go_simp; done) | (go_simp; rfl)); intro gb135 hg w25 hbox hb; have n0_ := aM (Kd.V_below (Kd.V_elderB (by (with_reducible repeat (first | apply Kd.V_alloc | apply Kd.V_drewN | apply Kd.V_drew)); exact HO3_4.out) gb135 (Nat.le_of_eq hg.symm)) hb); have n1_ := aM (lT (by repeat (first | (with_reducible first | exact HB.out | apply lA | apply lN | apply lW) | exact HB.out)) hb); have n2_ := aM (hbox); have n3_ := aM ((by rw [hg]; exact (lZ (by repeat (first | (with_reducible first | exact HB.out | apply lA | apply lN | apply lW) | exact HB.out))) : w.heap.size ≤ gb135)); have n4_ := aM ((by rw [hg]; exact (lZ (by repeat (first | (with_reducible first | exact HB.out | apply lA | apply lN | apply lW) | exact HB.out))) : w.heap.size ≤ gb135)); clear HO3_4; clear HB; have HO3_4 := n0_; have HB := n1_; have BK135 := n2_; have GW135 := n3_; have GE135 := n4_; clear n0_ n1_ n2_ n3_ n4_; clear hb hbox hg) | ((with_reducible refine gate_dst (N := 7) rfl ?_); refine box_event ?hg (N := 7) ?hd (cs := #[.bool a3_0, .int .i64 a3_1, .bool a3_2, .int .i64 a3_3, .slice A3_4 l3_4.length c3_4]) (t := 25) ?hr ?_; (case hd => rfl); (case hg => rfl); (case hr => first | (go_simp; done) | (go_simp; rfl)); intro gb136 hg w26 hbox hb; have n0_ := aM (Kd.V_below (Kd.V_elderB (by (with_reducible repeat (first | apply Kd.V_alloc | apply Kd.V_drewN | apply Kd.V_drew)); exact HO3_4.out) gb136 (Nat.le_of_eq hg.symm)) hb); have n1_ := aM (blk_below (g := gb135) (o := .cells #[.slice A0 l0.length c0] 22 (0, 0)) (by (with_reducible repeat (first | refine bN ?_ _ | refine bW ?_ | refine bA ?_ _)); exact BK135.out) hb); have n2_ := aM (lT (by repeat (first | (with_reducible first | exact HB.out | apply lA | apply lN | apply lW | refine lS ?_ GE135.out) | exact HB.out)) hb); have n3_ := aM (hbox); have n4_ := aM ((by rw [hg]; exact (lZ (by repeat (first | (with_reducible first | exact HB.out | apply lA | apply lN | apply lW | refine lS ?_ GE135.out) | exact HB.out))) : w.heap.size ≤ gb136)); have n5_ := aM ((by rw [hg]; exact (lZ (by repeat (first | (with_reducible first | exact HB.out | apply lA | apply lN | apply lW | refine lS ?_ GE135.out) | exact HB.out))) : w.heap.size ≤ gb136)); have n6_ := aM ((by rw [hg]; exact Nat.ne_of_lt (blk_lt (g := gb135) (o := .cells #[.slice A0 l0.length c0] 22 (0, 0)) (by (with_reducible repeat (first | refine bN ?_ _ | refine bW ?_ | refine bA ?_ _)); exact BK135.out)) : gb135 ≠ gb136)); have n7_ := aM ((by rw [hg]; exact Nat.ne_of_gt (blk_lt (g := gb135) (o := .cells #[.slice A0 l0.length c0] 22 (0, 0)) (by (with_reducible repeat (first | refine bN ?_ _ | refine bW ?_ | refine bA ?_ _)); exact BK135.out)) : gb136 ≠ gb135)); clear HO3_4; clear BK135; clear HB; have HO3_4 := n0_; have BK135 := n1_; have HB := n2_; have BK136 := n3_; have GW136 := n4_; have GE136 := n5_; have NB135_136 := n6_; have NB136_135 := n7_; clear n0_ n1_ n2_ n3_ n4_ n5_ n6_ n7_; clear hb hbox hg; have hnb27 := NB135_136.out; have hnc27 := NB136_135.out; have hcz28_0 : w26.cell? ⟨gb135, 0, none⟩ = some (.slice A0 l0.length c0) := (bC BK135.out 0).trans rfl; have hfz28_0 := bF BK135.out 0) | ((with_reducible refine gate_callee (f := 14) rfl ?_); refine goesL_ (some 14) rfl rfl Try.func14 (by kernel_rfl) rfl #[.slice A0 l0.length c0, .int .i64 a1] rfl (by (try simp only [List.map_toArray, List.map_cons, List.map_nil]); first | done | rfl | (simp only [List.length_drop, List.length_take]; rfl)) ?_; (with_reducible refine (route_Loopless.calls k _ _ l0 a1 false _ ?side1 ?side2 A5.out).mono ?_); (case side1 => repeat (first | exact (Kd.C_below HR0.out HB.out) | (with_reducible refine Kd.C_alloc ?_ _) | (with_reducible refine Kd.C_drewN ?_ _) | (with_reducible refine Kd.C_drew ?_))); (case side2 => exact HC0.out); rintro e w29 ⟨rfl, hb⟩; refine ⟨_, rfl, ?_⟩; have n0_ := aM (Kd.V_below (by (with_reducible repeat (first | apply Kd.V_alloc | apply Kd.V_drewN | apply Kd.V_drew)); exact HO3_4.out) hb); have n1_ := aM (blk_below (g := gb135) (o := .cells #[.slice A0 l0.length c0] 22 (0, 0)) (by (with_reducible repeat (first | refine bN ?_ _ | refine bW ?_ | refine bA ?_ _)); exact BK135.out) hb); have n2_ := aM (blk_below (g := gb136) (o := .cells #[.bool a3_0, .int .i64 a3_1, .bool a3_2, .int .i64 a3_3, .slice A3_4 l3_4.length c3_4] 25 (0, 0)) (by (with_reducible repeat (first | refine bN ?_ _ | refine bW ?_ | refine bA ?_ _)); exact BK136.out) hb); have n3_ := aM (lT (by repeat (first | (with_reducible first | exact HB.out | apply lA | apply lN | apply lW | refine lS ?_ GE135.out | refine lS ?_ GE136.out) | exact HB.out)) hb); clear HO3_4; clear BK135; clear BK136; clear HB; have HO3_4 := n0_; have BK135 := n1_; have BK136 := n2_; have HB := n3_; clear n0_ n1_ n2_ n3_; (try clear hb); (try clear hb2); (try clear hk); (try clear hi)))
  go_ret
  exact ⟨_, by first | rfl | (simp [errW_none, errW_some] <;> rfl) | (simp [*, errW_none, errW_some] <;> rfl), by first | exact Kd.S_nil _ _ _ _ _ | exact Kd.N_nil _ _ _ _ _ | exact Kd.V_nil _ _ _ _ _ | exact Kd.Q_nil _ _ _ _ _ | exact Kd.R_nil _ _ _ _ _, by repeat (first | (with_reducible first | exact HB.out | apply lA | apply lN | apply lW | refine lS ?_ GE135.out | refine lS ?_ GE136.out) | exact HB.out)⟩

end Go.Proofs.Ytpcabeefahldlaa.P

/- Go functions that the laws of this seat reach, each as a Lean function, and a proof that a call of the Go code comes to its answers; written by a program (the kit's print, turned in a few places). Conditions: each theorem's own premises. -/
import Derived.Test.YtcbcgfeliainaaaPx0
import Derived.Test.YtcbcgfeliainaaaPx3
import Derived.Test.YtcbcgfeliainaaaPx4
import Derived.Test.YtcbcgfeliainaaaGAny
namespace Go.Proofs.Ytcbcgfeliainaaa.P
open Go.RowKit Go.Proofs.YtcbcgfeliainaaaW.PrintWords Go.Proofs.YtcbcgfeliainaaaW.PrintLast Go.Proofs.YtcbcgfeliainaaaW.PrintMore
attribute [local go_sem] max2_int min2_int max_two min_two max_three min_three max_four min_four   -- for this text's walks alone
set_option linter.unusedVariables false
set_option linter.unusedSimpArgs false

/-! ### phaetonlaw07_FilterAny: function 7 -/
mutual
def phaetonlaw07_FilterAny.j0 : Nat → List (S23) → Bool → Bool → Bool → Int → Bool → Int → List Int → Bool → Int → Int → Option (Bool)
  | 0, _, _, _, _, _, _, _, _, _, _, _ => none
  | k + 1, x0, x7, x37, x257000, x257001, x257002, x257003, x257004, x258000, x258001, x258002 => if x37 = true then (some x7) else (phaetonlaw07_FilterAny.l0 k x0 x7 ((x0.length : Int) == 0) false ([] : List (S23)) 0 x257000 x257001 x257002 x257003 x257004 x258000 x258001 x258002)
def phaetonlaw07_FilterAny.l0 : Nat → List (S23) → Bool → Bool → Bool → List (S23) → Int → Bool → Int → Bool → Int → List Int → Bool → Int → Int → Option (Bool)
  | 0, _, _, _, _, _, _, _, _, _, _, _, _, _, _ => none
  | k + 1, x0, x7, x8, x9, x10, x11, x257000, x257001, x257002, x257003, x257004, x258000, x258001, x258002 => if x11 < (x0.length : Int) then (if x8 = true then (if x9 = true then (if 0 ≤ x11 then ((some (([(⟨(rd_T23 x0 x11).f0, (rd_T23 x0 x11).f1, (rd_T23 x0 x11).f2⟩ : S23)] : List (S23)) : List (S23))).bind fun y263 => (if y263.length + x10.length < 5864062014805 then (phaetonlaw07_FilterAny.l0 k x0 x7 true true (y263 ++ x10) (wrap64 (x11 + 1)) x257000 x257001 x257002 x257003 x257004 x258000 x258001 x258002) else (none))) else (none)) else (if 0 ≤ x11 then ((filter_Covers.f ((rd_T23 x0 x11).f0) ((rd_T23 x0 x11).f1) ((rd_T23 x0 x11).f2) x258000 x258001 x258002).bind fun t270 => ((some (([(⟨(rd_T23 x0 x11).f0, (rd_T23 x0 x11).f1, (rd_T23 x0 x11).f2⟩ : S23)] : List (S23)) : List (S23))).bind fun y272 => (if y272.length + x10.length < 5864062014805 then (phaetonlaw07_FilterAny.l0 k x0 x7 true t270 (y272 ++ x10) (wrap64 (x11 + 1)) x257000 x257001 x257002 x257003 x257004 x258000 x258001 x258002) else (none)))) else (none))) else (if 0 ≤ x11 then ((filter_Takes.f ((rd_T23 x0 x11).f0) ((rd_T23 x0 x11).f1) ((rd_T23 x0 x11).f2) x257000 x257001 x257002 x257003 x257004).bind fun t279 => (if x9 = true then ((some (([(⟨(rd_T23 x0 x11).f0, (rd_T23 x0 x11).f1, (rd_T23 x0 x11).f2⟩ : S23)] : List (S23)) : List (S23))).bind fun y281 => (if y281.length + x10.length < 5864062014805 then (phaetonlaw07_FilterAny.l0 k x0 x7 t279 true (y281 ++ x10) (wrap64 (x11 + 1)) x257000 x257001 x257002 x257003 x257004 x258000 x258001 x258002) else (none))) else ((filter_Covers.f ((rd_T23 x0 x11).f0) ((rd_T23 x0 x11).f1) ((rd_T23 x0 x11).f2) x258000 x258001 x258002).bind fun t288 => ((some (([(⟨(rd_T23 x0 x11).f0, (rd_T23 x0 x11).f1, (rd_T23 x0 x11).f2⟩ : S23)] : List (S23)) : List (S23))).bind fun y290 => (if y290.length + x10.length < 5864062014805 then (phaetonlaw07_FilterAny.l0 k x0 x7 t279 t288 (y290 ++ x10) (wrap64 (x11 + 1)) x257000 x257001 x257002 x257003 x257004 x258000 x258001 x258002) else (none)))))) else (none))) else ((some (([] : List (S23)) : List (S23))).bind fun y296 => (if y296.length + x0.length < 5864062014805 then ((some (y296 ++ x0 : List (S23))).bind fun y299 => ((some (([(⟨x258000, x258001, x258002⟩ : S23)] : List (S23)) : List (S23))).bind fun y302 => (if y299.length + y302.length < 5864062014805 then ((some (y299 ++ y302 : List (S23))).bind fun y305 => ((filter_Any.f x0 x257000 x257001 x257002 x257003 x257004).bind fun t308 => (if (t308 != x8) = true then (phaetonlaw07_FilterAny.j2 k x0 x7 x8 x9 y305 true x257000 x257001 x257002 x257003 x257004 x258000 x258001 x258002) else ((filter_Any.f x10 x257000 x257001 x257002 x257003 x257004).bind fun t309 => (phaetonlaw07_FilterAny.j2 k x0 x7 x8 x9 y305 (t309 != x8) x257000 x257001 x257002 x257003 x257004 x258000 x258001 x258002))))) else (none)))) else (none)))
def phaetonlaw07_FilterAny.j2 : Nat → List (S23) → Bool → Bool → Bool → List (S23) → Bool → Bool → Int → Bool → Int → List Int → Bool → Int → Int → Option (Bool)
  | 0, _, _, _, _, _, _, _, _, _, _, _, _, _, _ => none
  | k + 1, x0, x7, x8, x9, x12, x90, x257000, x257001, x257002, x257003, x257004, x258000, x258001, x258002 => if x90 = true then (none) else (if x7 = true then ((filter_Any.f x12 x257000 x257001 x257002 x257003 x257004).bind fun t310 => (if (x0.length : Int) > 0 then (if x8 = true then (if (t310 == true) = true then (if x9 = true then (some (t310 == x8)) else (some true)) else (none)) else ((filter_Takes.f x258000 x258001 x258002 x257000 x257001 x257002 x257003 x257004).bind fun t311 => (if (t310 == t311) = true then (if x9 = true then (some (t310 == x8)) else (some true)) else (none)))) else ((filter_Takes.f x258000 x258001 x258002 x257000 x257001 x257002 x257003 x257004).bind fun t312 => (if (t310 == t312) = true then (if x9 = true then (some (t310 == x8)) else (some true)) else (none))))) else (none))
end
def phaetonlaw07_FilterAny.f (k : Nat) (l0 : List (S23)) (a1_0 : Bool) (a1_1 : Int) (a1_2 : Bool) (a1_3 : Int) (l1_4 : List Int) (a2_0 : Bool) (a2_1 : Int) (a2_2 : Int) : Option (Bool) := (phaetonlaw07_head.f).bind fun t258 => (if (l0.length : Int) > 100 then (phaetonlaw07_FilterAny.j0 k l0 t258 true a1_0 a1_1 a1_2 a1_3 l1_4 a2_0 a2_1 a2_2) else ((phaetonlaw07_good.f k l0).bind fun t259 => (if t259 = true then ((phaetonref07_Right.f a2_0 a2_1 a2_2).bind fun t260 => (if t260 = true then (if (l1_4.length : Int) > 100 then (phaetonlaw07_FilterAny.j0 k l0 t258 true a1_0 a1_1 a1_2 a1_3 l1_4 a2_0 a2_1 a2_2) else ((phaetonref04_Right.f k a1_0 a1_1 a1_2 a1_3 l1_4).bind fun t261 => (phaetonlaw07_FilterAny.j0 k l0 t258 (!t261) a1_0 a1_1 a1_2 a1_3 l1_4 a2_0 a2_1 a2_2))) else (phaetonlaw07_FilterAny.j0 k l0 t258 true a1_0 a1_1 a1_2 a1_3 l1_4 a2_0 a2_1 a2_2))) else (phaetonlaw07_FilterAny.j0 k l0 t258 true a1_0 a1_1 a1_2 a1_3 l1_4 a2_0 a2_1 a2_2))))
theorem phaetonlaw07_FilterAny.mono_l : ∀ k, (∀ y0 y1 y2 y3 y4 y5 y6 y7 y8 y9 y10, LeO (phaetonlaw07_FilterAny.j0 k y0 y1 y2 y3 y4 y5 y6 y7 y8 y9 y10) (phaetonlaw07_FilterAny.j0 (k + 1) y0 y1 y2 y3 y4 y5 y6 y7 y8 y9 y10)) ∧ (∀ y0 y1 y2 y3 y4 y5 y6 y7 y8 y9 y10 y11 y12 y13, LeO (phaetonlaw07_FilterAny.l0 k y0 y1 y2 y3 y4 y5 y6 y7 y8 y9 y10 y11 y12 y13) (phaetonlaw07_FilterAny.l0 (k + 1) y0 y1 y2 y3 y4 y5 y6 y7 y8 y9 y10 y11 y12 y13)) ∧ (∀ y0 y1 y2 y3 y4 y5 y6 y7 y8 y9 y10 y11 y12 y13, LeO (phaetonlaw07_FilterAny.j2 k y0 y1 y2 y3 y4 y5 y6 y7 y8 y9 y10 y11 y12 y13) (phaetonlaw07_FilterAny.j2 (k + 1) y0 y1 y2 y3 y4 y5 y6 y7 y8 y9 y10 y11 y12 y13))
  | 0 => ⟨fun _ _ _ _ _ _ _ _ _ _ _ r h => by simp [phaetonlaw07_FilterAny.j0] at h, fun _ _ _ _ _ _ _ _ _ _ _ _ _ _ r h => by simp [phaetonlaw07_FilterAny.l0] at h, fun _ _ _ _ _ _ _ _ _ _ _ _ _ _ r h => by simp [phaetonlaw07_FilterAny.j2] at h⟩
  | k + 1 => by
    obtain ⟨ih0, ih1, ih2⟩ := phaetonlaw07_FilterAny.mono_l k
    refine ⟨?_, ?_, ?_⟩
    · intro y0 y1 y2 y3 y4 y5 y6 y7 y8 y9 y10
      unfold phaetonlaw07_FilterAny.j0
      repeat' first
      | (with_reducible exact ih0 _ _ _ _ _ _ _ _ _ _ _)
      | (with_reducible exact ih1 _ _ _ _ _ _ _ _ _ _ _ _ _ _)
      | (with_reducible exact ih2 _ _ _ _ _ _ _ _ _ _ _ _ _ _)
      | (with_reducible exact phaetonlaw07_good.mono _ _)
      | (with_reducible exact phaetonref04_Right.mono _ _ _ _ _ _)
      | (with_reducible exact LeO.refl _)
      | (with_reducible exact LeO.none _)
      | (with_reducible refine LeO.ite ?_ ?_)
      | (with_reducible refine LeO.bind ?_ (fun _ => ?_))
      | exact ih0 _ _ _ _ _ _ _ _ _ _ _
      | exact ih1 _ _ _ _ _ _ _ _ _ _ _ _ _ _
      | exact ih2 _ _ _ _ _ _ _ _ _ _ _ _ _ _
      | exact phaetonlaw07_good.mono _ _
      | exact phaetonref04_Right.mono _ _ _ _ _ _
      | exact LeO.none _
      | refine LeO.ite ?_ ?_
      | refine LeO.bind ?_ (fun _ => ?_)
    · intro y0 y1 y2 y3 y4 y5 y6 y7 y8 y9 y10 y11 y12 y13
      unfold phaetonlaw07_FilterAny.l0
      repeat' first
      | (with_reducible exact ih0 _ _ _ _ _ _ _ _ _ _ _)
      | (with_reducible exact ih1 _ _ _ _ _ _ _ _ _ _ _ _ _ _)
      | (with_reducible exact ih2 _ _ _ _ _ _ _ _ _ _ _ _ _ _)
      | (with_reducible exact phaetonlaw07_good.mono _ _)
      | (with_reducible exact phaetonref04_Right.mono _ _ _ _ _ _)
      | (with_reducible exact LeO.refl _)
      | (with_reducible exact LeO.none _)
      | (with_reducible refine LeO.ite ?_ ?_)
      | (with_reducible refine LeO.bind ?_ (fun _ => ?_))
      | exact ih0 _ _ _ _ _ _ _ _ _ _ _
      | exact ih1 _ _ _ _ _ _ _ _ _ _ _ _ _ _
      | exact ih2 _ _ _ _ _ _ _ _ _ _ _ _ _ _
      | exact phaetonlaw07_good.mono _ _
      | exact phaetonref04_Right.mono _ _ _ _ _ _
      | exact LeO.none _
      | refine LeO.ite ?_ ?_
      | refine LeO.bind ?_ (fun _ => ?_)
    · intro y0 y1 y2 y3 y4 y5 y6 y7 y8 y9 y10 y11 y12 y13
      unfold phaetonlaw07_FilterAny.j2
      repeat' first
      | (with_reducible exact ih0 _ _ _ _ _ _ _ _ _ _ _)
      | (with_reducible exact ih1 _ _ _ _ _ _ _ _ _ _ _ _ _ _)
      | (with_reducible exact ih2 _ _ _ _ _ _ _ _ _ _ _ _ _ _)
      | (with_reducible exact phaetonlaw07_good.mono _ _)
      | (with_reducible exact phaetonref04_Right.mono _ _ _ _ _ _)
      | (with_reducible exact LeO.refl _)
      | (with_reducible exact LeO.none _)
      | (with_reducible refine LeO.ite ?_ ?_)
      | (with_reducible refine LeO.bind ?_ (fun _ => ?_))
      | exact ih0 _ _ _ _ _ _ _ _ _ _ _
      | exact ih1 _ _ _ _ _ _ _ _ _ _ _ _ _ _
      | exact ih2 _ _ _ _ _ _ _ _ _ _ _ _ _ _
      | exact phaetonlaw07_good.mono _ _
      | exact phaetonref04_Right.mono _ _ _ _ _ _
      | exact LeO.none _
      | refine LeO.ite ?_ ?_
      | refine LeO.bind ?_ (fun _ => ?_)
theorem phaetonlaw07_FilterAny.mono : ∀ a0 a1 a2 a3 a4 a5 a6 a7 a8 k, LeO (phaetonlaw07_FilterAny.f k a0 a1 a2 a3 a4 a5 a6 a7 a8) (phaetonlaw07_FilterAny.f (k + 1) a0 a1 a2 a3 a4 a5 a6 a7 a8) := by
  intro a0 a1 a2 a3 a4 a5 a6 a7 a8 k
  obtain ⟨ih0, ih1, ih2⟩ := phaetonlaw07_FilterAny.mono_l k
  unfold phaetonlaw07_FilterAny.f
  repeat' first
      | (with_reducible exact ih0 _ _ _ _ _ _ _ _ _ _ _)
      | (with_reducible exact ih1 _ _ _ _ _ _ _ _ _ _ _ _ _ _)
      | (with_reducible exact ih2 _ _ _ _ _ _ _ _ _ _ _ _ _ _)
      | (with_reducible exact phaetonlaw07_good.mono _ _)
      | (with_reducible exact phaetonref04_Right.mono _ _ _ _ _ _)
      | (with_reducible exact LeO.refl _)
      | (with_reducible exact LeO.none _)
      | (with_reducible refine LeO.ite ?_ ?_)
      | (with_reducible refine LeO.bind ?_ (fun _ => ?_))
      | exact ih0 _ _ _ _ _ _ _ _ _ _ _
      | exact ih1 _ _ _ _ _ _ _ _ _ _ _ _ _ _
      | exact ih2 _ _ _ _ _ _ _ _ _ _ _ _ _ _
      | exact phaetonlaw07_good.mono _ _
      | exact phaetonref04_Right.mono _ _ _ _ _ _
      | exact LeO.none _
      | refine LeO.ite ?_ ?_
      | refine LeO.bind ?_ (fun _ => ?_)
def phaetonlaw07_FilterAny.T10 : Bool × List (List Nat × List Nat) := (true, [([], []), ([0], [0]), ([1], [1]), ([1], [1]), ([2, 3, 1], [1, 2, 3]), ([4, 1], [1, 4]), ([1], [1]), ([5, 6, 1, 1], [1, 5, 6]), ([1, 7], [1, 7]), ([8, 7, 0, 1, 2, 3, 4, 5, 6, 7, 8], [0, 8])])
def phaetonlaw07_FilterAny.B10 : List Nat := [0, 1, 3, 3, 15, 31, 3, 127, 255, 511]
theorem phaetonlaw07_FilterAny.tab10 : rtab .any (opsOf Try.f7 10) = phaetonlaw07_FilterAny.T10 := by kernel_rfl
theorem phaetonlaw07_FilterAny.bits10 : waitsOk phaetonlaw07_FilterAny.T10.2 phaetonlaw07_FilterAny.B10 = true := by kernel_rfl
def phaetonlaw07_FilterAny.T11 : Bool × List (List Nat × List Nat) := (true, [([], []), ([0], [0]), ([1], [1]), ([1], [1]), ([2, 3, 1], [1, 2, 3]), ([4, 1], [1, 4]), ([1], [1]), ([5, 6, 1, 1], [1, 5, 6]), ([1, 7], [1, 7]), ([8, 7, 0, 1, 2, 3, 4, 5, 6, 7, 8], [0, 8])])
def phaetonlaw07_FilterAny.B11 : List Nat := [0, 1, 3, 3, 15, 31, 3, 127, 255, 511]
theorem phaetonlaw07_FilterAny.tab11 : rtab .any (opsOf Try.f7 11) = phaetonlaw07_FilterAny.T11 := by kernel_rfl
theorem phaetonlaw07_FilterAny.bits11 : waitsOk phaetonlaw07_FilterAny.T11.2 phaetonlaw07_FilterAny.B11 = true := by kernel_rfl
set_option maxHeartbeats 8000000 in
set_option maxRecDepth 100000 in
theorem phaetonlaw07_FilterAny.calls (k : Nat) (A0 : Option Addr) (c0 : Nat) (l0 : List (S23)) (a1_0 : Bool) (a1_1 : Int) (a1_2 : Bool) (a1_3 : Int) (A1_4 : Option Addr) (c1_4 : Nat) (l1_4 : List Int) (a2_0 : Bool) (a2_1 : Int) (a2_2 : Int) (r : Bool) (w : World) (hr0 : Kd.C k23 w A0 l0.length l0) (hc0 : l0.length ≤ c0) (hr1_4 : Kd.C (Kd.int .u8) w A1_4 l1_4.length l1_4) (hc1_4 : l1_4.length ≤ c1_4) (h : phaetonlaw07_FilterAny.f k l0 a1_0 a1_1 a1_2 a1_3 l1_4 a2_0 a2_1 a2_2 = some r) :
    Calls Try.prog 7 #[.slice A0 l0.length c0, .agg #[.bool a1_0, .int .i64 a1_1, .bool a1_2, .int .i64 a1_3, .slice A1_4 l1_4.length c1_4], .agg #[.bool a2_0, .int .i64 a2_1, .int .i64 a2_2]] w fun e w' => e = .returned (.bool r) ∧ Below w.heap.size w w' := by
  have hu27 := Try.underlying27
  have hu23 := Try.underlying23
  have HR0 := Aside0.mk hr0
  have HC0 := Aside0.mk hc0
  clear hr0 hc0
  have HR1_4 := Aside0.mk hr1_4
  have HC1_4 := Aside0.mk hc1_4
  clear hr1_4 hc1_4
  have HB := Aside0.mk (Below.refl w.heap.size w)
  have H : ((phaetonlaw07_head.f).bind fun t258 => (if (l0.length : Int) > 100 then (phaetonlaw07_FilterAny.j0 k l0 t258 true a1_0 a1_1 a1_2 a1_3 l1_4 a2_0 a2_1 a2_2) else ((phaetonlaw07_good.f k l0).bind fun t259 => (if t259 = true then ((phaetonref07_Right.f a2_0 a2_1 a2_2).bind fun t260 => (if t260 = true then (if (l1_4.length : Int) > 100 then (phaetonlaw07_FilterAny.j0 k l0 t258 true a1_0 a1_1 a1_2 a1_3 l1_4 a2_0 a2_1 a2_2) else ((phaetonref04_Right.f k a1_0 a1_1 a1_2 a1_3 l1_4).bind fun t261 => (phaetonlaw07_FilterAny.j0 k l0 t258 (!t261) a1_0 a1_1 a1_2 a1_3 l1_4 a2_0 a2_1 a2_2))) else (phaetonlaw07_FilterAny.j0 k l0 t258 true a1_0 a1_1 a1_2 a1_3 l1_4 a2_0 a2_1 a2_2))) else (phaetonlaw07_FilterAny.j0 k l0 t258 true a1_0 a1_1 a1_2 a1_3 l1_4 a2_0 a2_1 a2_2))))) = some r := h
  clear h
  replace H := Option.bind_eq_some_iff.mp H
  obtain ⟨t258, A40, H⟩ := H
  replace H : (if (l0.length : Int) > 100 then (phaetonlaw07_FilterAny.j0 k l0 t258 true a1_0 a1_1 a1_2 a1_3 l1_4 a2_0 a2_1 a2_2) else ((phaetonlaw07_good.f k l0).bind fun t259 => (if t259 = true then ((phaetonref07_Right.f a2_0 a2_1 a2_2).bind fun t260 => (if t260 = true then (if (l1_4.length : Int) > 100 then (phaetonlaw07_FilterAny.j0 k l0 t258 true a1_0 a1_1 a1_2 a1_3 l1_4 a2_0 a2_1 a2_2) else ((phaetonref04_Right.f k a1_0 a1_1 a1_2 a1_3 l1_4).bind fun t261 => (phaetonlaw07_FilterAny.j0 k l0 t258 (!t261) a1_0 a1_1 a1_2 a1_3 l1_4 a2_0 a2_1 a2_2))) else (phaetonlaw07_FilterAny.j0 k l0 t258 true a1_0 a1_1 a1_2 a1_3 l1_4 a2_0 a2_1 a2_2))) else (phaetonlaw07_FilterAny.j0 k l0 t258 true a1_0 a1_1 a1_2 a1_3 l1_4 a2_0 a2_1 a2_2)))) = some r := H
  have A4 := Aside0.mk A40
  clear A40
  have HC5 := Aside0.mk H
  clear H
  go_enter Try.func7, Try.ntmps7
  go_upto_region 2 with (first | ((with_reducible refine gate_dst (N := 4) rfl ?_); (try (refine gate_guard (by rfl) ?_; dsimp only)); refine box_event ?hg (N := 4) ?hd (cs := #[.bool a1_0, .int .i64 a1_1, .bool a1_2, .int .i64 a1_3, .slice A1_4 l1_4.length c1_4]) (t := 27) ?hr ?_; (case hd => rfl); (case hg => rfl); (case hr => first | (go_simp; done) | (go_simp; rfl)); intro gb256 hg w6 hbox hb; have n0_ := Aside0.mk (below_step (by repeat (first | (with_reducible first | exact HB.out | apply below_alloc | apply pw_below_drewN | apply below_drew1) | exact HB.out)) hb); have n1_ := Aside0.mk (hbox); have n2_ := Aside0.mk ((by rw [hg]; exact (below_size (by repeat (first | (with_reducible first | exact HB.out | apply below_alloc | apply pw_below_drewN | apply below_drew1) | exact HB.out))) : w.heap.size ≤ gb256)); have n3_ := Aside0.mk ((by rw [hg]; exact (below_size (by repeat (first | (with_reducible first | exact HB.out | apply below_alloc | apply pw_below_drewN | apply below_drew1) | exact HB.out))) : w.heap.size ≤ gb256)); clear HB; have HB := n0_; have BK256 := n1_; have GW256 := n2_; have GE256 := n3_; clear n0_ n1_ n2_ n3_; clear hb hbox hg) | ((with_reducible refine gate_dst (N := 5) rfl ?_); (try (refine gate_guard (by rfl) ?_; dsimp only)); refine box_event ?hg (N := 5) ?hd (cs := #[.bool a2_0, .int .i64 a2_1, .int .i64 a2_2]) (t := 23) ?hr ?_; (case hd => rfl); (case hg => rfl); (case hr => first | (go_simp; done) | (go_simp; rfl)); intro gb257 hg w7 hbox hb; have n0_ := Aside0.mk (blk_below (g := gb256) (o := .cells #[.bool a1_0, .int .i64 a1_1, .bool a1_2, .int .i64 a1_3, .slice A1_4 l1_4.length c1_4] 27 (0, 0)) (by (with_reducible repeat (first | refine blk_drewN ?_ _ | refine blk_drew ?_ | refine blk_alloc ?_ _)); exact BK256.out) hb); have n1_ := Aside0.mk (below_step (by repeat (first | (with_reducible first | exact HB.out | apply below_alloc | apply pw_below_drewN | apply below_drew1 | refine below_set ?_ GE256.out) | exact HB.out)) hb); have n2_ := Aside0.mk (hbox); have n3_ := Aside0.mk ((by rw [hg]; exact (below_size (by repeat (first | (with_reducible first | exact HB.out | apply below_alloc | apply pw_below_drewN | apply below_drew1 | refine below_set ?_ GE256.out) | exact HB.out))) : w.heap.size ≤ gb257)); have n4_ := Aside0.mk ((by rw [hg]; exact (below_size (by repeat (first | (with_reducible first | exact HB.out | apply below_alloc | apply pw_below_drewN | apply below_drew1 | refine below_set ?_ GE256.out) | exact HB.out))) : w.heap.size ≤ gb257)); have n5_ := Aside0.mk ((by rw [hg]; exact Nat.ne_of_lt (blk_lt (g := gb256) (o := .cells #[.bool a1_0, .int .i64 a1_1, .bool a1_2, .int .i64 a1_3, .slice A1_4 l1_4.length c1_4] 27 (0, 0)) (by (with_reducible repeat (first | refine blk_drewN ?_ _ | refine blk_drew ?_ | refine blk_alloc ?_ _)); exact BK256.out)) : gb256 ≠ gb257)); have n6_ := Aside0.mk ((by rw [hg]; exact Nat.ne_of_gt (blk_lt (g := gb256) (o := .cells #[.bool a1_0, .int .i64 a1_1, .bool a1_2, .int .i64 a1_3, .slice A1_4 l1_4.length c1_4] 27 (0, 0)) (by (with_reducible repeat (first | refine blk_drewN ?_ _ | refine blk_drew ?_ | refine blk_alloc ?_ _)); exact BK256.out)) : gb257 ≠ gb256)); clear BK256; clear HB; have BK256 := n0_; have HB := n1_; have BK257 := n2_; have GW257 := n3_; have GE257 := n4_; have NB256_257 := n5_; have NB257_256 := n6_; clear n0_ n1_ n2_ n3_ n4_ n5_ n6_; clear hb hbox hg) | ((with_reducible refine gate_callee (f := 10) rfl ?_); refine goesL_ (some 13) rfl rfl Try.func10 (by kernel_rfl) rfl #[] rfl (by (try simp only [List.map_toArray, List.map_cons, List.map_nil]); first | done | rfl | (simp only [List.length_drop, List.length_take]; rfl)) ?_; (with_reducible refine (phaetonlaw07_head.calls  t258 _ A4.out).mono ?_); rintro e w8 ⟨rfl, hb⟩; refine ⟨_, rfl, ?_⟩; have n0_ := Aside0.mk (blk_below (g := gb256) (o := .cells #[.bool a1_0, .int .i64 a1_1, .bool a1_2, .int .i64 a1_3, .slice A1_4 l1_4.length c1_4] 27 (0, 0)) (by (with_reducible repeat (first | refine blk_drewN ?_ _ | refine blk_drew ?_ | refine blk_alloc ?_ _)); exact BK256.out) hb); have n1_ := Aside0.mk (blk_below (g := gb257) (o := .cells #[.bool a2_0, .int .i64 a2_1, .int .i64 a2_2] 23 (0, 0)) (by (with_reducible repeat (first | refine blk_drewN ?_ _ | refine blk_drew ?_ | refine blk_alloc ?_ _)); exact BK257.out) hb); have n2_ := Aside0.mk (below_step (by repeat (first | (with_reducible first | exact HB.out | apply below_alloc | apply pw_below_drewN | apply below_drew1 | refine below_set ?_ GE256.out | refine below_set ?_ GE257.out) | exact HB.out)) hb); clear BK256; clear BK257; clear HB; have BK256 := n0_; have BK257 := n1_; have HB := n2_; clear n0_ n1_ n2_; (try clear hb); (try clear hb2); (try clear hk); (try clear hi)))
  (try simp only [Act.put, List.setIfInBounds_toArray, List.set_cons_zero, List.set_cons_succ])
  go_cut [37] (fun v37 wc => ∃ (kq : Nat) (x37_4 : Bool), v37 = .bool x37_4 ∧ Aside0 (phaetonlaw07_FilterAny.j0 kq l0 t258 x37_4 a1_0 a1_1 a1_2 a1_3 l1_4 a2_0 a2_1 a2_2 = some r) ∧ Aside0 (kq ≤ k) ∧ Aside0 (wc.heap[gb256]? = some (.cells #[.bool a1_0, .int .i64 a1_1, .bool a1_2, .int .i64 a1_3, (.slice A1_4 l1_4.length c1_4)] 27 (0, 0))) ∧ Aside0 (wc.heap[gb257]? = some (.cells #[.bool a2_0, .int .i64 a2_1, .int .i64 a2_2] 23 (0, 0))) ∧ Aside0 (Below w.heap.size w wc))
  case first =>
    have H := HC5.out
    clear HC5
    by_cases c9 : (l0.length : Int) > 100
    · rw [if_pos c9] at H
      have c9b0 : decide (100 < (l0.length : Int)) = true := decide_eq_true c9
      have c9b1 : decide (100 < l0.length) = true := decide_eq_true (by omega)
      clear c9
      (first | rw [c9b0] | (simp only [i64_w, i32_w]; rw [c9b0]) | skip)
      have H' := Aside0.mk H
      clear H
      go_wp2
      go_meet
      case rel => exact ⟨_, (true), (by first | rfl | (simp; done) | (simp [*]; done)), H', ⟨by first | omega | exact Nat.le_refl _⟩, ⟨by (with_reducible repeat (first | refine blk_drewN ?_ _ | refine blk_drew ?_ | refine blk_alloc ?_ _)); exact BK256.out⟩, ⟨by (with_reducible repeat (first | refine blk_drewN ?_ _ | refine blk_drew ?_ | refine blk_alloc ?_ _)); exact BK257.out⟩, ⟨by repeat (first | (with_reducible first | exact HB.out | apply below_alloc | apply pw_below_drewN | apply below_drew1 | refine below_set ?_ GE256.out | refine below_set ?_ GE257.out) | exact HB.out)⟩⟩
    · rw [if_neg c9] at H
      have c9b0 : decide (100 < (l0.length : Int)) = false := decide_eq_false c9
      have c9b1 : decide (100 < l0.length) = false := decide_eq_false (by omega)
      clear c9
      (first | rw [c9b0] | (simp only [i64_w, i32_w]; rw [c9b0]) | skip)
      replace H := Option.bind_eq_some_iff.mp H
      obtain ⟨t259, A100, H⟩ := H
      replace H : (if t259 = true then ((phaetonref07_Right.f a2_0 a2_1 a2_2).bind fun t260 => (if t260 = true then (if (l1_4.length : Int) > 100 then (phaetonlaw07_FilterAny.j0 k l0 t258 true a1_0 a1_1 a1_2 a1_3 l1_4 a2_0 a2_1 a2_2) else ((phaetonref04_Right.f k a1_0 a1_1 a1_2 a1_3 l1_4).bind fun t261 => (phaetonlaw07_FilterAny.j0 k l0 t258 (!t261) a1_0 a1_1 a1_2 a1_3 l1_4 a2_0 a2_1 a2_2))) else (phaetonlaw07_FilterAny.j0 k l0 t258 true a1_0 a1_1 a1_2 a1_3 l1_4 a2_0 a2_1 a2_2))) else (phaetonlaw07_FilterAny.j0 k l0 t258 true a1_0 a1_1 a1_2 a1_3 l1_4 a2_0 a2_1 a2_2)) = some r := H
      have A10 := Aside0.mk A100
      clear A100
      by_cases c11 : t259 = true
      · subst c11
        have H1 : ((phaetonref07_Right.f a2_0 a2_1 a2_2).bind fun t260 => (if t260 = true then (if (l1_4.length : Int) > 100 then (phaetonlaw07_FilterAny.j0 k l0 t258 true a1_0 a1_1 a1_2 a1_3 l1_4 a2_0 a2_1 a2_2) else ((phaetonref04_Right.f k a1_0 a1_1 a1_2 a1_3 l1_4).bind fun t261 => (phaetonlaw07_FilterAny.j0 k l0 t258 (!t261) a1_0 a1_1 a1_2 a1_3 l1_4 a2_0 a2_1 a2_2))) else (phaetonlaw07_FilterAny.j0 k l0 t258 true a1_0 a1_1 a1_2 a1_3 l1_4 a2_0 a2_1 a2_2))) = some r := by rw [if_pos rfl] at H; exact H
        clear H
        have H := H1
        clear H1
        replace H := Option.bind_eq_some_iff.mp H
        obtain ⟨t260, A120, H⟩ := H
        replace H : (if t260 = true then (if (l1_4.length : Int) > 100 then (phaetonlaw07_FilterAny.j0 k l0 t258 true a1_0 a1_1 a1_2 a1_3 l1_4 a2_0 a2_1 a2_2) else ((phaetonref04_Right.f k a1_0 a1_1 a1_2 a1_3 l1_4).bind fun t261 => (phaetonlaw07_FilterAny.j0 k l0 t258 (!t261) a1_0 a1_1 a1_2 a1_3 l1_4 a2_0 a2_1 a2_2))) else (phaetonlaw07_FilterAny.j0 k l0 t258 true a1_0 a1_1 a1_2 a1_3 l1_4 a2_0 a2_1 a2_2)) = some r := H
        have A12 := Aside0.mk A120
        clear A120
        by_cases c13 : t260 = true
        · subst c13
          have H1 : (if (l1_4.length : Int) > 100 then (phaetonlaw07_FilterAny.j0 k l0 t258 true a1_0 a1_1 a1_2 a1_3 l1_4 a2_0 a2_1 a2_2) else ((phaetonref04_Right.f k a1_0 a1_1 a1_2 a1_3 l1_4).bind fun t261 => (phaetonlaw07_FilterAny.j0 k l0 t258 (!t261) a1_0 a1_1 a1_2 a1_3 l1_4 a2_0 a2_1 a2_2))) = some r := by rw [if_pos rfl] at H; exact H
          clear H
          have H := H1
          clear H1
          by_cases c14 : (l1_4.length : Int) > 100
          · rw [if_pos c14] at H
            have c14b0 : decide (100 < (l1_4.length : Int)) = true := decide_eq_true c14
            have c14b1 : decide (100 < l1_4.length) = true := decide_eq_true (by omega)
            clear c14
            have H' := Aside0.mk H
            clear H
            go_wp2_with (first | (go_at_call 13; (with_reducible refine (phaetonlaw07_good.calls k _ _ l0 true _ ?side1 ?side2 A10.out).mono ?_); (case side1 => repeat (first | exact (Kd.C_below HR0.out HB.out) | (with_reducible refine Kd.C_alloc ?_ _) | (with_reducible refine Kd.C_drewN ?_ _) | (with_reducible refine Kd.C_drew ?_))); (case side2 => exact HC0.out); rintro e w15 ⟨rfl, hb⟩; have n0_ := Aside0.mk (blk_below (g := gb256) (o := .cells #[.bool a1_0, .int .i64 a1_1, .bool a1_2, .int .i64 a1_3, .slice A1_4 l1_4.length c1_4] 27 (0, 0)) (by (with_reducible repeat (first | refine blk_drewN ?_ _ | refine blk_drew ?_ | refine blk_alloc ?_ _)); exact BK256.out) hb); have n1_ := Aside0.mk (blk_below (g := gb257) (o := .cells #[.bool a2_0, .int .i64 a2_1, .int .i64 a2_2] 23 (0, 0)) (by (with_reducible repeat (first | refine blk_drewN ?_ _ | refine blk_drew ?_ | refine blk_alloc ?_ _)); exact BK257.out) hb); have n2_ := Aside0.mk (below_step (by repeat (first | (with_reducible first | exact HB.out | apply below_alloc | apply pw_below_drewN | apply below_drew1 | refine below_set ?_ GE256.out | refine below_set ?_ GE257.out) | exact HB.out)) hb); clear BK256; clear BK257; clear HB; have BK256 := n0_; have BK257 := n1_; have HB := n2_; clear n0_ n1_ n2_; (try clear hb); (try clear hb2); (try clear hk); (try clear hi); have hnb16 := NB257_256.out; have hnc16 := NB256_257.out; have hcz17_0 : w15.cell? ⟨gb257, 0, none⟩ = some (.bool a2_0) := (blk_cell BK257.out 0).trans rfl; have hcz17_1 : w15.cell? ⟨gb257, 1, none⟩ = some (.int .i64 a2_1) := (blk_cell BK257.out 1).trans rfl; have hcz17_2 : w15.cell? ⟨gb257, 2, none⟩ = some (.int .i64 a2_2) := (blk_cell BK257.out 2).trans rfl; have hfz17_0 := blk_frozen BK257.out 0; have hfz17_1 := blk_frozen BK257.out 1; have hfz17_2 := blk_frozen BK257.out 2) | (go_at_call 12; (with_reducible refine (phaetonref07_Right.calls a2_0 a2_1 a2_2 true _ A12.out).mono ?_); rintro e w18 ⟨rfl, hb⟩; have n0_ := Aside0.mk (blk_below (g := gb256) (o := .cells #[.bool a1_0, .int .i64 a1_1, .bool a1_2, .int .i64 a1_3, .slice A1_4 l1_4.length c1_4] 27 (0, 0)) (by (with_reducible repeat (first | refine blk_drewN ?_ _ | refine blk_drew ?_ | refine blk_alloc ?_ _)); exact BK256.out) hb); have n1_ := Aside0.mk (blk_below (g := gb257) (o := .cells #[.bool a2_0, .int .i64 a2_1, .int .i64 a2_2] 23 (0, 0)) (by (with_reducible repeat (first | refine blk_drewN ?_ _ | refine blk_drew ?_ | refine blk_alloc ?_ _)); exact BK257.out) hb); have n2_ := Aside0.mk (below_step (by repeat (first | (with_reducible first | exact HB.out | apply below_alloc | apply pw_below_drewN | apply below_drew1 | refine below_set ?_ GE256.out | refine below_set ?_ GE257.out) | exact HB.out)) hb); clear BK256; clear BK257; clear HB; have BK256 := n0_; have BK257 := n1_; have HB := n2_; clear n0_ n1_ n2_; (try clear hb); (try clear hb2); (try clear hk); (try clear hi); have hcz19_0 : w18.cell? ⟨gb256, 0, none⟩ = some (.bool a1_0) := (blk_cell BK256.out 0).trans rfl; have hcz19_1 : w18.cell? ⟨gb256, 1, none⟩ = some (.int .i64 a1_1) := (blk_cell BK256.out 1).trans rfl; have hcz19_2 : w18.cell? ⟨gb256, 2, none⟩ = some (.bool a1_2) := (blk_cell BK256.out 2).trans rfl; have hcz19_3 : w18.cell? ⟨gb256, 3, none⟩ = some (.int .i64 a1_3) := (blk_cell BK256.out 3).trans rfl; have hcz19_4 : w18.cell? ⟨gb256, 4, none⟩ = some (.slice A1_4 l1_4.length c1_4) := (blk_cell BK256.out 4).trans rfl; have hfz19_0 := blk_frozen BK256.out 0; have hfz19_1 := blk_frozen BK256.out 1; have hfz19_2 := blk_frozen BK256.out 2; have hfz19_3 := blk_frozen BK256.out 3; have hfz19_4 := blk_frozen BK256.out 4))
            go_meet
            case rel => exact ⟨_, (true), (by first | rfl | (simp; done) | (simp [*]; done)), H', ⟨by first | omega | exact Nat.le_refl _⟩, ⟨by (with_reducible repeat (first | refine blk_drewN ?_ _ | refine blk_drew ?_ | refine blk_alloc ?_ _)); exact BK256.out⟩, ⟨by (with_reducible repeat (first | refine blk_drewN ?_ _ | refine blk_drew ?_ | refine blk_alloc ?_ _)); exact BK257.out⟩, ⟨by repeat (first | (with_reducible first | exact HB.out | apply below_alloc | apply pw_below_drewN | apply below_drew1 | refine below_set ?_ GE256.out | refine below_set ?_ GE257.out) | exact HB.out)⟩⟩
          · rw [if_neg c14] at H
            have c14b0 : decide (100 < (l1_4.length : Int)) = false := decide_eq_false c14
            have c14b1 : decide (100 < l1_4.length) = false := decide_eq_false (by omega)
            clear c14
            replace H := Option.bind_eq_some_iff.mp H
            obtain ⟨t261, A200, H⟩ := H
            replace H : (phaetonlaw07_FilterAny.j0 k l0 t258 (!t261) a1_0 a1_1 a1_2 a1_3 l1_4 a2_0 a2_1 a2_2) = some r := H
            have A20 := Aside0.mk A200
            clear A200
            have H' := Aside0.mk H
            clear H
            go_wp2_with (first | (go_at_call 13; (with_reducible refine (phaetonlaw07_good.calls k _ _ l0 true _ ?side1 ?side2 A10.out).mono ?_); (case side1 => repeat (first | exact (Kd.C_below HR0.out HB.out) | (with_reducible refine Kd.C_alloc ?_ _) | (with_reducible refine Kd.C_drewN ?_ _) | (with_reducible refine Kd.C_drew ?_))); (case side2 => exact HC0.out); rintro e w21 ⟨rfl, hb⟩; have n0_ := Aside0.mk (blk_below (g := gb256) (o := .cells #[.bool a1_0, .int .i64 a1_1, .bool a1_2, .int .i64 a1_3, .slice A1_4 l1_4.length c1_4] 27 (0, 0)) (by (with_reducible repeat (first | refine blk_drewN ?_ _ | refine blk_drew ?_ | refine blk_alloc ?_ _)); exact BK256.out) hb); have n1_ := Aside0.mk (blk_below (g := gb257) (o := .cells #[.bool a2_0, .int .i64 a2_1, .int .i64 a2_2] 23 (0, 0)) (by (with_reducible repeat (first | refine blk_drewN ?_ _ | refine blk_drew ?_ | refine blk_alloc ?_ _)); exact BK257.out) hb); have n2_ := Aside0.mk (below_step (by repeat (first | (with_reducible first | exact HB.out | apply below_alloc | apply pw_below_drewN | apply below_drew1 | refine below_set ?_ GE256.out | refine below_set ?_ GE257.out) | exact HB.out)) hb); clear BK256; clear BK257; clear HB; have BK256 := n0_; have BK257 := n1_; have HB := n2_; clear n0_ n1_ n2_; (try clear hb); (try clear hb2); (try clear hk); (try clear hi); have hnb22 := NB257_256.out; have hnc22 := NB256_257.out; have hcz23_0 : w21.cell? ⟨gb257, 0, none⟩ = some (.bool a2_0) := (blk_cell BK257.out 0).trans rfl; have hcz23_1 : w21.cell? ⟨gb257, 1, none⟩ = some (.int .i64 a2_1) := (blk_cell BK257.out 1).trans rfl; have hcz23_2 : w21.cell? ⟨gb257, 2, none⟩ = some (.int .i64 a2_2) := (blk_cell BK257.out 2).trans rfl; have hfz23_0 := blk_frozen BK257.out 0; have hfz23_1 := blk_frozen BK257.out 1; have hfz23_2 := blk_frozen BK257.out 2) | (go_at_call 12; (with_reducible refine (phaetonref07_Right.calls a2_0 a2_1 a2_2 true _ A12.out).mono ?_); rintro e w24 ⟨rfl, hb⟩; have n0_ := Aside0.mk (blk_below (g := gb256) (o := .cells #[.bool a1_0, .int .i64 a1_1, .bool a1_2, .int .i64 a1_3, .slice A1_4 l1_4.length c1_4] 27 (0, 0)) (by (with_reducible repeat (first | refine blk_drewN ?_ _ | refine blk_drew ?_ | refine blk_alloc ?_ _)); exact BK256.out) hb); have n1_ := Aside0.mk (blk_below (g := gb257) (o := .cells #[.bool a2_0, .int .i64 a2_1, .int .i64 a2_2] 23 (0, 0)) (by (with_reducible repeat (first | refine blk_drewN ?_ _ | refine blk_drew ?_ | refine blk_alloc ?_ _)); exact BK257.out) hb); have n2_ := Aside0.mk (below_step (by repeat (first | (with_reducible first | exact HB.out | apply below_alloc | apply pw_below_drewN | apply below_drew1 | refine below_set ?_ GE256.out | refine below_set ?_ GE257.out) | exact HB.out)) hb); clear BK256; clear BK257; clear HB; have BK256 := n0_; have BK257 := n1_; have HB := n2_; clear n0_ n1_ n2_; (try clear hb); (try clear hb2); (try clear hk); (try clear hi); have hcz25_0 : w24.cell? ⟨gb256, 0, none⟩ = some (.bool a1_0) := (blk_cell BK256.out 0).trans rfl; have hcz25_1 : w24.cell? ⟨gb256, 1, none⟩ = some (.int .i64 a1_1) := (blk_cell BK256.out 1).trans rfl; have hcz25_2 : w24.cell? ⟨gb256, 2, none⟩ = some (.bool a1_2) := (blk_cell BK256.out 2).trans rfl; have hcz25_3 : w24.cell? ⟨gb256, 3, none⟩ = some (.int .i64 a1_3) := (blk_cell BK256.out 3).trans rfl; have hcz25_4 : w24.cell? ⟨gb256, 4, none⟩ = some (.slice A1_4 l1_4.length c1_4) := (blk_cell BK256.out 4).trans rfl; have hfz25_0 := blk_frozen BK256.out 0; have hfz25_1 := blk_frozen BK256.out 1; have hfz25_2 := blk_frozen BK256.out 2; have hfz25_3 := blk_frozen BK256.out 3; have hfz25_4 := blk_frozen BK256.out 4) | (go_at_call 14; (with_reducible refine (phaetonref04_Right.calls k a1_0 a1_1 a1_2 a1_3 _ _ l1_4 t261 _ ?side1 ?side2 A20.out).mono ?_); (case side1 => repeat (first | exact (Kd.C_below HR1_4.out HB.out) | (with_reducible refine Kd.C_alloc ?_ _) | (with_reducible refine Kd.C_drewN ?_ _) | (with_reducible refine Kd.C_drew ?_))); (case side2 => exact HC1_4.out); rintro e w26 ⟨rfl, hb⟩; have n0_ := Aside0.mk (blk_below (g := gb256) (o := .cells #[.bool a1_0, .int .i64 a1_1, .bool a1_2, .int .i64 a1_3, .slice A1_4 l1_4.length c1_4] 27 (0, 0)) (by (with_reducible repeat (first | refine blk_drewN ?_ _ | refine blk_drew ?_ | refine blk_alloc ?_ _)); exact BK256.out) hb); have n1_ := Aside0.mk (blk_below (g := gb257) (o := .cells #[.bool a2_0, .int .i64 a2_1, .int .i64 a2_2] 23 (0, 0)) (by (with_reducible repeat (first | refine blk_drewN ?_ _ | refine blk_drew ?_ | refine blk_alloc ?_ _)); exact BK257.out) hb); have n2_ := Aside0.mk (below_step (by repeat (first | (with_reducible first | exact HB.out | apply below_alloc | apply pw_below_drewN | apply below_drew1 | refine below_set ?_ GE256.out | refine below_set ?_ GE257.out) | exact HB.out)) hb); clear BK256; clear BK257; clear HB; have BK256 := n0_; have BK257 := n1_; have HB := n2_; clear n0_ n1_ n2_; (try clear hb); (try clear hb2); (try clear hk); (try clear hi)))
            go_meet
            case rel => exact ⟨_, (!t261), (by first | rfl | (simp; done) | (simp [*]; done)), H', ⟨by first | omega | exact Nat.le_refl _⟩, ⟨by (with_reducible repeat (first | refine blk_drewN ?_ _ | refine blk_drew ?_ | refine blk_alloc ?_ _)); exact BK256.out⟩, ⟨by (with_reducible repeat (first | refine blk_drewN ?_ _ | refine blk_drew ?_ | refine blk_alloc ?_ _)); exact BK257.out⟩, ⟨by repeat (first | (with_reducible first | exact HB.out | apply below_alloc | apply pw_below_drewN | apply below_drew1 | refine below_set ?_ GE256.out | refine below_set ?_ GE257.out) | exact HB.out)⟩⟩
        · replace c13 := Bool.eq_false_iff.mpr c13
          subst c13
          have H1 : (phaetonlaw07_FilterAny.j0 k l0 t258 true a1_0 a1_1 a1_2 a1_3 l1_4 a2_0 a2_1 a2_2) = some r := by rw [if_neg (show ¬ (false = true) by decide)] at H; exact H
          clear H
          have H := H1
          clear H1
          have H' := Aside0.mk H
          clear H
          go_wp2_with (first | (go_at_call 13; (with_reducible refine (phaetonlaw07_good.calls k _ _ l0 true _ ?side1 ?side2 A10.out).mono ?_); (case side1 => repeat (first | exact (Kd.C_below HR0.out HB.out) | (with_reducible refine Kd.C_alloc ?_ _) | (with_reducible refine Kd.C_drewN ?_ _) | (with_reducible refine Kd.C_drew ?_))); (case side2 => exact HC0.out); rintro e w27 ⟨rfl, hb⟩; have n0_ := Aside0.mk (blk_below (g := gb256) (o := .cells #[.bool a1_0, .int .i64 a1_1, .bool a1_2, .int .i64 a1_3, .slice A1_4 l1_4.length c1_4] 27 (0, 0)) (by (with_reducible repeat (first | refine blk_drewN ?_ _ | refine blk_drew ?_ | refine blk_alloc ?_ _)); exact BK256.out) hb); have n1_ := Aside0.mk (blk_below (g := gb257) (o := .cells #[.bool a2_0, .int .i64 a2_1, .int .i64 a2_2] 23 (0, 0)) (by (with_reducible repeat (first | refine blk_drewN ?_ _ | refine blk_drew ?_ | refine blk_alloc ?_ _)); exact BK257.out) hb); have n2_ := Aside0.mk (below_step (by repeat (first | (with_reducible first | exact HB.out | apply below_alloc | apply pw_below_drewN | apply below_drew1 | refine below_set ?_ GE256.out | refine below_set ?_ GE257.out) | exact HB.out)) hb); clear BK256; clear BK257; clear HB; have BK256 := n0_; have BK257 := n1_; have HB := n2_; clear n0_ n1_ n2_; (try clear hb); (try clear hb2); (try clear hk); (try clear hi); have hnb28 := NB257_256.out; have hnc28 := NB256_257.out; have hcz29_0 : w27.cell? ⟨gb257, 0, none⟩ = some (.bool a2_0) := (blk_cell BK257.out 0).trans rfl; have hcz29_1 : w27.cell? ⟨gb257, 1, none⟩ = some (.int .i64 a2_1) := (blk_cell BK257.out 1).trans rfl; have hcz29_2 : w27.cell? ⟨gb257, 2, none⟩ = some (.int .i64 a2_2) := (blk_cell BK257.out 2).trans rfl; have hfz29_0 := blk_frozen BK257.out 0; have hfz29_1 := blk_frozen BK257.out 1; have hfz29_2 := blk_frozen BK257.out 2) | (go_at_call 12; (with_reducible refine (phaetonref07_Right.calls a2_0 a2_1 a2_2 false _ A12.out).mono ?_); rintro e w30 ⟨rfl, hb⟩; have n0_ := Aside0.mk (blk_below (g := gb256) (o := .cells #[.bool a1_0, .int .i64 a1_1, .bool a1_2, .int .i64 a1_3, .slice A1_4 l1_4.length c1_4] 27 (0, 0)) (by (with_reducible repeat (first | refine blk_drewN ?_ _ | refine blk_drew ?_ | refine blk_alloc ?_ _)); exact BK256.out) hb); have n1_ := Aside0.mk (blk_below (g := gb257) (o := .cells #[.bool a2_0, .int .i64 a2_1, .int .i64 a2_2] 23 (0, 0)) (by (with_reducible repeat (first | refine blk_drewN ?_ _ | refine blk_drew ?_ | refine blk_alloc ?_ _)); exact BK257.out) hb); have n2_ := Aside0.mk (below_step (by repeat (first | (with_reducible first | exact HB.out | apply below_alloc | apply pw_below_drewN | apply below_drew1 | refine below_set ?_ GE256.out | refine below_set ?_ GE257.out) | exact HB.out)) hb); clear BK256; clear BK257; clear HB; have BK256 := n0_; have BK257 := n1_; have HB := n2_; clear n0_ n1_ n2_; (try clear hb); (try clear hb2); (try clear hk); (try clear hi)))
          go_meet
          case rel => exact ⟨_, (true), (by first | rfl | (simp; done) | (simp [*]; done)), H', ⟨by first | omega | exact Nat.le_refl _⟩, ⟨by (with_reducible repeat (first | refine blk_drewN ?_ _ | refine blk_drew ?_ | refine blk_alloc ?_ _)); exact BK256.out⟩, ⟨by (with_reducible repeat (first | refine blk_drewN ?_ _ | refine blk_drew ?_ | refine blk_alloc ?_ _)); exact BK257.out⟩, ⟨by repeat (first | (with_reducible first | exact HB.out | apply below_alloc | apply pw_below_drewN | apply below_drew1 | refine below_set ?_ GE256.out | refine below_set ?_ GE257.out) | exact HB.out)⟩⟩
      · replace c11 := Bool.eq_false_iff.mpr c11
        subst c11
        have H1 : (phaetonlaw07_FilterAny.j0 k l0 t258 true a1_0 a1_1 a1_2 a1_3 l1_4 a2_0 a2_1 a2_2) = some r := by rw [if_neg (show ¬ (false = true) by decide)] at H; exact H
        clear H
        have H := H1
        clear H1
        have H' := Aside0.mk H
        clear H
        go_wp2_with (first | (go_at_call 13; (with_reducible refine (phaetonlaw07_good.calls k _ _ l0 false _ ?side1 ?side2 A10.out).mono ?_); (case side1 => repeat (first | exact (Kd.C_below HR0.out HB.out) | (with_reducible refine Kd.C_alloc ?_ _) | (with_reducible refine Kd.C_drewN ?_ _) | (with_reducible refine Kd.C_drew ?_))); (case side2 => exact HC0.out); rintro e w31 ⟨rfl, hb⟩; have n0_ := Aside0.mk (blk_below (g := gb256) (o := .cells #[.bool a1_0, .int .i64 a1_1, .bool a1_2, .int .i64 a1_3, .slice A1_4 l1_4.length c1_4] 27 (0, 0)) (by (with_reducible repeat (first | refine blk_drewN ?_ _ | refine blk_drew ?_ | refine blk_alloc ?_ _)); exact BK256.out) hb); have n1_ := Aside0.mk (blk_below (g := gb257) (o := .cells #[.bool a2_0, .int .i64 a2_1, .int .i64 a2_2] 23 (0, 0)) (by (with_reducible repeat (first | refine blk_drewN ?_ _ | refine blk_drew ?_ | refine blk_alloc ?_ _)); exact BK257.out) hb); have n2_ := Aside0.mk (below_step (by repeat (first | (with_reducible first | exact HB.out | apply below_alloc | apply pw_below_drewN | apply below_drew1 | refine below_set ?_ GE256.out | refine below_set ?_ GE257.out) | exact HB.out)) hb); clear BK256; clear BK257; clear HB; have BK256 := n0_; have BK257 := n1_; have HB := n2_; clear n0_ n1_ n2_; (try clear hb); (try clear hb2); (try clear hk); (try clear hi)))
        go_meet
        case rel => exact ⟨_, (true), (by first | rfl | (simp; done) | (simp [*]; done)), H', ⟨by first | omega | exact Nat.le_refl _⟩, ⟨by (with_reducible repeat (first | refine blk_drewN ?_ _ | refine blk_drew ?_ | refine blk_alloc ?_ _)); exact BK256.out⟩, ⟨by (with_reducible repeat (first | refine blk_drewN ?_ _ | refine blk_drew ?_ | refine blk_alloc ?_ _)); exact BK257.out⟩, ⟨by repeat (first | (with_reducible first | exact HB.out | apply below_alloc | apply pw_below_drewN | apply below_drew1 | refine below_set ?_ GE256.out | refine below_set ?_ GE257.out) | exact HB.out)⟩⟩
  case rest =>
    clear HC5
    try clear c1
    try clear c2
    try clear p2
    try clear c7
    try clear c9
    try clear c9b0
    try clear c9b1
    try clear c10
    try clear c11
    try clear c13
    try clear c14
    try clear c14b0
    try clear c14b1
    try clear c16
    try clear c22
    try clear c28
    try clear hcz17_0
    try clear hcz17_1
    try clear hcz17_2
    try clear hcz19_0
    try clear hcz19_1
    try clear hcz19_2
    try clear hcz19_3
    try clear hcz19_4
    try clear hcz23_0
    try clear hcz23_1
    try clear hcz23_2
    try clear hcz25_0
    try clear hcz25_1
    try clear hcz25_2
    try clear hcz25_3
    try clear hcz25_4
    try clear hcz29_0
    try clear hcz29_1
    try clear hcz29_2
    try clear hfz17_0
    try clear hfz17_1
    try clear hfz17_2
    try clear hfz19_0
    try clear hfz19_1
    try clear hfz19_2
    try clear hfz19_3
    try clear hfz19_4
    try clear hfz23_0
    try clear hfz23_1
    try clear hfz23_2
    try clear hfz25_0
    try clear hfz25_1
    try clear hfz25_2
    try clear hfz25_3
    try clear hfz25_4
    try clear hfz29_0
    try clear hfz29_1
    try clear hfz29_2
    obtain ⟨kq, x37_4, rfl, HA, HJ4, BK256, BK257, HB⟩ := hcut
    cases kq with
    | zero => exact absurd HA.out (by simp [phaetonlaw07_FilterAny.j0])
    | succ kj4 =>
      have H := HA.out
      clear HA
      simp only [phaetonlaw07_FilterAny.j0] at H
      by_cases c32 : x37_4 = true
      · subst c32
        have H1 : (some t258) = some r := by rw [if_pos rfl] at H; exact H
        clear H
        have H := H1
        clear H1
        obtain rfl := Option.some.inj H
        go_wp2
        go_ret
        exact ⟨by first | rfl | (simp [errW_none, errW_some] <;> rfl) | (simp [*, errW_none, errW_some] <;> rfl), by repeat (first | (with_reducible first | exact HB.out | apply below_alloc | apply pw_below_drewN | apply below_drew1 | refine below_set ?_ GE256.out | refine below_set ?_ GE257.out) | exact HB.out)⟩
      · replace c32 := Bool.eq_false_iff.mpr c32
        subst c32
        have H1 : (phaetonlaw07_FilterAny.l0 kj4 l0 t258 ((l0.length : Int) == 0) false ([] : List (S23)) 0 a1_0 a1_1 a1_2 a1_3 l1_4 a2_0 a2_1 a2_2) = some r := by rw [if_neg (show ¬ (false = true) by decide)] at H; exact H
        clear H
        have H := H1
        clear H1
        have H' := Aside0.mk H
        clear H
        go_wp2
        go_loopg [8, 9, 10, 11] kj4 (fun kq v8 v9 v10 v11 w' => ∃ (x8_2 : Bool) (x9_2 : Bool) (x10_2 : List (S23)) (x11_2 : Int), v8 = .bool x8_2 ∧ v9 = .bool x9_2 ∧ v11 = .int .i64 x11_2 ∧ Aside0 (phaetonlaw07_FilterAny.l0 kq l0 t258 x8_2 x9_2 x10_2 x11_2 a1_0 a1_1 a1_2 a1_3 l1_4 a2_0 a2_1 a2_2 = some r) ∧ Aside0 (kq ≤ kj4) ∧ Aside0 (Kd.R k23 23 w' w.heap.size (fun k_ => k_ ≠ gb257) v10 x10_2) ∧ Aside0 (w'.heap[gb256]? = some (.cells #[.bool a1_0, .int .i64 a1_1, .bool a1_2, .int .i64 a1_3, (.slice A1_4 l1_4.length c1_4)] 27 (0, 0))) ∧ Aside0 (w'.heap[gb257]? = some (.cells #[.bool a2_0, .int .i64 a2_1, .int .i64 a2_2] 23 (0, 0))) ∧ Aside0 (Below w.heap.size w w'))
        case atStart => exact ⟨(((l0.length : Int) == 0)), (false), (([] : List (S23))), (0), (by first | rfl | (simp; done) | (simp [*]; done)), (by first | rfl | (simp; done) | (simp [*]; done)), (by first | rfl | (simp; done) | (simp [*]; done)), H', ⟨Nat.le_refl _⟩, ⟨by first | exact Kd.R_nil _ _ _ _ _ | exact Kd.N_nil _ _ _ _ _ | exact Kd.V_nil _ _ _ _ _ | exact Kd.Q_nil _ _ _ _ _ | exact Kd.S_nil _ _ _ _ _⟩, ⟨by (with_reducible repeat (first | refine blk_drewN ?_ _ | refine blk_drew ?_ | refine blk_alloc ?_ _)); exact BK256.out⟩, ⟨by (with_reducible repeat (first | refine blk_drewN ?_ _ | refine blk_drew ?_ | refine blk_alloc ?_ _)); exact BK257.out⟩, ⟨by repeat (first | (with_reducible first | exact HB.out | apply below_alloc | apply pw_below_drewN | apply below_drew1 | refine below_set ?_ GE256.out | refine below_set ?_ GE257.out) | exact HB.out)⟩⟩
        case round =>
          clear H'
          try clear c1
          try clear c2
          try clear p2
          try clear c3
          try clear c7
          try clear c9
          try clear c9b0
          try clear c9b1
          try clear c10
          try clear c11
          try clear c13
          try clear c14
          try clear c14b0
          try clear c14b1
          try clear c16
          try clear c22
          try clear c28
          try clear c32
          try clear hcz17_0
          try clear hcz17_1
          try clear hcz17_2
          try clear hcz19_0
          try clear hcz19_1
          try clear hcz19_2
          try clear hcz19_3
          try clear hcz19_4
          try clear hcz23_0
          try clear hcz23_1
          try clear hcz23_2
          try clear hcz25_0
          try clear hcz25_1
          try clear hcz25_2
          try clear hcz25_3
          try clear hcz25_4
          try clear hcz29_0
          try clear hcz29_1
          try clear hcz29_2
          try clear hfz17_0
          try clear hfz17_1
          try clear hfz17_2
          try clear hfz19_0
          try clear hfz19_1
          try clear hfz19_2
          try clear hfz19_3
          try clear hfz19_4
          try clear hfz23_0
          try clear hfz23_1
          try clear hfz23_2
          try clear hfz25_0
          try clear hfz25_1
          try clear hfz25_2
          try clear hfz25_3
          try clear hfz25_4
          try clear hfz29_0
          try clear hfz29_1
          try clear hfz29_2
          try clear p2
          obtain ⟨x8_2, x9_2, x10_2, x11_2, rfl, rfl, rfl, HA, HK2, HO_10, BK256, BK257, HB⟩ := hrel
          cases gk with
          | zero => exact absurd HA.out (by simp [phaetonlaw07_FilterAny.l0])
          | succ k2 =>
            have H := HA.out
            clear HA
            simp only [phaetonlaw07_FilterAny.l0] at H
            by_cases c33 : x11_2 < (l0.length : Int)
            · rw [if_pos c33] at H
              have c33b0 : decide (x11_2 < (l0.length : Int)) = true := decide_eq_true c33
              clear c33
              by_cases c34 : x8_2 = true
              · subst c34
                have H1 : (if x9_2 = true then (if 0 ≤ x11_2 then ((some (([(⟨(rd_T23 l0 x11_2).f0, (rd_T23 l0 x11_2).f1, (rd_T23 l0 x11_2).f2⟩ : S23)] : List (S23)) : List (S23))).bind fun y263 => (if y263.length + x10_2.length < 5864062014805 then (phaetonlaw07_FilterAny.l0 k2 l0 t258 true true (y263 ++ x10_2) (wrap64 (x11_2 + 1)) a1_0 a1_1 a1_2 a1_3 l1_4 a2_0 a2_1 a2_2) else (none))) else (none)) else (if 0 ≤ x11_2 then ((filter_Covers.f ((rd_T23 l0 x11_2).f0) ((rd_T23 l0 x11_2).f1) ((rd_T23 l0 x11_2).f2) a2_0 a2_1 a2_2).bind fun t270 => ((some (([(⟨(rd_T23 l0 x11_2).f0, (rd_T23 l0 x11_2).f1, (rd_T23 l0 x11_2).f2⟩ : S23)] : List (S23)) : List (S23))).bind fun y272 => (if y272.length + x10_2.length < 5864062014805 then (phaetonlaw07_FilterAny.l0 k2 l0 t258 true t270 (y272 ++ x10_2) (wrap64 (x11_2 + 1)) a1_0 a1_1 a1_2 a1_3 l1_4 a2_0 a2_1 a2_2) else (none)))) else (none))) = some r := by rw [if_pos rfl] at H; exact H
                clear H
                have H := H1
                clear H1
                by_cases c35 : x9_2 = true
                · subst c35
                  have H1 : (if 0 ≤ x11_2 then ((some (([(⟨(rd_T23 l0 x11_2).f0, (rd_T23 l0 x11_2).f1, (rd_T23 l0 x11_2).f2⟩ : S23)] : List (S23)) : List (S23))).bind fun y263 => (if y263.length + x10_2.length < 5864062014805 then (phaetonlaw07_FilterAny.l0 k2 l0 t258 true true (y263 ++ x10_2) (wrap64 (x11_2 + 1)) a1_0 a1_1 a1_2 a1_3 l1_4 a2_0 a2_1 a2_2) else (none))) else (none)) = some r := by rw [if_pos rfl] at H; exact H
                  clear H
                  have H := H1
                  clear H1
                  by_cases c36 : 0 ≤ x11_2
                  · rw [if_pos c36] at H
                    have c36b0 : decide (0 ≤ x11_2) = true := decide_eq_true c36
                    clear c36
                    obtain ⟨y263, hy263⟩ : ∃ y_ : List (S23), y_ = (([(⟨(rd_T23 l0 x11_2).f0, (rd_T23 l0 x11_2).f1, (rd_T23 l0 x11_2).f2⟩ : S23)] : List (S23))) := ⟨_, rfl⟩
                    replace H : (if y263.length + x10_2.length < 5864062014805 then (phaetonlaw07_FilterAny.l0 k2 l0 t258 true true (y263 ++ x10_2) (wrap64 (x11_2 + 1)) a1_0 a1_1 a1_2 a1_3 l1_4 a2_0 a2_1 a2_2) else (none)) = some r := by first | (rw [hy263]; with_reducible exact H) | (have H2_ := (Option.bind_some _ _).symm.trans H; rw [hy263]; with_reducible exact H2_) | (have H2_ := (Option.bind_some _ _).symm.trans H; with_reducible exact H2_) | with_reducible exact H | (rw [hy263]; exact H) | exact H
                    have Ny263 := Aside0.mk hy263
                    clear hy263
                    by_cases c37 : y263.length + x10_2.length < 5864062014805
                    · rw [if_pos c37] at H
                      have LMc37 := Aside0.mk c37
                      clear c37
                      obtain ⟨y266, hy266⟩ : ∃ y_ : List (S23), y_ = (y263 ++ x10_2) := ⟨_, rfl⟩
                      replace H : (phaetonlaw07_FilterAny.l0 k2 l0 t258 true true y266 (wrap64 (x11_2 + 1)) a1_0 a1_1 a1_2 a1_3 l1_4 a2_0 a2_1 a2_2) = some r := by first | (rw [hy266]; with_reducible exact H) | (have H2_ := (Option.bind_some _ _).symm.trans H; rw [hy266]; with_reducible exact H2_) | (have H2_ := (Option.bind_some _ _).symm.trans H; with_reducible exact H2_) | with_reducible exact H | (rw [hy266]; exact H) | exact H
                      have Ny266 := Aside0.mk hy266
                      clear hy266
                      have H' := Aside0.mk H
                      clear H
                      try go_wp2
                      have n0_ := Aside0.mk (Kd.R_drew HO_10.out)
                      have n1_ := Aside0.mk (blk_drew BK256.out)
                      have n2_ := Aside0.mk (blk_drew BK257.out)
                      have n3_ := Aside0.mk (below_drew1 HB.out)
                      clear HO_10
                      clear BK256
                      clear BK257
                      clear HB
                      have HO_10 := n0_
                      have BK256 := n1_
                      have BK257 := n2_
                      have HB := n3_
                      clear n0_ n1_ n2_ n3_
                      refine start_ (n := 10) (S := fun w' => True) (ds := []) #[false, false, false, false, false, false, false, false, false, false] (by kernel_rfl) rfl rfl trivial (fun hHeld => ?_); refine with_tabW phaetonlaw07_FilterAny.tab10 phaetonlaw07_FilterAny.bits10 (fun HT_ HW_ => ?_)
                      generalize wr.drew = w38 at HO_10 BK256 BK257 HB hHeld ⊢
                      refine pure_ (i := 0) (N := some 48) (v := ?_) (a' := ?_) #[true, false, false, false, false, false, false, false, false, false] rfl rfl (any_of HT_.out (by kernel_rfl)) (fun _ _ _ h => h) (Or.inl ⟨by rfl, ?_⟩) ?_ ?_
                      rotate_left
                      · intro w'
                        go_simp
                        with_reducible rfl
                      rotate_left
                      · simp only [Act.put, List.setIfInBounds_toArray, List.set_cons_zero, List.set_cons_succ, i64_w, i32_w]
                        rfl
                      refine pure_ (i := 1) (N := some 49) (v := ?_) (a' := ?_) #[true, true, false, false, false, false, false, false, false, false] rfl rfl (any_of HT_.out (by kernel_rfl)) (fun _ _ _ h => h) (Or.inl ⟨by rfl, ?_⟩) ?_ ?_
                      rotate_left
                      · intro w'
                        go_simp
                        with_reducible rfl
                      rotate_left
                      · simp only [Act.put, List.setIfInBounds_toArray, List.set_cons_zero, List.set_cons_succ, i64_w, i32_w]
                        rfl
                      refine pure_ (i := 2) (N := some 50) (v := undef) (a' := ?_) #[true, true, true, false, false, false, false, false, false, false] rfl rfl (any_of HT_.out (by kernel_rfl)) (fun _ _ _ h => h) (Or.inr ⟨by rfl, rfl⟩) ?_ ?_
                      rotate_left
                      · simp only [Act.put, List.setIfInBounds_toArray, List.set_cons_zero, List.set_cons_succ, i64_w, i32_w]
                        rfl
                      refine pure_ (i := 3) (N := some 51) (v := undef) (a' := ?_) #[true, true, true, true, false, false, false, false, false, false] rfl rfl (any_of HT_.out (by kernel_rfl)) (fun _ _ _ h => h) (Or.inr ⟨by rfl, rfl⟩) ?_ ?_
                      rotate_left
                      · simp only [Act.put, List.setIfInBounds_toArray, List.set_cons_zero, List.set_cons_succ, i64_w, i32_w]
                        rfl
                      refine pure_ (i := 4) (N := some 52) (v := undef) (a' := ?_) #[true, true, true, true, true, false, false, false, false, false] rfl rfl (any_of HT_.out (by kernel_rfl)) (fun _ _ _ h => h) (Or.inr ⟨by rfl, rfl⟩) ?_ ?_
                      rotate_left
                      · simp only [Act.put, List.setIfInBounds_toArray, List.set_cons_zero, List.set_cons_succ, i64_w, i32_w]
                        rfl
                      refine pure_ (i := 5) (N := some 53) (v := undef) (a' := ?_) #[true, true, true, true, true, true, false, false, false, false] rfl rfl (any_of HT_.out (by kernel_rfl)) (fun _ _ _ h => h) (Or.inr ⟨by rfl, rfl⟩) ?_ ?_
                      rotate_left
                      · simp only [Act.put, List.setIfInBounds_toArray, List.set_cons_zero, List.set_cons_succ, i64_w, i32_w]
                        rfl
                      refine pure_ (i := 6) (N := some 54) (v := undef) (a' := ?_) #[true, true, true, true, true, true, true, false, false, false] rfl rfl (any_of HT_.out (by kernel_rfl)) (fun _ _ _ h => h) (Or.inr ⟨by rfl, rfl⟩) ?_ ?_
                      rotate_left
                      · simp only [Act.put, List.setIfInBounds_toArray, List.set_cons_zero, List.set_cons_succ, i64_w, i32_w]
                        rfl
                      refine pure_ (i := 7) (N := some 55) (v := undef) (a' := ?_) #[true, true, true, true, true, true, true, true, false, false] rfl rfl (any_of HT_.out (by kernel_rfl)) (fun _ _ _ h => h) (Or.inr ⟨by rfl, rfl⟩) ?_ ?_
                      rotate_left
                      · simp only [Act.put, List.setIfInBounds_toArray, List.set_cons_zero, List.set_cons_succ, i64_w, i32_w]
                        rfl
                      refine pure_ (i := 8) (N := some 56) (v := ?_) (a' := ?_) #[true, true, true, true, true, true, true, true, true, false] rfl rfl (any_of HT_.out (by kernel_rfl)) (fun _ _ _ h => h) (Or.inl ⟨by rfl, ?_⟩) ?_ ?_
                      rotate_left
                      · intro w'
                        go_simp
                        with_reducible rfl
                      rotate_left
                      · simp only [Act.put, List.setIfInBounds_toArray, List.set_cons_zero, List.set_cons_succ, i64_w, i32_w]
                        rfl
                      refine pure_ (i := 9) (N := some 8) (v := ?_) (a' := ?_) #[true, true, true, true, true, true, true, true, true, true] rfl rfl (any_of HT_.out (by kernel_rfl)) (fun _ _ _ h => h) (Or.inl ⟨by rfl, ?_⟩) ?_ ?_
                      rotate_left
                      · intro w'
                        go_simp
                        with_reducible rfl
                      rotate_left
                      · simp only [Act.put, List.setIfInBounds_toArray, List.set_cons_zero, List.set_cons_succ, i64_w, i32_w]
                        rfl
                      refine done_ (done_of HT_.out (by kernel_rfl)) ?_
                      try go_wp2
                      have n0_ := Aside0.mk (Kd.R_drew HO_10.out)
                      have n1_ := Aside0.mk (blk_drew BK256.out)
                      have n2_ := Aside0.mk (blk_drew BK257.out)
                      have n3_ := Aside0.mk (below_drew1 HB.out)
                      clear HO_10
                      clear BK256
                      clear BK257
                      clear HB
                      have HO_10 := n0_
                      have BK256 := n1_
                      have BK257 := n2_
                      have HB := n3_
                      clear n0_ n1_ n2_ n3_
                      refine start_ (n := 10) (S := fun w' => True) (ds := []) #[false, false, false, false, false, false, false, false, false, false] (by kernel_rfl) rfl rfl trivial (fun hHeld => ?_); refine with_tabW phaetonlaw07_FilterAny.tab11 phaetonlaw07_FilterAny.bits11 (fun HT_ HW_ => ?_)
                      generalize w38.drew = w39 at HO_10 BK256 BK257 HB hHeld ⊢
                      refine pure_ (i := 0) (N := some 57) (v := ?_) (a' := ?_) #[true, false, false, false, false, false, false, false, false, false] rfl rfl (any_of HT_.out (by kernel_rfl)) (fun _ _ _ h => h) (Or.inl ⟨by rfl, ?_⟩) ?_ ?_
                      rotate_left
                      · intro w'
                        go_simp
                        with_reducible rfl
                      rotate_left
                      · simp only [Act.put, List.setIfInBounds_toArray, List.set_cons_zero, List.set_cons_succ, i64_w, i32_w]
                        rfl
                      refine pure_ (i := 1) (N := some 58) (v := ?_) (a' := ?_) #[true, true, false, false, false, false, false, false, false, false] rfl rfl (any_of HT_.out (by kernel_rfl)) (fun _ _ _ h => h) (Or.inl ⟨by rfl, ?_⟩) ?_ ?_
                      rotate_left
                      · intro w'
                        go_simp
                        with_reducible rfl
                      rotate_left
                      · simp only [Act.put, List.setIfInBounds_toArray, List.set_cons_zero, List.set_cons_succ, i64_w, i32_w]
                        rfl
                      refine pure_ (i := 2) (N := some 59) (v := undef) (a' := ?_) #[true, true, true, false, false, false, false, false, false, false] rfl rfl (any_of HT_.out (by kernel_rfl)) (fun _ _ _ h => h) (Or.inr ⟨by rfl, rfl⟩) ?_ ?_
                      rotate_left
                      · simp only [Act.put, List.setIfInBounds_toArray, List.set_cons_zero, List.set_cons_succ, i64_w, i32_w]
                        rfl
                      refine pure_ (i := 3) (N := some 60) (v := undef) (a' := ?_) #[true, true, true, true, false, false, false, false, false, false] rfl rfl (any_of HT_.out (by kernel_rfl)) (fun _ _ _ h => h) (Or.inr ⟨by rfl, rfl⟩) ?_ ?_
                      rotate_left
                      · simp only [Act.put, List.setIfInBounds_toArray, List.set_cons_zero, List.set_cons_succ, i64_w, i32_w]
                        rfl
                      refine pure_ (i := 4) (N := some 61) (v := undef) (a' := ?_) #[true, true, true, true, true, false, false, false, false, false] rfl rfl (any_of HT_.out (by kernel_rfl)) (fun _ _ _ h => h) (Or.inr ⟨by rfl, rfl⟩) ?_ ?_
                      rotate_left
                      · simp only [Act.put, List.setIfInBounds_toArray, List.set_cons_zero, List.set_cons_succ, i64_w, i32_w]
                        rfl
                      refine pure_ (i := 5) (N := some 62) (v := undef) (a' := ?_) #[true, true, true, true, true, true, false, false, false, false] rfl rfl (any_of HT_.out (by kernel_rfl)) (fun _ _ _ h => h) (Or.inr ⟨by rfl, rfl⟩) ?_ ?_
                      rotate_left
                      · simp only [Act.put, List.setIfInBounds_toArray, List.set_cons_zero, List.set_cons_succ, i64_w, i32_w]
                        rfl
                      refine pure_ (i := 6) (N := some 63) (v := undef) (a' := ?_) #[true, true, true, true, true, true, true, false, false, false] rfl rfl (any_of HT_.out (by kernel_rfl)) (fun _ _ _ h => h) (Or.inr ⟨by rfl, rfl⟩) ?_ ?_
                      rotate_left
                      · simp only [Act.put, List.setIfInBounds_toArray, List.set_cons_zero, List.set_cons_succ, i64_w, i32_w]
                        rfl
                      refine pure_ (i := 7) (N := some 64) (v := undef) (a' := ?_) #[true, true, true, true, true, true, true, true, false, false] rfl rfl (any_of HT_.out (by kernel_rfl)) (fun _ _ _ h => h) (Or.inr ⟨by rfl, rfl⟩) ?_ ?_
                      rotate_left
                      · simp only [Act.put, List.setIfInBounds_toArray, List.set_cons_zero, List.set_cons_succ, i64_w, i32_w]
                        rfl
                      refine pure_ (i := 8) (N := some 65) (v := ?_) (a' := ?_) #[true, true, true, true, true, true, true, true, true, false] rfl rfl (any_of HT_.out (by kernel_rfl)) (fun _ _ _ h => h) (Or.inl ⟨by rfl, ?_⟩) ?_ ?_
                      rotate_left
                      · intro w'
                        go_simp
                        with_reducible rfl
                      rotate_left
                      · simp only [Act.put, List.setIfInBounds_toArray, List.set_cons_zero, List.set_cons_succ, i64_w, i32_w]
                        rfl
                      refine pure_ (i := 9) (N := some 9) (v := ?_) (a' := ?_) #[true, true, true, true, true, true, true, true, true, true] rfl rfl (any_of HT_.out (by kernel_rfl)) (fun _ _ _ h => h) (Or.inl ⟨by rfl, ?_⟩) ?_ ?_
                      rotate_left
                      · intro w'
                        go_simp
                        with_reducible rfl
                      rotate_left
                      · simp only [Act.put, List.setIfInBounds_toArray, List.set_cons_zero, List.set_cons_succ, i64_w, i32_w]
                        rfl
                      refine done_ (done_of HT_.out (by kernel_rfl)) ?_
                      have p262 : 0 ≤ (x11_2 : Int) := of_decide_eq_true (by first | (with_reducible assumption) | assumption)
                      have q262 : x11_2 < (l0.length : Int) := of_decide_eq_true (by first | (with_reducible assumption) | assumption)
                      obtain ⟨ad262, e262, hx262_0, hx262_1, hx262_2⟩ := at_T23 HR0.out x11_2 p262 q262
                      cases e262
                      replace hx262_0 := (HB.out.cell (World.block_lt_of_cell? w _ hx262_0)).trans hx262_0
                      replace hx262_1 := (HB.out.cell (World.block_lt_of_cell? w _ hx262_1)).trans hx262_1
                      replace hx262_2 := (HB.out.cell (World.block_lt_of_cell? w _ hx262_2)).trans hx262_2
                      replace p262 := eq_true p262
                      replace q262 := eq_true q262
                      try go_wp2_with (first | ((with_reducible refine gate_dst (N := 70) rfl ?_); (try (refine gate_guard (by rfl) ?_; dsimp only)); refine Kd.R_lit k23 _ 23 ?hg (N := 70) ?hd (xs := ([(⟨(rd_T23 l0 x11_2).f0, (rd_T23 l0 x11_2).f1, (rd_T23 l0 x11_2).f2⟩ : S23)] : List (S23))) (inner := [.bool ((rd_T23 l0 x11_2).f0), .int .i64 ((rd_T23 l0 x11_2).f1), .int .i64 ((rd_T23 l0 x11_2).f2)]) (ok := fun _ => True) (okp := fun _ => True) ?hr ?hp (fun _ hk => hk) trivial (Below.refl _ _) (Nat.le_refl _) (by simp) ?_; (case hd => rfl); (case hg => rfl); (case hr => first | (go_simp; done) | (go_simp; rfl)); (case hp => exact (Reps.c3 (show Kd.M k23 _ _ _ (⟨(rd_T23 l0 x11_2).f0, (rd_T23 l0 x11_2).f1, (rd_T23 l0 x11_2).f2⟩ : S23) [.bool ((rd_T23 l0 x11_2).f0), .int .i64 ((rd_T23 l0 x11_2).f1), .int .i64 ((rd_T23 l0 x11_2).f2)] from (k23_mkM _ _ _ (⟨(rd_T23 l0 x11_2).f0, (rd_T23 l0 x11_2).f1, (rd_T23 l0 x11_2).f2⟩ : S23) )) (Reps.none _ _))); intro v264 w40 ho41 hb hg_ hnew_; clear hg_ hnew_; (first | rw [← Ny263.out] at ho41 | (simp only [Int.reduceToNat] at ho41; rw [← Ny263.out] at ho41)); have n0_ := Aside0.mk (Kd.R_elder' (by (with_reducible repeat (first | apply Kd.R_alloc | apply Kd.R_drewN | apply Kd.R_drew)); exact HO_10.out) (Kd.R_base ho41) hb); have n1_ := Aside0.mk (Kd.R_lower (Kd.R_newB (Kd.R_new' ho41 (Kd.R_lt (by (with_reducible repeat (first | apply Kd.R_alloc | apply Kd.R_drewN | apply Kd.R_drew)); exact HO_10.out))) (g := gb257) (o := .cells #[.bool a2_0, .int .i64 a2_1, .int .i64 a2_2] 23 (0, 0)) (by (with_reducible repeat (first | refine blk_drewN ?_ _ | refine blk_drew ?_ | refine blk_alloc ?_ _)); exact BK257.out)) (below_size (by repeat (first | (with_reducible first | exact HB.out | apply below_alloc | apply pw_below_drewN | apply below_drew1 | refine below_set ?_ GE256.out | refine below_set ?_ GE257.out) | exact HB.out)))); have n2_ := Aside0.mk (blk_below (g := gb256) (o := .cells #[.bool a1_0, .int .i64 a1_1, .bool a1_2, .int .i64 a1_3, .slice A1_4 l1_4.length c1_4] 27 (0, 0)) (by (with_reducible repeat (first | refine blk_drewN ?_ _ | refine blk_drew ?_ | refine blk_alloc ?_ _)); exact BK256.out) hb); have n3_ := Aside0.mk (blk_below (g := gb257) (o := .cells #[.bool a2_0, .int .i64 a2_1, .int .i64 a2_2] 23 (0, 0)) (by (with_reducible repeat (first | refine blk_drewN ?_ _ | refine blk_drew ?_ | refine blk_alloc ?_ _)); exact BK257.out) hb); have n4_ := Aside0.mk (below_step (by repeat (first | (with_reducible first | exact HB.out | apply below_alloc | apply pw_below_drewN | apply below_drew1 | refine below_set ?_ GE256.out | refine below_set ?_ GE257.out) | exact HB.out)) hb); clear HO_10; clear BK256; clear BK257; clear HB; have HO_10 := n0_; have HO265 := n1_; have BK256 := n2_; have BK257 := n3_; have HB := n4_; clear n0_ n1_ n2_ n3_ n4_; clear hb ho41; obtain ⟨Ao43, co43, eo43⟩ := Kd.R_slice HO_10.out; subst eo43) | ((with_reducible refine gate_builtin (b := .append) (xs := #[.tmp 70, .tmp 71]) rfl ?_); (try (refine gate_guard (by rfl) ?_; dsimp only)); at_builtin; refine Kd.R_append_rows k23 (w0 := w) w.heap.size rfl (.tmp 70) (.tmp 71) 24 23 (.agg #[(.bool false), (.int .i64 0), (.int .i64 0)]) 24 rfl Try.underlying24 info23 rfl (by decide) (by omega) v264 y263 x10_2 _ _ _ (fun k_ => some k_ ≠ (.slice Ao43 x10_2.length co43 : Value).ownBlock ∧ k_ ≠ gb257) (fun _ => False) rfl rfl ?aO ?aR (fun _ _ h => h) (fun _ h => h.elim) ?aF ?aB ?aS ?aL ?_; (case aR => repeat (first | exact (Kd.R_reads' HO_10.out).2.2 | (with_reducible refine Kd.C_alloc ?_ _) | (with_reducible refine Kd.C_drewN ?_ _) | (with_reducible refine Kd.C_drew ?_))); (case aB => exact (by repeat (first | (with_reducible first | exact HB.out | apply below_alloc | apply pw_below_drewN | apply below_drew1 | refine below_set ?_ GE256.out | refine below_set ?_ GE257.out) | exact HB.out))); (case aF => exact (fun k_ hk => ⟨Kd.fresh' (Kd.R_lt (by (with_reducible repeat (first | apply Kd.R_alloc | apply Kd.R_drewN | apply Kd.R_drew)); exact HO_10.out)) k_ hk, Kd.freshB (g := gb257) (o := .cells #[.bool a2_0, .int .i64 a2_1, .int .i64 a2_2] 23 (0, 0)) (by (with_reducible repeat (first | refine blk_drewN ?_ _ | refine blk_drew ?_ | refine blk_alloc ?_ _)); exact BK257.out) k_ hk⟩)); (case aO => exact (by (with_reducible repeat (first | apply Kd.R_alloc | apply Kd.R_drewN | apply Kd.R_drew)); exact Kd.R_mono HO265.out (fun _ hk => ⟨hk.1.2, hk.2⟩))); (case aS => exact (below_size (by repeat (first | (with_reducible first | exact HB.out | apply below_alloc | apply pw_below_drewN | apply below_drew1 | refine below_set ?_ GE256.out | refine below_set ?_ GE257.out) | exact HB.out)))); (case aL => have := LMc37.out; omega); intro v267 w42 ho hb hg hat; rw [← Ny266.out] at ho; have n0_ := Aside0.mk (Kd.R_after (ok := (fun k_ => k_ ≠ gb257)) (by (with_reducible repeat (first | apply Kd.R_alloc | apply Kd.R_drewN | apply Kd.R_drew)); exact HO_10.out) hg hat); have n1_ := Aside0.mk (blk_grown (g := gb256) (o := .cells #[.bool a1_0, .int .i64 a1_1, .bool a1_2, .int .i64 a1_3, .slice A1_4 l1_4.length c1_4] 27 (0, 0)) (by (with_reducible repeat (first | refine blk_drewN ?_ _ | refine blk_drew ?_ | refine blk_alloc ?_ _)); exact BK256.out) hg (Kd.R_ne HO265.out BK256.out (by decide))); have n2_ := Aside0.mk (blk_grown (g := gb257) (o := .cells #[.bool a2_0, .int .i64 a2_1, .int .i64 a2_2] 23 (0, 0)) (by (with_reducible repeat (first | refine blk_drewN ?_ _ | refine blk_drew ?_ | refine blk_alloc ?_ _)); exact BK257.out) hg (Kd.R_away HO265.out (fun _ hk => hk.2))); have n3_ := Aside0.mk (hb); have n4_ := Aside0.mk (ho); clear HO_10; clear BK256; clear BK257; clear HB; clear HO265; have HO_10 := n0_; have BK256 := n1_; have BK257 := n2_; have HB := n3_; have HO268 := n4_; clear n0_ n1_ n2_ n3_ n4_; clear ho hb hg hat))
                      go_roundg k2
                      case measure => have := HJ4.out; have := HK2.out; omega
                      case rel => exact ⟨(true), (true), (y266), (wrap64 (x11_2 + 1)), (by first | rfl | (simp; done) | (simp [*]; done)), (by first | rfl | (simp; done) | (simp [*]; done)), (by first | rfl | (simp; done) | (simp [*]; done)), H', ⟨by have := HJ4.out; have := HK2.out; omega⟩, ⟨by (with_reducible repeat (first | apply Kd.R_alloc | apply Kd.R_drewN | apply Kd.R_drew)); exact Kd.R_mono HO268.out (fun _ hk => hk.2)⟩, ⟨by (with_reducible repeat (first | refine blk_drewN ?_ _ | refine blk_drew ?_ | refine blk_alloc ?_ _)); exact BK256.out⟩, ⟨by (with_reducible repeat (first | refine blk_drewN ?_ _ | refine blk_drew ?_ | refine blk_alloc ?_ _)); exact BK257.out⟩, ⟨by repeat (first | (with_reducible first | exact HB.out | apply below_alloc | apply pw_below_drewN | apply below_drew1 | refine below_set ?_ GE256.out | refine below_set ?_ GE257.out) | exact HB.out)⟩⟩
                    · rw [if_neg c37] at H
                      exact absurd H (by simp)
                  · rw [if_neg c36] at H
                    exact absurd H (by simp)
                · replace c35 := Bool.eq_false_iff.mpr c35
                  subst c35
                  have H1 : (if 0 ≤ x11_2 then ((filter_Covers.f ((rd_T23 l0 x11_2).f0) ((rd_T23 l0 x11_2).f1) ((rd_T23 l0 x11_2).f2) a2_0 a2_1 a2_2).bind fun t270 => ((some (([(⟨(rd_T23 l0 x11_2).f0, (rd_T23 l0 x11_2).f1, (rd_T23 l0 x11_2).f2⟩ : S23)] : List (S23)) : List (S23))).bind fun y272 => (if y272.length + x10_2.length < 5864062014805 then (phaetonlaw07_FilterAny.l0 k2 l0 t258 true t270 (y272 ++ x10_2) (wrap64 (x11_2 + 1)) a1_0 a1_1 a1_2 a1_3 l1_4 a2_0 a2_1 a2_2) else (none)))) else (none)) = some r := by rw [if_neg (show ¬ (false = true) by decide)] at H; exact H
                  clear H
                  have H := H1
                  clear H1
                  by_cases c44 : 0 ≤ x11_2
                  · rw [if_pos c44] at H
                    have c44b0 : decide (0 ≤ x11_2) = true := decide_eq_true c44
                    clear c44
                    replace H := Option.bind_eq_some_iff.mp H
                    obtain ⟨t270, A450, H⟩ := H
                    replace H : ((some (([(⟨(rd_T23 l0 x11_2).f0, (rd_T23 l0 x11_2).f1, (rd_T23 l0 x11_2).f2⟩ : S23)] : List (S23)) : List (S23))).bind fun y272 => (if y272.length + x10_2.length < 5864062014805 then (phaetonlaw07_FilterAny.l0 k2 l0 t258 true t270 (y272 ++ x10_2) (wrap64 (x11_2 + 1)) a1_0 a1_1 a1_2 a1_3 l1_4 a2_0 a2_1 a2_2) else (none))) = some r := H
                    have A45 := Aside0.mk A450
                    clear A450
                    obtain ⟨y272, hy272⟩ : ∃ y_ : List (S23), y_ = (([(⟨(rd_T23 l0 x11_2).f0, (rd_T23 l0 x11_2).f1, (rd_T23 l0 x11_2).f2⟩ : S23)] : List (S23))) := ⟨_, rfl⟩
                    replace H : (if y272.length + x10_2.length < 5864062014805 then (phaetonlaw07_FilterAny.l0 k2 l0 t258 true t270 (y272 ++ x10_2) (wrap64 (x11_2 + 1)) a1_0 a1_1 a1_2 a1_3 l1_4 a2_0 a2_1 a2_2) else (none)) = some r := by first | (rw [hy272]; with_reducible exact H) | (have H2_ := (Option.bind_some _ _).symm.trans H; rw [hy272]; with_reducible exact H2_) | (have H2_ := (Option.bind_some _ _).symm.trans H; with_reducible exact H2_) | with_reducible exact H | (rw [hy272]; exact H) | exact H
                    have Ny272 := Aside0.mk hy272
                    clear hy272
                    by_cases c46 : y272.length + x10_2.length < 5864062014805
                    · rw [if_pos c46] at H
                      have LMc46 := Aside0.mk c46
                      clear c46
                      obtain ⟨y275, hy275⟩ : ∃ y_ : List (S23), y_ = (y272 ++ x10_2) := ⟨_, rfl⟩
                      replace H : (phaetonlaw07_FilterAny.l0 k2 l0 t258 true t270 y275 (wrap64 (x11_2 + 1)) a1_0 a1_1 a1_2 a1_3 l1_4 a2_0 a2_1 a2_2) = some r := by first | (rw [hy275]; with_reducible exact H) | (have H2_ := (Option.bind_some _ _).symm.trans H; rw [hy275]; with_reducible exact H2_) | (have H2_ := (Option.bind_some _ _).symm.trans H; with_reducible exact H2_) | with_reducible exact H | (rw [hy275]; exact H) | exact H
                      have Ny275 := Aside0.mk hy275
                      clear hy275
                      have H' := Aside0.mk H
                      clear H
                      try go_wp2
                      have n0_ := Aside0.mk (Kd.R_drew HO_10.out)
                      have n1_ := Aside0.mk (blk_drew BK256.out)
                      have n2_ := Aside0.mk (blk_drew BK257.out)
                      have n3_ := Aside0.mk (below_drew1 HB.out)
                      clear HO_10
                      clear BK256
                      clear BK257
                      clear HB
                      have HO_10 := n0_
                      have BK256 := n1_
                      have BK257 := n2_
                      have HB := n3_
                      clear n0_ n1_ n2_ n3_
                      refine start_ (n := 10) (S := fun w' => True) (ds := []) #[false, false, false, false, false, false, false, false, false, false] (by kernel_rfl) rfl rfl trivial (fun hHeld => ?_); refine with_tabW phaetonlaw07_FilterAny.tab10 phaetonlaw07_FilterAny.bits10 (fun HT_ HW_ => ?_)
                      generalize wr.drew = w47 at HO_10 BK256 BK257 HB hHeld ⊢
                      refine pure_ (i := 0) (N := some 48) (v := ?_) (a' := ?_) #[true, false, false, false, false, false, false, false, false, false] rfl rfl (any_of HT_.out (by kernel_rfl)) (fun _ _ _ h => h) (Or.inl ⟨by rfl, ?_⟩) ?_ ?_
                      rotate_left
                      · intro w'
                        go_simp
                        with_reducible rfl
                      rotate_left
                      · simp only [Act.put, List.setIfInBounds_toArray, List.set_cons_zero, List.set_cons_succ, i64_w, i32_w]
                        rfl
                      refine pure_ (i := 1) (N := some 49) (v := ?_) (a' := ?_) #[true, true, false, false, false, false, false, false, false, false] rfl rfl (any_of HT_.out (by kernel_rfl)) (fun _ _ _ h => h) (Or.inl ⟨by rfl, ?_⟩) ?_ ?_
                      rotate_left
                      · intro w'
                        go_simp
                        with_reducible rfl
                      rotate_left
                      · simp only [Act.put, List.setIfInBounds_toArray, List.set_cons_zero, List.set_cons_succ, i64_w, i32_w]
                        rfl
                      refine pure_ (i := 2) (N := some 50) (v := undef) (a' := ?_) #[true, true, true, false, false, false, false, false, false, false] rfl rfl (any_of HT_.out (by kernel_rfl)) (fun _ _ _ h => h) (Or.inr ⟨by rfl, rfl⟩) ?_ ?_
                      rotate_left
                      · simp only [Act.put, List.setIfInBounds_toArray, List.set_cons_zero, List.set_cons_succ, i64_w, i32_w]
                        rfl
                      refine pure_ (i := 3) (N := some 51) (v := undef) (a' := ?_) #[true, true, true, true, false, false, false, false, false, false] rfl rfl (any_of HT_.out (by kernel_rfl)) (fun _ _ _ h => h) (Or.inr ⟨by rfl, rfl⟩) ?_ ?_
                      rotate_left
                      · simp only [Act.put, List.setIfInBounds_toArray, List.set_cons_zero, List.set_cons_succ, i64_w, i32_w]
                        rfl
                      refine pure_ (i := 4) (N := some 52) (v := undef) (a' := ?_) #[true, true, true, true, true, false, false, false, false, false] rfl rfl (any_of HT_.out (by kernel_rfl)) (fun _ _ _ h => h) (Or.inr ⟨by rfl, rfl⟩) ?_ ?_
                      rotate_left
                      · simp only [Act.put, List.setIfInBounds_toArray, List.set_cons_zero, List.set_cons_succ, i64_w, i32_w]
                        rfl
                      refine pure_ (i := 5) (N := some 53) (v := undef) (a' := ?_) #[true, true, true, true, true, true, false, false, false, false] rfl rfl (any_of HT_.out (by kernel_rfl)) (fun _ _ _ h => h) (Or.inr ⟨by rfl, rfl⟩) ?_ ?_
                      rotate_left
                      · simp only [Act.put, List.setIfInBounds_toArray, List.set_cons_zero, List.set_cons_succ, i64_w, i32_w]
                        rfl
                      refine pure_ (i := 6) (N := some 54) (v := undef) (a' := ?_) #[true, true, true, true, true, true, true, false, false, false] rfl rfl (any_of HT_.out (by kernel_rfl)) (fun _ _ _ h => h) (Or.inr ⟨by rfl, rfl⟩) ?_ ?_
                      rotate_left
                      · simp only [Act.put, List.setIfInBounds_toArray, List.set_cons_zero, List.set_cons_succ, i64_w, i32_w]
                        rfl
                      refine pure_ (i := 7) (N := some 55) (v := undef) (a' := ?_) #[true, true, true, true, true, true, true, true, false, false] rfl rfl (any_of HT_.out (by kernel_rfl)) (fun _ _ _ h => h) (Or.inr ⟨by rfl, rfl⟩) ?_ ?_
                      rotate_left
                      · simp only [Act.put, List.setIfInBounds_toArray, List.set_cons_zero, List.set_cons_succ, i64_w, i32_w]
                        rfl
                      refine pure_ (i := 8) (N := some 56) (v := ?_) (a' := ?_) #[true, true, true, true, true, true, true, true, true, false] rfl rfl (any_of HT_.out (by kernel_rfl)) (fun _ _ _ h => h) (Or.inl ⟨by rfl, ?_⟩) ?_ ?_
                      rotate_left
                      · intro w'
                        go_simp
                        with_reducible rfl
                      rotate_left
                      · simp only [Act.put, List.setIfInBounds_toArray, List.set_cons_zero, List.set_cons_succ, i64_w, i32_w]
                        rfl
                      refine pure_ (i := 9) (N := some 8) (v := ?_) (a' := ?_) #[true, true, true, true, true, true, true, true, true, true] rfl rfl (any_of HT_.out (by kernel_rfl)) (fun _ _ _ h => h) (Or.inl ⟨by rfl, ?_⟩) ?_ ?_
                      rotate_left
                      · intro w'
                        go_simp
                        with_reducible rfl
                      rotate_left
                      · simp only [Act.put, List.setIfInBounds_toArray, List.set_cons_zero, List.set_cons_succ, i64_w, i32_w]
                        rfl
                      refine done_ (done_of HT_.out (by kernel_rfl)) ?_
                      try go_wp2
                      have n0_ := Aside0.mk (Kd.R_drew HO_10.out)
                      have n1_ := Aside0.mk (blk_drew BK256.out)
                      have n2_ := Aside0.mk (blk_drew BK257.out)
                      have n3_ := Aside0.mk (below_drew1 HB.out)
                      clear HO_10
                      clear BK256
                      clear BK257
                      clear HB
                      have HO_10 := n0_
                      have BK256 := n1_
                      have BK257 := n2_
                      have HB := n3_
                      clear n0_ n1_ n2_ n3_
                      have p269 : 0 ≤ (x11_2 : Int) := of_decide_eq_true (by first | (with_reducible assumption) | assumption)
                      have q269 : x11_2 < (l0.length : Int) := of_decide_eq_true (by first | (with_reducible assumption) | assumption)
                      obtain ⟨ad269, e269, hx269_0, hx269_1, hx269_2⟩ := at_T23 HR0.out x11_2 p269 q269
                      have hw269_2 := hx269_2
                      have hw269_1 := hx269_1
                      have hw269_0 := hx269_0
                      cases e269
                      replace hx269_0 := (HB.out.cell (World.block_lt_of_cell? w _ hx269_0)).trans hx269_0
                      replace hx269_1 := (HB.out.cell (World.block_lt_of_cell? w _ hx269_1)).trans hx269_1
                      replace hx269_2 := (HB.out.cell (World.block_lt_of_cell? w _ hx269_2)).trans hx269_2
                      replace p269 := eq_true p269
                      replace q269 := eq_true q269
                      refine start_ (n := 10) (S := fun w' => w'.cell? ⟨gb257, 0, none⟩ = some (.bool a2_0) ∧ w'.cell? ⟨gb257, 1, none⟩ = some (.int .i64 a2_1) ∧ w'.cell? ⟨gb257, 2, none⟩ = some (.int .i64 a2_2) ∧ w'.cell? (ad269.add ((x11_2).toNat * 3)) = some (.bool ((rd_T23 l0 x11_2).f0)) ∧ w'.cell? ⟨(ad269.add ((x11_2).toNat * 3)).block, (ad269.add ((x11_2).toNat * 3)).off + 1, none⟩ = some (.int .i64 ((rd_T23 l0 x11_2).f1)) ∧ w'.cell? ⟨(ad269.add ((x11_2).toNat * 3)).block, (ad269.add ((x11_2).toNat * 3)).off + 2, none⟩ = some (.int .i64 ((rd_T23 l0 x11_2).f2))) (ds := []) #[false, false, false, false, false, false, false, false, false, false] (by kernel_rfl) rfl rfl ⟨(blk_cell BK257.out 0).trans rfl, (blk_cell BK257.out 1).trans rfl, (blk_cell BK257.out 2).trans rfl, ((HB.out.cell (World.block_lt_of_cell? w _ hw269_0)).trans hw269_0), ((HB.out.cell (World.block_lt_of_cell? w _ hw269_1)).trans hw269_1), ((HB.out.cell (World.block_lt_of_cell? w _ hw269_2)).trans hw269_2)⟩ (fun hHeld => ?_); refine with_tabW phaetonlaw07_FilterAny.tab11 phaetonlaw07_FilterAny.bits11 (fun HT_ HW_ => ?_)
                      generalize w47.drew = w48 at HO_10 BK256 BK257 HB hx269_0 hx269_1 hx269_2 hHeld ⊢
                      refine pure_ (i := 0) (N := some 57) (v := ?_) (a' := ?_) #[true, false, false, false, false, false, false, false, false, false] rfl rfl (any_of HT_.out (by kernel_rfl)) (fun _ _ _ h => h) (Or.inl ⟨by rfl, ?_⟩) ?_ ?_
                      rotate_left
                      · intro w'
                        go_simp
                        with_reducible rfl
                      rotate_left
                      · simp only [Act.put, List.setIfInBounds_toArray, List.set_cons_zero, List.set_cons_succ, i64_w, i32_w]
                        rfl
                      refine pure_ (i := 1) (N := some 58) (v := ?_) (a' := ?_) #[true, true, false, false, false, false, false, false, false, false] rfl rfl (any_of HT_.out (by kernel_rfl)) (fun _ _ _ h => h) (Or.inl ⟨by rfl, ?_⟩) ?_ ?_
                      rotate_left
                      · intro w'
                        go_simp
                        with_reducible rfl
                      rotate_left
                      · simp only [Act.put, List.setIfInBounds_toArray, List.set_cons_zero, List.set_cons_succ, i64_w, i32_w]
                        rfl
                      refine pure_ (i := 2) (N := some 59) (v := ?_) (a' := ?_) #[true, true, true, false, false, false, false, false, false, false] rfl rfl (any_of HT_.out (by kernel_rfl)) (fun _ _ _ h => h) (Or.inl ⟨by rfl, ?_⟩) ?_ ?_
                      rotate_left
                      · intro w'
                        go_simp
                        with_reducible rfl
                      rotate_left
                      · simp only [Act.put, List.setIfInBounds_toArray, List.set_cons_zero, List.set_cons_succ, i64_w, i32_w]
                        rfl
                      refine pure_ (i := 3) (N := some 60) (v := ?_) (a' := ?_) #[true, true, true, true, false, false, false, false, false, false] rfl rfl (any_of HT_.out (by kernel_rfl)) (fun _ _ _ h => h) (Or.inl ⟨by rfl, ?_⟩) ?_ ?_
                      rotate_left
                      · intro w'
                        go_simp
                        with_reducible rfl
                      rotate_left
                      · simp only [Act.put, List.setIfInBounds_toArray, List.set_cons_zero, List.set_cons_succ, i64_w, i32_w]
                        rfl
                      refine pure_ (i := 4) (N := some 61) (v := ?_) (a' := ?_) #[true, true, true, true, true, false, false, false, false, false] rfl rfl (any_of HT_.out (by kernel_rfl)) (fun _ _ _ h => h) (Or.inl ⟨by rfl, ?_⟩) ?_ ?_
                      rotate_left
                      · intro w'
                        go_simp
                        with_reducible rfl
                      rotate_left
                      · simp only [Act.put, List.setIfInBounds_toArray, List.set_cons_zero, List.set_cons_succ, i64_w, i32_w]
                        rfl
                      refine take_ (i := 5) (N := some 62) (v := ?_) (a' := ?_) #[true, true, true, true, true, true, false, false, false, false] rfl rfl (take_ofW HT_.out HW_.out (by kernel_rfl)) (fun _ _ _ h => h) (Or.inl ⟨by rfl, ?_⟩) hHeld ?_ ?_
                      rotate_left
                      · rintro w' ⟨s0, s1, s2, s3, s4, s5⟩
                        go_simp
                        with_reducible rfl
                      rotate_left
                      · simp only [Act.put, List.setIfInBounds_toArray, List.set_cons_zero, List.set_cons_succ, i64_w, i32_w]
                        rfl
                      refine take_ (i := 6) (N := some 63) (v := ?_) (a' := ?_) #[true, true, true, true, true, true, true, false, false, false] rfl rfl (take_ofW HT_.out HW_.out (by kernel_rfl)) (fun _ _ _ h => h) (Or.inl ⟨by rfl, ?_⟩) hHeld ?_ ?_
                      rotate_left
                      · rintro w' ⟨s0, s1, s2, s3, s4, s5⟩
                        go_simp
                        with_reducible rfl
                      rotate_left
                      · simp only [Act.put, List.setIfInBounds_toArray, List.set_cons_zero, List.set_cons_succ, i64_w, i32_w]
                        rfl
                      refine one_ (i := 7) (N := some 64) #[true, true, true, true, true, true, true, true, false, false] rfl rfl (one_of HT_.out (by kernel_rfl)) (by decide) (fun K hK => ?_)
                      refine goes_ Try.func19 (by kernel_rfl) rfl #[.agg #[.bool ((rd_T23 l0 x11_2).f0), .int .i64 ((rd_T23 l0 x11_2).f1), .int .i64 ((rd_T23 l0 x11_2).f2)], .agg #[.bool a2_0, .int .i64 a2_1, .int .i64 a2_2]] (by rfl) rfl rfl (by (try simp only [List.map_toArray, List.map_cons, List.map_nil]); first | done | rfl | (simp only [List.length_drop, List.length_take]; rfl)) ?_
                      with_reducible refine (filter_Covers.calls ((rd_T23 l0 x11_2).f0) ((rd_T23 l0 x11_2).f1) ((rd_T23 l0 x11_2).f2) a2_0 a2_1 a2_2 t270 _ A45.out).mono ?_
                      rintro e w49 ⟨rfl, hb⟩
                      refine ⟨_, rfl, ?_⟩
                      have n0_ := Aside0.mk (Kd.R_below (by (with_reducible repeat (first | apply Kd.R_alloc | apply Kd.R_drewN | apply Kd.R_drew)); exact HO_10.out) hb)
                      have n1_ := Aside0.mk (blk_below (g := gb256) (o := .cells #[.bool a1_0, .int .i64 a1_1, .bool a1_2, .int .i64 a1_3, .slice A1_4 l1_4.length c1_4] 27 (0, 0)) (by (with_reducible repeat (first | refine blk_drewN ?_ _ | refine blk_drew ?_ | refine blk_alloc ?_ _)); exact BK256.out) hb)
                      have n2_ := Aside0.mk (blk_below (g := gb257) (o := .cells #[.bool a2_0, .int .i64 a2_1, .int .i64 a2_2] 23 (0, 0)) (by (with_reducible repeat (first | refine blk_drewN ?_ _ | refine blk_drew ?_ | refine blk_alloc ?_ _)); exact BK257.out) hb)
                      have n3_ := Aside0.mk (below_step (by repeat (first | (with_reducible first | exact HB.out | apply below_alloc | apply pw_below_drewN | apply below_drew1 | refine below_set ?_ GE256.out | refine below_set ?_ GE257.out) | exact HB.out)) hb)
                      clear HO_10
                      clear BK256
                      clear BK257
                      clear HB
                      have HO_10 := n0_
                      have BK256 := n1_
                      have BK257 := n2_
                      have HB := n3_
                      clear n0_ n1_ n2_ n3_
                      (try clear hb)
                      (try clear hb2)
                      (try clear hk)
                      (try clear hi)
                      refine hK.out _ _ ⟨(blk_cell BK257.out 0).trans rfl, (blk_cell BK257.out 1).trans rfl, (blk_cell BK257.out 2).trans rfl, ((HB.out.cell (World.block_lt_of_cell? w _ hw269_0)).trans hw269_0), ((HB.out.cell (World.block_lt_of_cell? w _ hw269_1)).trans hw269_1), ((HB.out.cell (World.block_lt_of_cell? w _ hw269_2)).trans hw269_2)⟩ (fun hHeld => ?_)
                      clear hK K
                      refine norm_ (a' := ?_) ?_ ?_
                      rotate_left
                      · show Act.put _ (some 64) _ = _
                        simp only [Act.put, List.setIfInBounds_toArray, List.set_cons_zero, List.set_cons_succ, i64_w, i32_w]
                        rfl
                      refine pure_ (i := 8) (N := some 65) (v := ?_) (a' := ?_) #[true, true, true, true, true, true, true, true, true, false] rfl rfl (any_of HT_.out (by kernel_rfl)) (fun _ _ _ h => h) (Or.inl ⟨by rfl, ?_⟩) ?_ ?_
                      rotate_left
                      · intro w'
                        go_simp
                        with_reducible rfl
                      rotate_left
                      · simp only [Act.put, List.setIfInBounds_toArray, List.set_cons_zero, List.set_cons_succ, i64_w, i32_w]
                        rfl
                      refine pure_ (i := 9) (N := some 9) (v := ?_) (a' := ?_) #[true, true, true, true, true, true, true, true, true, true] rfl rfl (any_of HT_.out (by kernel_rfl)) (fun _ _ _ h => h) (Or.inl ⟨by rfl, ?_⟩) ?_ ?_
                      rotate_left
                      · intro w'
                        go_simp
                        with_reducible rfl
                      rotate_left
                      · simp only [Act.put, List.setIfInBounds_toArray, List.set_cons_zero, List.set_cons_succ, i64_w, i32_w]
                        rfl
                      refine done_ (done_of HT_.out (by kernel_rfl)) ?_
                      have p271 : 0 ≤ (x11_2 : Int) := of_decide_eq_true (by first | (with_reducible assumption) | assumption)
                      have q271 : x11_2 < (l0.length : Int) := of_decide_eq_true (by first | (with_reducible assumption) | assumption)
                      obtain ⟨ad271, e271, hx271_0, hx271_1, hx271_2⟩ := at_T23 HR0.out x11_2 p271 q271
                      obtain rfl : ad269 = ad271 := (by injection e271)
                      replace hx271_0 := (HB.out.cell (World.block_lt_of_cell? w _ hx271_0)).trans hx271_0
                      replace hx271_1 := (HB.out.cell (World.block_lt_of_cell? w _ hx271_1)).trans hx271_1
                      replace hx271_2 := (HB.out.cell (World.block_lt_of_cell? w _ hx271_2)).trans hx271_2
                      replace p271 := eq_true p271
                      replace q271 := eq_true q271
                      try go_wp2_with (first | ((with_reducible refine gate_dst (N := 70) rfl ?_); (try (refine gate_guard (by rfl) ?_; dsimp only)); refine Kd.R_lit k23 _ 23 ?hg (N := 70) ?hd (xs := ([(⟨(rd_T23 l0 x11_2).f0, (rd_T23 l0 x11_2).f1, (rd_T23 l0 x11_2).f2⟩ : S23)] : List (S23))) (inner := [.bool ((rd_T23 l0 x11_2).f0), .int .i64 ((rd_T23 l0 x11_2).f1), .int .i64 ((rd_T23 l0 x11_2).f2)]) (ok := fun _ => True) (okp := fun _ => True) ?hr ?hp (fun _ hk => hk) trivial (Below.refl _ _) (Nat.le_refl _) (by simp) ?_; (case hd => rfl); (case hg => rfl); (case hr => first | (go_simp; done) | (go_simp; rfl)); (case hp => exact (Reps.c3 (show Kd.M k23 _ _ _ (⟨(rd_T23 l0 x11_2).f0, (rd_T23 l0 x11_2).f1, (rd_T23 l0 x11_2).f2⟩ : S23) [.bool ((rd_T23 l0 x11_2).f0), .int .i64 ((rd_T23 l0 x11_2).f1), .int .i64 ((rd_T23 l0 x11_2).f2)] from (k23_mkM _ _ _ (⟨(rd_T23 l0 x11_2).f0, (rd_T23 l0 x11_2).f1, (rd_T23 l0 x11_2).f2⟩ : S23) )) (Reps.none _ _))); intro v273 w50 ho51 hb hg_ hnew_; clear hg_ hnew_; (first | rw [← Ny272.out] at ho51 | (simp only [Int.reduceToNat] at ho51; rw [← Ny272.out] at ho51)); have n0_ := Aside0.mk (Kd.R_elder' (by (with_reducible repeat (first | apply Kd.R_alloc | apply Kd.R_drewN | apply Kd.R_drew)); exact HO_10.out) (Kd.R_base ho51) hb); have n1_ := Aside0.mk (Kd.R_lower (Kd.R_newB (Kd.R_new' ho51 (Kd.R_lt (by (with_reducible repeat (first | apply Kd.R_alloc | apply Kd.R_drewN | apply Kd.R_drew)); exact HO_10.out))) (g := gb257) (o := .cells #[.bool a2_0, .int .i64 a2_1, .int .i64 a2_2] 23 (0, 0)) (by (with_reducible repeat (first | refine blk_drewN ?_ _ | refine blk_drew ?_ | refine blk_alloc ?_ _)); exact BK257.out)) (below_size (by repeat (first | (with_reducible first | exact HB.out | apply below_alloc | apply pw_below_drewN | apply below_drew1 | refine below_set ?_ GE256.out | refine below_set ?_ GE257.out) | exact HB.out)))); have n2_ := Aside0.mk (blk_below (g := gb256) (o := .cells #[.bool a1_0, .int .i64 a1_1, .bool a1_2, .int .i64 a1_3, .slice A1_4 l1_4.length c1_4] 27 (0, 0)) (by (with_reducible repeat (first | refine blk_drewN ?_ _ | refine blk_drew ?_ | refine blk_alloc ?_ _)); exact BK256.out) hb); have n3_ := Aside0.mk (blk_below (g := gb257) (o := .cells #[.bool a2_0, .int .i64 a2_1, .int .i64 a2_2] 23 (0, 0)) (by (with_reducible repeat (first | refine blk_drewN ?_ _ | refine blk_drew ?_ | refine blk_alloc ?_ _)); exact BK257.out) hb); have n4_ := Aside0.mk (below_step (by repeat (first | (with_reducible first | exact HB.out | apply below_alloc | apply pw_below_drewN | apply below_drew1 | refine below_set ?_ GE256.out | refine below_set ?_ GE257.out) | exact HB.out)) hb); clear HO_10; clear BK256; clear BK257; clear HB; have HO_10 := n0_; have HO274 := n1_; have BK256 := n2_; have BK257 := n3_; have HB := n4_; clear n0_ n1_ n2_ n3_ n4_; clear hb ho51; obtain ⟨Ao53, co53, eo53⟩ := Kd.R_slice HO_10.out; subst eo53) | ((with_reducible refine gate_builtin (b := .append) (xs := #[.tmp 70, .tmp 71]) rfl ?_); (try (refine gate_guard (by rfl) ?_; dsimp only)); at_builtin; refine Kd.R_append_rows k23 (w0 := w) w.heap.size rfl (.tmp 70) (.tmp 71) 24 23 (.agg #[(.bool false), (.int .i64 0), (.int .i64 0)]) 24 rfl Try.underlying24 info23 rfl (by decide) (by omega) v273 y272 x10_2 _ _ _ (fun k_ => some k_ ≠ (.slice Ao53 x10_2.length co53 : Value).ownBlock ∧ k_ ≠ gb257) (fun _ => False) rfl rfl ?aO ?aR (fun _ _ h => h) (fun _ h => h.elim) ?aF ?aB ?aS ?aL ?_; (case aR => repeat (first | exact (Kd.R_reads' HO_10.out).2.2 | (with_reducible refine Kd.C_alloc ?_ _) | (with_reducible refine Kd.C_drewN ?_ _) | (with_reducible refine Kd.C_drew ?_))); (case aB => exact (by repeat (first | (with_reducible first | exact HB.out | apply below_alloc | apply pw_below_drewN | apply below_drew1 | refine below_set ?_ GE256.out | refine below_set ?_ GE257.out) | exact HB.out))); (case aF => exact (fun k_ hk => ⟨Kd.fresh' (Kd.R_lt (by (with_reducible repeat (first | apply Kd.R_alloc | apply Kd.R_drewN | apply Kd.R_drew)); exact HO_10.out)) k_ hk, Kd.freshB (g := gb257) (o := .cells #[.bool a2_0, .int .i64 a2_1, .int .i64 a2_2] 23 (0, 0)) (by (with_reducible repeat (first | refine blk_drewN ?_ _ | refine blk_drew ?_ | refine blk_alloc ?_ _)); exact BK257.out) k_ hk⟩)); (case aO => exact (by (with_reducible repeat (first | apply Kd.R_alloc | apply Kd.R_drewN | apply Kd.R_drew)); exact Kd.R_mono HO274.out (fun _ hk => ⟨hk.1.2, hk.2⟩))); (case aS => exact (below_size (by repeat (first | (with_reducible first | exact HB.out | apply below_alloc | apply pw_below_drewN | apply below_drew1 | refine below_set ?_ GE256.out | refine below_set ?_ GE257.out) | exact HB.out)))); (case aL => have := LMc46.out; omega); intro v276 w52 ho hb hg hat; rw [← Ny275.out] at ho; have n0_ := Aside0.mk (Kd.R_after (ok := (fun k_ => k_ ≠ gb257)) (by (with_reducible repeat (first | apply Kd.R_alloc | apply Kd.R_drewN | apply Kd.R_drew)); exact HO_10.out) hg hat); have n1_ := Aside0.mk (blk_grown (g := gb256) (o := .cells #[.bool a1_0, .int .i64 a1_1, .bool a1_2, .int .i64 a1_3, .slice A1_4 l1_4.length c1_4] 27 (0, 0)) (by (with_reducible repeat (first | refine blk_drewN ?_ _ | refine blk_drew ?_ | refine blk_alloc ?_ _)); exact BK256.out) hg (Kd.R_ne HO274.out BK256.out (by decide))); have n2_ := Aside0.mk (blk_grown (g := gb257) (o := .cells #[.bool a2_0, .int .i64 a2_1, .int .i64 a2_2] 23 (0, 0)) (by (with_reducible repeat (first | refine blk_drewN ?_ _ | refine blk_drew ?_ | refine blk_alloc ?_ _)); exact BK257.out) hg (Kd.R_away HO274.out (fun _ hk => hk.2))); have n3_ := Aside0.mk (hb); have n4_ := Aside0.mk (ho); clear HO_10; clear BK256; clear BK257; clear HB; clear HO274; have HO_10 := n0_; have BK256 := n1_; have BK257 := n2_; have HB := n3_; have HO277 := n4_; clear n0_ n1_ n2_ n3_ n4_; clear ho hb hg hat))
                      go_roundg k2
                      case measure => have := HJ4.out; have := HK2.out; omega
                      case rel => exact ⟨(true), (t270), (y275), (wrap64 (x11_2 + 1)), (by first | rfl | (simp; done) | (simp [*]; done)), (by first | rfl | (simp; done) | (simp [*]; done)), (by first | rfl | (simp; done) | (simp [*]; done)), H', ⟨by have := HJ4.out; have := HK2.out; omega⟩, ⟨by (with_reducible repeat (first | apply Kd.R_alloc | apply Kd.R_drewN | apply Kd.R_drew)); exact Kd.R_mono HO277.out (fun _ hk => hk.2)⟩, ⟨by (with_reducible repeat (first | refine blk_drewN ?_ _ | refine blk_drew ?_ | refine blk_alloc ?_ _)); exact BK256.out⟩, ⟨by (with_reducible repeat (first | refine blk_drewN ?_ _ | refine blk_drew ?_ | refine blk_alloc ?_ _)); exact BK257.out⟩, ⟨by repeat (first | (with_reducible first | exact HB.out | apply below_alloc | apply pw_below_drewN | apply below_drew1 | refine below_set ?_ GE256.out | refine below_set ?_ GE257.out) | exact HB.out)⟩⟩
                    · rw [if_neg c46] at H
                      exact absurd H (by simp)
                  · rw [if_neg c44] at H
                    exact absurd H (by simp)
              · replace c34 := Bool.eq_false_iff.mpr c34
                subst c34
                have H1 : (if 0 ≤ x11_2 then ((filter_Takes.f ((rd_T23 l0 x11_2).f0) ((rd_T23 l0 x11_2).f1) ((rd_T23 l0 x11_2).f2) a1_0 a1_1 a1_2 a1_3 l1_4).bind fun t279 => (if x9_2 = true then ((some (([(⟨(rd_T23 l0 x11_2).f0, (rd_T23 l0 x11_2).f1, (rd_T23 l0 x11_2).f2⟩ : S23)] : List (S23)) : List (S23))).bind fun y281 => (if y281.length + x10_2.length < 5864062014805 then (phaetonlaw07_FilterAny.l0 k2 l0 t258 t279 true (y281 ++ x10_2) (wrap64 (x11_2 + 1)) a1_0 a1_1 a1_2 a1_3 l1_4 a2_0 a2_1 a2_2) else (none))) else ((filter_Covers.f ((rd_T23 l0 x11_2).f0) ((rd_T23 l0 x11_2).f1) ((rd_T23 l0 x11_2).f2) a2_0 a2_1 a2_2).bind fun t288 => ((some (([(⟨(rd_T23 l0 x11_2).f0, (rd_T23 l0 x11_2).f1, (rd_T23 l0 x11_2).f2⟩ : S23)] : List (S23)) : List (S23))).bind fun y290 => (if y290.length + x10_2.length < 5864062014805 then (phaetonlaw07_FilterAny.l0 k2 l0 t258 t279 t288 (y290 ++ x10_2) (wrap64 (x11_2 + 1)) a1_0 a1_1 a1_2 a1_3 l1_4 a2_0 a2_1 a2_2) else (none)))))) else (none)) = some r := by rw [if_neg (show ¬ (false = true) by decide)] at H; exact H
                clear H
                have H := H1
                clear H1
                by_cases c54 : 0 ≤ x11_2
                · rw [if_pos c54] at H
                  have c54b0 : decide (0 ≤ x11_2) = true := decide_eq_true c54
                  clear c54
                  replace H := Option.bind_eq_some_iff.mp H
                  obtain ⟨t279, A550, H⟩ := H
                  replace H : (if x9_2 = true then ((some (([(⟨(rd_T23 l0 x11_2).f0, (rd_T23 l0 x11_2).f1, (rd_T23 l0 x11_2).f2⟩ : S23)] : List (S23)) : List (S23))).bind fun y281 => (if y281.length + x10_2.length < 5864062014805 then (phaetonlaw07_FilterAny.l0 k2 l0 t258 t279 true (y281 ++ x10_2) (wrap64 (x11_2 + 1)) a1_0 a1_1 a1_2 a1_3 l1_4 a2_0 a2_1 a2_2) else (none))) else ((filter_Covers.f ((rd_T23 l0 x11_2).f0) ((rd_T23 l0 x11_2).f1) ((rd_T23 l0 x11_2).f2) a2_0 a2_1 a2_2).bind fun t288 => ((some (([(⟨(rd_T23 l0 x11_2).f0, (rd_T23 l0 x11_2).f1, (rd_T23 l0 x11_2).f2⟩ : S23)] : List (S23)) : List (S23))).bind fun y290 => (if y290.length + x10_2.length < 5864062014805 then (phaetonlaw07_FilterAny.l0 k2 l0 t258 t279 t288 (y290 ++ x10_2) (wrap64 (x11_2 + 1)) a1_0 a1_1 a1_2 a1_3 l1_4 a2_0 a2_1 a2_2) else (none))))) = some r := H
                  have A55 := Aside0.mk A550
                  clear A550
                  by_cases c56 : x9_2 = true
                  · subst c56
                    have H1 : ((some (([(⟨(rd_T23 l0 x11_2).f0, (rd_T23 l0 x11_2).f1, (rd_T23 l0 x11_2).f2⟩ : S23)] : List (S23)) : List (S23))).bind fun y281 => (if y281.length + x10_2.length < 5864062014805 then (phaetonlaw07_FilterAny.l0 k2 l0 t258 t279 true (y281 ++ x10_2) (wrap64 (x11_2 + 1)) a1_0 a1_1 a1_2 a1_3 l1_4 a2_0 a2_1 a2_2) else (none))) = some r := by rw [if_pos rfl] at H; exact H
                    clear H
                    have H := H1
                    clear H1
                    obtain ⟨y281, hy281⟩ : ∃ y_ : List (S23), y_ = (([(⟨(rd_T23 l0 x11_2).f0, (rd_T23 l0 x11_2).f1, (rd_T23 l0 x11_2).f2⟩ : S23)] : List (S23))) := ⟨_, rfl⟩
                    replace H : (if y281.length + x10_2.length < 5864062014805 then (phaetonlaw07_FilterAny.l0 k2 l0 t258 t279 true (y281 ++ x10_2) (wrap64 (x11_2 + 1)) a1_0 a1_1 a1_2 a1_3 l1_4 a2_0 a2_1 a2_2) else (none)) = some r := by first | (rw [hy281]; with_reducible exact H) | (have H2_ := (Option.bind_some _ _).symm.trans H; rw [hy281]; with_reducible exact H2_) | (have H2_ := (Option.bind_some _ _).symm.trans H; with_reducible exact H2_) | with_reducible exact H | (rw [hy281]; exact H) | exact H
                    have Ny281 := Aside0.mk hy281
                    clear hy281
                    by_cases c57 : y281.length + x10_2.length < 5864062014805
                    · rw [if_pos c57] at H
                      have LMc57 := Aside0.mk c57
                      clear c57
                      obtain ⟨y284, hy284⟩ : ∃ y_ : List (S23), y_ = (y281 ++ x10_2) := ⟨_, rfl⟩
                      replace H : (phaetonlaw07_FilterAny.l0 k2 l0 t258 t279 true y284 (wrap64 (x11_2 + 1)) a1_0 a1_1 a1_2 a1_3 l1_4 a2_0 a2_1 a2_2) = some r := by first | (rw [hy284]; with_reducible exact H) | (have H2_ := (Option.bind_some _ _).symm.trans H; rw [hy284]; with_reducible exact H2_) | (have H2_ := (Option.bind_some _ _).symm.trans H; with_reducible exact H2_) | with_reducible exact H | (rw [hy284]; exact H) | exact H
                      have Ny284 := Aside0.mk hy284
                      clear hy284
                      have H' := Aside0.mk H
                      clear H
                      try go_wp2
                      have n0_ := Aside0.mk (Kd.R_drew HO_10.out)
                      have n1_ := Aside0.mk (blk_drew BK256.out)
                      have n2_ := Aside0.mk (blk_drew BK257.out)
                      have n3_ := Aside0.mk (below_drew1 HB.out)
                      clear HO_10
                      clear BK256
                      clear BK257
                      clear HB
                      have HO_10 := n0_
                      have BK256 := n1_
                      have BK257 := n2_
                      have HB := n3_
                      clear n0_ n1_ n2_ n3_
                      have p278 : 0 ≤ (x11_2 : Int) := of_decide_eq_true (by first | (with_reducible assumption) | assumption)
                      have q278 : x11_2 < (l0.length : Int) := of_decide_eq_true (by first | (with_reducible assumption) | assumption)
                      obtain ⟨ad278, e278, hx278_0, hx278_1, hx278_2⟩ := at_T23 HR0.out x11_2 p278 q278
                      have hw278_2 := hx278_2
                      have hw278_1 := hx278_1
                      have hw278_0 := hx278_0
                      cases e278
                      replace hx278_0 := (HB.out.cell (World.block_lt_of_cell? w _ hx278_0)).trans hx278_0
                      replace hx278_1 := (HB.out.cell (World.block_lt_of_cell? w _ hx278_1)).trans hx278_1
                      replace hx278_2 := (HB.out.cell (World.block_lt_of_cell? w _ hx278_2)).trans hx278_2
                      replace p278 := eq_true p278
                      replace q278 := eq_true q278
                      refine start_ (n := 10) (S := fun w' => w'.cell? ⟨gb256, 0, none⟩ = some (.bool a1_0) ∧ w'.cell? ⟨gb256, 1, none⟩ = some (.int .i64 a1_1) ∧ w'.cell? ⟨gb256, 2, none⟩ = some (.bool a1_2) ∧ w'.cell? ⟨gb256, 3, none⟩ = some (.int .i64 a1_3) ∧ w'.cell? ⟨gb256, 4, none⟩ = some (.slice A1_4 l1_4.length c1_4) ∧ w'.cell? (ad278.add ((x11_2).toNat * 3)) = some (.bool ((rd_T23 l0 x11_2).f0)) ∧ w'.cell? ⟨(ad278.add ((x11_2).toNat * 3)).block, (ad278.add ((x11_2).toNat * 3)).off + 1, none⟩ = some (.int .i64 ((rd_T23 l0 x11_2).f1)) ∧ w'.cell? ⟨(ad278.add ((x11_2).toNat * 3)).block, (ad278.add ((x11_2).toNat * 3)).off + 2, none⟩ = some (.int .i64 ((rd_T23 l0 x11_2).f2))) (ds := []) #[false, false, false, false, false, false, false, false, false, false] (by kernel_rfl) rfl rfl ⟨(blk_cell BK256.out 0).trans rfl, (blk_cell BK256.out 1).trans rfl, (blk_cell BK256.out 2).trans rfl, (blk_cell BK256.out 3).trans rfl, (blk_cell BK256.out 4).trans rfl, ((HB.out.cell (World.block_lt_of_cell? w _ hw278_0)).trans hw278_0), ((HB.out.cell (World.block_lt_of_cell? w _ hw278_1)).trans hw278_1), ((HB.out.cell (World.block_lt_of_cell? w _ hw278_2)).trans hw278_2)⟩ (fun hHeld => ?_); refine with_tabW phaetonlaw07_FilterAny.tab10 phaetonlaw07_FilterAny.bits10 (fun HT_ HW_ => ?_)
                      generalize wr.drew = w58 at HO_10 BK256 BK257 HB hx278_0 hx278_1 hx278_2 hHeld ⊢
                      refine pure_ (i := 0) (N := some 48) (v := ?_) (a' := ?_) #[true, false, false, false, false, false, false, false, false, false] rfl rfl (any_of HT_.out (by kernel_rfl)) (fun _ _ _ h => h) (Or.inl ⟨by rfl, ?_⟩) ?_ ?_
                      rotate_left
                      · intro w'
                        go_simp
                        with_reducible rfl
                      rotate_left
                      · simp only [Act.put, List.setIfInBounds_toArray, List.set_cons_zero, List.set_cons_succ, i64_w, i32_w]
                        rfl
                      refine pure_ (i := 1) (N := some 49) (v := ?_) (a' := ?_) #[true, true, false, false, false, false, false, false, false, false] rfl rfl (any_of HT_.out (by kernel_rfl)) (fun _ _ _ h => h) (Or.inl ⟨by rfl, ?_⟩) ?_ ?_
                      rotate_left
                      · intro w'
                        go_simp
                        with_reducible rfl
                      rotate_left
                      · simp only [Act.put, List.setIfInBounds_toArray, List.set_cons_zero, List.set_cons_succ, i64_w, i32_w]
                        rfl
                      refine pure_ (i := 2) (N := some 50) (v := ?_) (a' := ?_) #[true, true, true, false, false, false, false, false, false, false] rfl rfl (any_of HT_.out (by kernel_rfl)) (fun _ _ _ h => h) (Or.inl ⟨by rfl, ?_⟩) ?_ ?_
                      rotate_left
                      · intro w'
                        go_simp
                        with_reducible rfl
                      rotate_left
                      · simp only [Act.put, List.setIfInBounds_toArray, List.set_cons_zero, List.set_cons_succ, i64_w, i32_w]
                        rfl
                      refine pure_ (i := 3) (N := some 51) (v := ?_) (a' := ?_) #[true, true, true, true, false, false, false, false, false, false] rfl rfl (any_of HT_.out (by kernel_rfl)) (fun _ _ _ h => h) (Or.inl ⟨by rfl, ?_⟩) ?_ ?_
                      rotate_left
                      · intro w'
                        go_simp
                        with_reducible rfl
                      rotate_left
                      · simp only [Act.put, List.setIfInBounds_toArray, List.set_cons_zero, List.set_cons_succ, i64_w, i32_w]
                        rfl
                      refine pure_ (i := 4) (N := some 52) (v := ?_) (a' := ?_) #[true, true, true, true, true, false, false, false, false, false] rfl rfl (any_of HT_.out (by kernel_rfl)) (fun _ _ _ h => h) (Or.inl ⟨by rfl, ?_⟩) ?_ ?_
                      rotate_left
                      · intro w'
                        go_simp
                        with_reducible rfl
                      rotate_left
                      · simp only [Act.put, List.setIfInBounds_toArray, List.set_cons_zero, List.set_cons_succ, i64_w, i32_w]
                        rfl
                      refine take_ (i := 5) (N := some 53) (v := ?_) (a' := ?_) #[true, true, true, true, true, true, false, false, false, false] rfl rfl (take_ofW HT_.out HW_.out (by kernel_rfl)) (fun _ _ _ h => h) (Or.inl ⟨by rfl, ?_⟩) hHeld ?_ ?_
                      rotate_left
                      · rintro w' ⟨s0, s1, s2, s3, s4, s5, s6, s7⟩
                        go_simp
                        with_reducible rfl
                      rotate_left
                      · simp only [Act.put, List.setIfInBounds_toArray, List.set_cons_zero, List.set_cons_succ, i64_w, i32_w]
                        rfl
                      refine take_ (i := 6) (N := some 54) (v := ?_) (a' := ?_) #[true, true, true, true, true, true, true, false, false, false] rfl rfl (take_ofW HT_.out HW_.out (by kernel_rfl)) (fun _ _ _ h => h) (Or.inl ⟨by rfl, ?_⟩) hHeld ?_ ?_
                      rotate_left
                      · rintro w' ⟨s0, s1, s2, s3, s4, s5, s6, s7⟩
                        go_simp
                        with_reducible rfl
                      rotate_left
                      · simp only [Act.put, List.setIfInBounds_toArray, List.set_cons_zero, List.set_cons_succ, i64_w, i32_w]
                        rfl
                      refine one_ (i := 7) (N := some 55) #[true, true, true, true, true, true, true, true, false, false] rfl rfl (one_of HT_.out (by kernel_rfl)) (by decide) (fun K hK => ?_)
                      refine goes_ Try.func15 (by kernel_rfl) rfl #[.agg #[.bool ((rd_T23 l0 x11_2).f0), .int .i64 ((rd_T23 l0 x11_2).f1), .int .i64 ((rd_T23 l0 x11_2).f2)], .agg #[.bool a1_0, .int .i64 a1_1, .bool a1_2, .int .i64 a1_3, .slice A1_4 l1_4.length c1_4]] (by rfl) rfl rfl (by (try simp only [List.map_toArray, List.map_cons, List.map_nil]); first | done | rfl | (simp only [List.length_drop, List.length_take]; rfl)) ?_
                      with_reducible refine (filter_Takes.calls ((rd_T23 l0 x11_2).f0) ((rd_T23 l0 x11_2).f1) ((rd_T23 l0 x11_2).f2) a1_0 a1_1 a1_2 a1_3 _ _ l1_4 t279 _ ?side1 ?side2 A55.out).mono ?_
                      (case side1 => repeat (first | exact (Kd.C_below HR1_4.out HB.out) | (with_reducible refine Kd.C_alloc ?_ _) | (with_reducible refine Kd.C_drewN ?_ _) | (with_reducible refine Kd.C_drew ?_)))
                      (case side2 => exact HC1_4.out)
                      rintro e w59 ⟨rfl, hb⟩
                      refine ⟨_, rfl, ?_⟩
                      have n0_ := Aside0.mk (Kd.R_below (by (with_reducible repeat (first | apply Kd.R_alloc | apply Kd.R_drewN | apply Kd.R_drew)); exact HO_10.out) hb)
                      have n1_ := Aside0.mk (blk_below (g := gb256) (o := .cells #[.bool a1_0, .int .i64 a1_1, .bool a1_2, .int .i64 a1_3, .slice A1_4 l1_4.length c1_4] 27 (0, 0)) (by (with_reducible repeat (first | refine blk_drewN ?_ _ | refine blk_drew ?_ | refine blk_alloc ?_ _)); exact BK256.out) hb)
                      have n2_ := Aside0.mk (blk_below (g := gb257) (o := .cells #[.bool a2_0, .int .i64 a2_1, .int .i64 a2_2] 23 (0, 0)) (by (with_reducible repeat (first | refine blk_drewN ?_ _ | refine blk_drew ?_ | refine blk_alloc ?_ _)); exact BK257.out) hb)
                      have n3_ := Aside0.mk (below_step (by repeat (first | (with_reducible first | exact HB.out | apply below_alloc | apply pw_below_drewN | apply below_drew1 | refine below_set ?_ GE256.out | refine below_set ?_ GE257.out) | exact HB.out)) hb)
                      clear HO_10
                      clear BK256
                      clear BK257
                      clear HB
                      have HO_10 := n0_
                      have BK256 := n1_
                      have BK257 := n2_
                      have HB := n3_
                      clear n0_ n1_ n2_ n3_
                      (try clear hb)
                      (try clear hb2)
                      (try clear hk)
                      (try clear hi)
                      refine hK.out _ _ ⟨(blk_cell BK256.out 0).trans rfl, (blk_cell BK256.out 1).trans rfl, (blk_cell BK256.out 2).trans rfl, (blk_cell BK256.out 3).trans rfl, (blk_cell BK256.out 4).trans rfl, ((HB.out.cell (World.block_lt_of_cell? w _ hw278_0)).trans hw278_0), ((HB.out.cell (World.block_lt_of_cell? w _ hw278_1)).trans hw278_1), ((HB.out.cell (World.block_lt_of_cell? w _ hw278_2)).trans hw278_2)⟩ (fun hHeld => ?_)
                      clear hK K
                      refine norm_ (a' := ?_) ?_ ?_
                      rotate_left
                      · show Act.put _ (some 55) _ = _
                        simp only [Act.put, List.setIfInBounds_toArray, List.set_cons_zero, List.set_cons_succ, i64_w, i32_w]
                        rfl
                      refine pure_ (i := 8) (N := some 56) (v := ?_) (a' := ?_) #[true, true, true, true, true, true, true, true, true, false] rfl rfl (any_of HT_.out (by kernel_rfl)) (fun _ _ _ h => h) (Or.inl ⟨by rfl, ?_⟩) ?_ ?_
                      rotate_left
                      · intro w'
                        go_simp
                        with_reducible rfl
                      rotate_left
                      · simp only [Act.put, List.setIfInBounds_toArray, List.set_cons_zero, List.set_cons_succ, i64_w, i32_w]
                        rfl
                      refine pure_ (i := 9) (N := some 8) (v := ?_) (a' := ?_) #[true, true, true, true, true, true, true, true, true, true] rfl rfl (any_of HT_.out (by kernel_rfl)) (fun _ _ _ h => h) (Or.inl ⟨by rfl, ?_⟩) ?_ ?_
                      rotate_left
                      · intro w'
                        go_simp
                        with_reducible rfl
                      rotate_left
                      · simp only [Act.put, List.setIfInBounds_toArray, List.set_cons_zero, List.set_cons_succ, i64_w, i32_w]
                        rfl
                      refine done_ (done_of HT_.out (by kernel_rfl)) ?_
                      try go_wp2
                      have n0_ := Aside0.mk (Kd.R_drew HO_10.out)
                      have n1_ := Aside0.mk (blk_drew BK256.out)
                      have n2_ := Aside0.mk (blk_drew BK257.out)
                      have n3_ := Aside0.mk (below_drew1 HB.out)
                      clear HO_10
                      clear BK256
                      clear BK257
                      clear HB
                      have HO_10 := n0_
                      have BK256 := n1_
                      have BK257 := n2_
                      have HB := n3_
                      clear n0_ n1_ n2_ n3_
                      refine start_ (n := 10) (S := fun w' => True) (ds := []) #[false, false, false, false, false, false, false, false, false, false] (by kernel_rfl) rfl rfl trivial (fun hHeld => ?_); refine with_tabW phaetonlaw07_FilterAny.tab11 phaetonlaw07_FilterAny.bits11 (fun HT_ HW_ => ?_)
                      generalize w59.drew = w60 at HO_10 BK256 BK257 HB hHeld ⊢
                      refine pure_ (i := 0) (N := some 57) (v := ?_) (a' := ?_) #[true, false, false, false, false, false, false, false, false, false] rfl rfl (any_of HT_.out (by kernel_rfl)) (fun _ _ _ h => h) (Or.inl ⟨by rfl, ?_⟩) ?_ ?_
                      rotate_left
                      · intro w'
                        go_simp
                        with_reducible rfl
                      rotate_left
                      · simp only [Act.put, List.setIfInBounds_toArray, List.set_cons_zero, List.set_cons_succ, i64_w, i32_w]
                        rfl
                      refine pure_ (i := 1) (N := some 58) (v := ?_) (a' := ?_) #[true, true, false, false, false, false, false, false, false, false] rfl rfl (any_of HT_.out (by kernel_rfl)) (fun _ _ _ h => h) (Or.inl ⟨by rfl, ?_⟩) ?_ ?_
                      rotate_left
                      · intro w'
                        go_simp
                        with_reducible rfl
                      rotate_left
                      · simp only [Act.put, List.setIfInBounds_toArray, List.set_cons_zero, List.set_cons_succ, i64_w, i32_w]
                        rfl
                      refine pure_ (i := 2) (N := some 59) (v := undef) (a' := ?_) #[true, true, true, false, false, false, false, false, false, false] rfl rfl (any_of HT_.out (by kernel_rfl)) (fun _ _ _ h => h) (Or.inr ⟨by rfl, rfl⟩) ?_ ?_
                      rotate_left
                      · simp only [Act.put, List.setIfInBounds_toArray, List.set_cons_zero, List.set_cons_succ, i64_w, i32_w]
                        rfl
                      refine pure_ (i := 3) (N := some 60) (v := undef) (a' := ?_) #[true, true, true, true, false, false, false, false, false, false] rfl rfl (any_of HT_.out (by kernel_rfl)) (fun _ _ _ h => h) (Or.inr ⟨by rfl, rfl⟩) ?_ ?_
                      rotate_left
                      · simp only [Act.put, List.setIfInBounds_toArray, List.set_cons_zero, List.set_cons_succ, i64_w, i32_w]
                        rfl
                      refine pure_ (i := 4) (N := some 61) (v := undef) (a' := ?_) #[true, true, true, true, true, false, false, false, false, false] rfl rfl (any_of HT_.out (by kernel_rfl)) (fun _ _ _ h => h) (Or.inr ⟨by rfl, rfl⟩) ?_ ?_
                      rotate_left
                      · simp only [Act.put, List.setIfInBounds_toArray, List.set_cons_zero, List.set_cons_succ, i64_w, i32_w]
                        rfl
                      refine pure_ (i := 5) (N := some 62) (v := undef) (a' := ?_) #[true, true, true, true, true, true, false, false, false, false] rfl rfl (any_of HT_.out (by kernel_rfl)) (fun _ _ _ h => h) (Or.inr ⟨by rfl, rfl⟩) ?_ ?_
                      rotate_left
                      · simp only [Act.put, List.setIfInBounds_toArray, List.set_cons_zero, List.set_cons_succ, i64_w, i32_w]
                        rfl
                      refine pure_ (i := 6) (N := some 63) (v := undef) (a' := ?_) #[true, true, true, true, true, true, true, false, false, false] rfl rfl (any_of HT_.out (by kernel_rfl)) (fun _ _ _ h => h) (Or.inr ⟨by rfl, rfl⟩) ?_ ?_
                      rotate_left
                      · simp only [Act.put, List.setIfInBounds_toArray, List.set_cons_zero, List.set_cons_succ, i64_w, i32_w]
                        rfl
                      refine pure_ (i := 7) (N := some 64) (v := undef) (a' := ?_) #[true, true, true, true, true, true, true, true, false, false] rfl rfl (any_of HT_.out (by kernel_rfl)) (fun _ _ _ h => h) (Or.inr ⟨by rfl, rfl⟩) ?_ ?_
                      rotate_left
                      · simp only [Act.put, List.setIfInBounds_toArray, List.set_cons_zero, List.set_cons_succ, i64_w, i32_w]
                        rfl
                      refine pure_ (i := 8) (N := some 65) (v := ?_) (a' := ?_) #[true, true, true, true, true, true, true, true, true, false] rfl rfl (any_of HT_.out (by kernel_rfl)) (fun _ _ _ h => h) (Or.inl ⟨by rfl, ?_⟩) ?_ ?_
                      rotate_left
                      · intro w'
                        go_simp
                        with_reducible rfl
                      rotate_left
                      · simp only [Act.put, List.setIfInBounds_toArray, List.set_cons_zero, List.set_cons_succ, i64_w, i32_w]
                        rfl
                      refine pure_ (i := 9) (N := some 9) (v := ?_) (a' := ?_) #[true, true, true, true, true, true, true, true, true, true] rfl rfl (any_of HT_.out (by kernel_rfl)) (fun _ _ _ h => h) (Or.inl ⟨by rfl, ?_⟩) ?_ ?_
                      rotate_left
                      · intro w'
                        go_simp
                        with_reducible rfl
                      rotate_left
                      · simp only [Act.put, List.setIfInBounds_toArray, List.set_cons_zero, List.set_cons_succ, i64_w, i32_w]
                        rfl
                      refine done_ (done_of HT_.out (by kernel_rfl)) ?_
                      have p280 : 0 ≤ (x11_2 : Int) := of_decide_eq_true (by first | (with_reducible assumption) | assumption)
                      have q280 : x11_2 < (l0.length : Int) := of_decide_eq_true (by first | (with_reducible assumption) | assumption)
                      obtain ⟨ad280, e280, hx280_0, hx280_1, hx280_2⟩ := at_T23 HR0.out x11_2 p280 q280
                      obtain rfl : ad278 = ad280 := (by injection e280)
                      replace hx280_0 := (HB.out.cell (World.block_lt_of_cell? w _ hx280_0)).trans hx280_0
                      replace hx280_1 := (HB.out.cell (World.block_lt_of_cell? w _ hx280_1)).trans hx280_1
                      replace hx280_2 := (HB.out.cell (World.block_lt_of_cell? w _ hx280_2)).trans hx280_2
                      replace p280 := eq_true p280
                      replace q280 := eq_true q280
                      try go_wp2_with (first | ((with_reducible refine gate_dst (N := 70) rfl ?_); (try (refine gate_guard (by rfl) ?_; dsimp only)); refine Kd.R_lit k23 _ 23 ?hg (N := 70) ?hd (xs := ([(⟨(rd_T23 l0 x11_2).f0, (rd_T23 l0 x11_2).f1, (rd_T23 l0 x11_2).f2⟩ : S23)] : List (S23))) (inner := [.bool ((rd_T23 l0 x11_2).f0), .int .i64 ((rd_T23 l0 x11_2).f1), .int .i64 ((rd_T23 l0 x11_2).f2)]) (ok := fun _ => True) (okp := fun _ => True) ?hr ?hp (fun _ hk => hk) trivial (Below.refl _ _) (Nat.le_refl _) (by simp) ?_; (case hd => rfl); (case hg => rfl); (case hr => first | (go_simp; done) | (go_simp; rfl)); (case hp => exact (Reps.c3 (show Kd.M k23 _ _ _ (⟨(rd_T23 l0 x11_2).f0, (rd_T23 l0 x11_2).f1, (rd_T23 l0 x11_2).f2⟩ : S23) [.bool ((rd_T23 l0 x11_2).f0), .int .i64 ((rd_T23 l0 x11_2).f1), .int .i64 ((rd_T23 l0 x11_2).f2)] from (k23_mkM _ _ _ (⟨(rd_T23 l0 x11_2).f0, (rd_T23 l0 x11_2).f1, (rd_T23 l0 x11_2).f2⟩ : S23) )) (Reps.none _ _))); intro v282 w61 ho62 hb hg_ hnew_; clear hg_ hnew_; (first | rw [← Ny281.out] at ho62 | (simp only [Int.reduceToNat] at ho62; rw [← Ny281.out] at ho62)); have n0_ := Aside0.mk (Kd.R_elder' (by (with_reducible repeat (first | apply Kd.R_alloc | apply Kd.R_drewN | apply Kd.R_drew)); exact HO_10.out) (Kd.R_base ho62) hb); have n1_ := Aside0.mk (Kd.R_lower (Kd.R_newB (Kd.R_new' ho62 (Kd.R_lt (by (with_reducible repeat (first | apply Kd.R_alloc | apply Kd.R_drewN | apply Kd.R_drew)); exact HO_10.out))) (g := gb257) (o := .cells #[.bool a2_0, .int .i64 a2_1, .int .i64 a2_2] 23 (0, 0)) (by (with_reducible repeat (first | refine blk_drewN ?_ _ | refine blk_drew ?_ | refine blk_alloc ?_ _)); exact BK257.out)) (below_size (by repeat (first | (with_reducible first | exact HB.out | apply below_alloc | apply pw_below_drewN | apply below_drew1 | refine below_set ?_ GE256.out | refine below_set ?_ GE257.out) | exact HB.out)))); have n2_ := Aside0.mk (blk_below (g := gb256) (o := .cells #[.bool a1_0, .int .i64 a1_1, .bool a1_2, .int .i64 a1_3, .slice A1_4 l1_4.length c1_4] 27 (0, 0)) (by (with_reducible repeat (first | refine blk_drewN ?_ _ | refine blk_drew ?_ | refine blk_alloc ?_ _)); exact BK256.out) hb); have n3_ := Aside0.mk (blk_below (g := gb257) (o := .cells #[.bool a2_0, .int .i64 a2_1, .int .i64 a2_2] 23 (0, 0)) (by (with_reducible repeat (first | refine blk_drewN ?_ _ | refine blk_drew ?_ | refine blk_alloc ?_ _)); exact BK257.out) hb); have n4_ := Aside0.mk (below_step (by repeat (first | (with_reducible first | exact HB.out | apply below_alloc | apply pw_below_drewN | apply below_drew1 | refine below_set ?_ GE256.out | refine below_set ?_ GE257.out) | exact HB.out)) hb); clear HO_10; clear BK256; clear BK257; clear HB; have HO_10 := n0_; have HO283 := n1_; have BK256 := n2_; have BK257 := n3_; have HB := n4_; clear n0_ n1_ n2_ n3_ n4_; clear hb ho62; obtain ⟨Ao64, co64, eo64⟩ := Kd.R_slice HO_10.out; subst eo64) | ((with_reducible refine gate_builtin (b := .append) (xs := #[.tmp 70, .tmp 71]) rfl ?_); (try (refine gate_guard (by rfl) ?_; dsimp only)); at_builtin; refine Kd.R_append_rows k23 (w0 := w) w.heap.size rfl (.tmp 70) (.tmp 71) 24 23 (.agg #[(.bool false), (.int .i64 0), (.int .i64 0)]) 24 rfl Try.underlying24 info23 rfl (by decide) (by omega) v282 y281 x10_2 _ _ _ (fun k_ => some k_ ≠ (.slice Ao64 x10_2.length co64 : Value).ownBlock ∧ k_ ≠ gb257) (fun _ => False) rfl rfl ?aO ?aR (fun _ _ h => h) (fun _ h => h.elim) ?aF ?aB ?aS ?aL ?_; (case aR => repeat (first | exact (Kd.R_reads' HO_10.out).2.2 | (with_reducible refine Kd.C_alloc ?_ _) | (with_reducible refine Kd.C_drewN ?_ _) | (with_reducible refine Kd.C_drew ?_))); (case aB => exact (by repeat (first | (with_reducible first | exact HB.out | apply below_alloc | apply pw_below_drewN | apply below_drew1 | refine below_set ?_ GE256.out | refine below_set ?_ GE257.out) | exact HB.out))); (case aF => exact (fun k_ hk => ⟨Kd.fresh' (Kd.R_lt (by (with_reducible repeat (first | apply Kd.R_alloc | apply Kd.R_drewN | apply Kd.R_drew)); exact HO_10.out)) k_ hk, Kd.freshB (g := gb257) (o := .cells #[.bool a2_0, .int .i64 a2_1, .int .i64 a2_2] 23 (0, 0)) (by (with_reducible repeat (first | refine blk_drewN ?_ _ | refine blk_drew ?_ | refine blk_alloc ?_ _)); exact BK257.out) k_ hk⟩)); (case aO => exact (by (with_reducible repeat (first | apply Kd.R_alloc | apply Kd.R_drewN | apply Kd.R_drew)); exact Kd.R_mono HO283.out (fun _ hk => ⟨hk.1.2, hk.2⟩))); (case aS => exact (below_size (by repeat (first | (with_reducible first | exact HB.out | apply below_alloc | apply pw_below_drewN | apply below_drew1 | refine below_set ?_ GE256.out | refine below_set ?_ GE257.out) | exact HB.out)))); (case aL => have := LMc57.out; omega); intro v285 w63 ho hb hg hat; rw [← Ny284.out] at ho; have n0_ := Aside0.mk (Kd.R_after (ok := (fun k_ => k_ ≠ gb257)) (by (with_reducible repeat (first | apply Kd.R_alloc | apply Kd.R_drewN | apply Kd.R_drew)); exact HO_10.out) hg hat); have n1_ := Aside0.mk (blk_grown (g := gb256) (o := .cells #[.bool a1_0, .int .i64 a1_1, .bool a1_2, .int .i64 a1_3, .slice A1_4 l1_4.length c1_4] 27 (0, 0)) (by (with_reducible repeat (first | refine blk_drewN ?_ _ | refine blk_drew ?_ | refine blk_alloc ?_ _)); exact BK256.out) hg (Kd.R_ne HO283.out BK256.out (by decide))); have n2_ := Aside0.mk (blk_grown (g := gb257) (o := .cells #[.bool a2_0, .int .i64 a2_1, .int .i64 a2_2] 23 (0, 0)) (by (with_reducible repeat (first | refine blk_drewN ?_ _ | refine blk_drew ?_ | refine blk_alloc ?_ _)); exact BK257.out) hg (Kd.R_away HO283.out (fun _ hk => hk.2))); have n3_ := Aside0.mk (hb); have n4_ := Aside0.mk (ho); clear HO_10; clear BK256; clear BK257; clear HB; clear HO283; have HO_10 := n0_; have BK256 := n1_; have BK257 := n2_; have HB := n3_; have HO286 := n4_; clear n0_ n1_ n2_ n3_ n4_; clear ho hb hg hat))
                      go_roundg k2
                      case measure => have := HJ4.out; have := HK2.out; omega
                      case rel => exact ⟨(t279), (true), (y284), (wrap64 (x11_2 + 1)), (by first | rfl | (simp; done) | (simp [*]; done)), (by first | rfl | (simp; done) | (simp [*]; done)), (by first | rfl | (simp; done) | (simp [*]; done)), H', ⟨by have := HJ4.out; have := HK2.out; omega⟩, ⟨by (with_reducible repeat (first | apply Kd.R_alloc | apply Kd.R_drewN | apply Kd.R_drew)); exact Kd.R_mono HO286.out (fun _ hk => hk.2)⟩, ⟨by (with_reducible repeat (first | refine blk_drewN ?_ _ | refine blk_drew ?_ | refine blk_alloc ?_ _)); exact BK256.out⟩, ⟨by (with_reducible repeat (first | refine blk_drewN ?_ _ | refine blk_drew ?_ | refine blk_alloc ?_ _)); exact BK257.out⟩, ⟨by repeat (first | (with_reducible first | exact HB.out | apply below_alloc | apply pw_below_drewN | apply below_drew1 | refine below_set ?_ GE256.out | refine below_set ?_ GE257.out) | exact HB.out)⟩⟩
                    · rw [if_neg c57] at H
                      exact absurd H (by simp)
                  · replace c56 := Bool.eq_false_iff.mpr c56
                    subst c56
                    have H1 : ((filter_Covers.f ((rd_T23 l0 x11_2).f0) ((rd_T23 l0 x11_2).f1) ((rd_T23 l0 x11_2).f2) a2_0 a2_1 a2_2).bind fun t288 => ((some (([(⟨(rd_T23 l0 x11_2).f0, (rd_T23 l0 x11_2).f1, (rd_T23 l0 x11_2).f2⟩ : S23)] : List (S23)) : List (S23))).bind fun y290 => (if y290.length + x10_2.length < 5864062014805 then (phaetonlaw07_FilterAny.l0 k2 l0 t258 t279 t288 (y290 ++ x10_2) (wrap64 (x11_2 + 1)) a1_0 a1_1 a1_2 a1_3 l1_4 a2_0 a2_1 a2_2) else (none)))) = some r := by rw [if_neg (show ¬ (false = true) by decide)] at H; exact H
                    clear H
                    have H := H1
                    clear H1
                    replace H := Option.bind_eq_some_iff.mp H
                    obtain ⟨t288, A650, H⟩ := H
                    replace H : ((some (([(⟨(rd_T23 l0 x11_2).f0, (rd_T23 l0 x11_2).f1, (rd_T23 l0 x11_2).f2⟩ : S23)] : List (S23)) : List (S23))).bind fun y290 => (if y290.length + x10_2.length < 5864062014805 then (phaetonlaw07_FilterAny.l0 k2 l0 t258 t279 t288 (y290 ++ x10_2) (wrap64 (x11_2 + 1)) a1_0 a1_1 a1_2 a1_3 l1_4 a2_0 a2_1 a2_2) else (none))) = some r := H
                    have A65 := Aside0.mk A650
                    clear A650
                    obtain ⟨y290, hy290⟩ : ∃ y_ : List (S23), y_ = (([(⟨(rd_T23 l0 x11_2).f0, (rd_T23 l0 x11_2).f1, (rd_T23 l0 x11_2).f2⟩ : S23)] : List (S23))) := ⟨_, rfl⟩
                    replace H : (if y290.length + x10_2.length < 5864062014805 then (phaetonlaw07_FilterAny.l0 k2 l0 t258 t279 t288 (y290 ++ x10_2) (wrap64 (x11_2 + 1)) a1_0 a1_1 a1_2 a1_3 l1_4 a2_0 a2_1 a2_2) else (none)) = some r := by first | (rw [hy290]; with_reducible exact H) | (have H2_ := (Option.bind_some _ _).symm.trans H; rw [hy290]; with_reducible exact H2_) | (have H2_ := (Option.bind_some _ _).symm.trans H; with_reducible exact H2_) | with_reducible exact H | (rw [hy290]; exact H) | exact H
                    have Ny290 := Aside0.mk hy290
                    clear hy290
                    by_cases c66 : y290.length + x10_2.length < 5864062014805
                    · rw [if_pos c66] at H
                      have LMc66 := Aside0.mk c66
                      clear c66
                      obtain ⟨y293, hy293⟩ : ∃ y_ : List (S23), y_ = (y290 ++ x10_2) := ⟨_, rfl⟩
                      replace H : (phaetonlaw07_FilterAny.l0 k2 l0 t258 t279 t288 y293 (wrap64 (x11_2 + 1)) a1_0 a1_1 a1_2 a1_3 l1_4 a2_0 a2_1 a2_2) = some r := by first | (rw [hy293]; with_reducible exact H) | (have H2_ := (Option.bind_some _ _).symm.trans H; rw [hy293]; with_reducible exact H2_) | (have H2_ := (Option.bind_some _ _).symm.trans H; with_reducible exact H2_) | with_reducible exact H | (rw [hy293]; exact H) | exact H
                      have Ny293 := Aside0.mk hy293
                      clear hy293
                      have H' := Aside0.mk H
                      clear H
                      try go_wp2
                      have n0_ := Aside0.mk (Kd.R_drew HO_10.out)
                      have n1_ := Aside0.mk (blk_drew BK256.out)
                      have n2_ := Aside0.mk (blk_drew BK257.out)
                      have n3_ := Aside0.mk (below_drew1 HB.out)
                      clear HO_10
                      clear BK256
                      clear BK257
                      clear HB
                      have HO_10 := n0_
                      have BK256 := n1_
                      have BK257 := n2_
                      have HB := n3_
                      clear n0_ n1_ n2_ n3_
                      have p278 : 0 ≤ (x11_2 : Int) := of_decide_eq_true (by first | (with_reducible assumption) | assumption)
                      have q278 : x11_2 < (l0.length : Int) := of_decide_eq_true (by first | (with_reducible assumption) | assumption)
                      obtain ⟨ad278, e278, hx278_0, hx278_1, hx278_2⟩ := at_T23 HR0.out x11_2 p278 q278
                      have hw278_2 := hx278_2
                      have hw278_1 := hx278_1
                      have hw278_0 := hx278_0
                      cases e278
                      replace hx278_0 := (HB.out.cell (World.block_lt_of_cell? w _ hx278_0)).trans hx278_0
                      replace hx278_1 := (HB.out.cell (World.block_lt_of_cell? w _ hx278_1)).trans hx278_1
                      replace hx278_2 := (HB.out.cell (World.block_lt_of_cell? w _ hx278_2)).trans hx278_2
                      replace p278 := eq_true p278
                      replace q278 := eq_true q278
                      refine start_ (n := 10) (S := fun w' => w'.cell? ⟨gb256, 0, none⟩ = some (.bool a1_0) ∧ w'.cell? ⟨gb256, 1, none⟩ = some (.int .i64 a1_1) ∧ w'.cell? ⟨gb256, 2, none⟩ = some (.bool a1_2) ∧ w'.cell? ⟨gb256, 3, none⟩ = some (.int .i64 a1_3) ∧ w'.cell? ⟨gb256, 4, none⟩ = some (.slice A1_4 l1_4.length c1_4) ∧ w'.cell? (ad278.add ((x11_2).toNat * 3)) = some (.bool ((rd_T23 l0 x11_2).f0)) ∧ w'.cell? ⟨(ad278.add ((x11_2).toNat * 3)).block, (ad278.add ((x11_2).toNat * 3)).off + 1, none⟩ = some (.int .i64 ((rd_T23 l0 x11_2).f1)) ∧ w'.cell? ⟨(ad278.add ((x11_2).toNat * 3)).block, (ad278.add ((x11_2).toNat * 3)).off + 2, none⟩ = some (.int .i64 ((rd_T23 l0 x11_2).f2))) (ds := []) #[false, false, false, false, false, false, false, false, false, false] (by kernel_rfl) rfl rfl ⟨(blk_cell BK256.out 0).trans rfl, (blk_cell BK256.out 1).trans rfl, (blk_cell BK256.out 2).trans rfl, (blk_cell BK256.out 3).trans rfl, (blk_cell BK256.out 4).trans rfl, ((HB.out.cell (World.block_lt_of_cell? w _ hw278_0)).trans hw278_0), ((HB.out.cell (World.block_lt_of_cell? w _ hw278_1)).trans hw278_1), ((HB.out.cell (World.block_lt_of_cell? w _ hw278_2)).trans hw278_2)⟩ (fun hHeld => ?_); refine with_tabW phaetonlaw07_FilterAny.tab10 phaetonlaw07_FilterAny.bits10 (fun HT_ HW_ => ?_)
                      generalize wr.drew = w67 at HO_10 BK256 BK257 HB hx278_0 hx278_1 hx278_2 hHeld ⊢
                      refine pure_ (i := 0) (N := some 48) (v := ?_) (a' := ?_) #[true, false, false, false, false, false, false, false, false, false] rfl rfl (any_of HT_.out (by kernel_rfl)) (fun _ _ _ h => h) (Or.inl ⟨by rfl, ?_⟩) ?_ ?_
                      rotate_left
                      · intro w'
                        go_simp
                        with_reducible rfl
                      rotate_left
                      · simp only [Act.put, List.setIfInBounds_toArray, List.set_cons_zero, List.set_cons_succ, i64_w, i32_w]
                        rfl
                      refine pure_ (i := 1) (N := some 49) (v := ?_) (a' := ?_) #[true, true, false, false, false, false, false, false, false, false] rfl rfl (any_of HT_.out (by kernel_rfl)) (fun _ _ _ h => h) (Or.inl ⟨by rfl, ?_⟩) ?_ ?_
                      rotate_left
                      · intro w'
                        go_simp
                        with_reducible rfl
                      rotate_left
                      · simp only [Act.put, List.setIfInBounds_toArray, List.set_cons_zero, List.set_cons_succ, i64_w, i32_w]
                        rfl
                      refine pure_ (i := 2) (N := some 50) (v := ?_) (a' := ?_) #[true, true, true, false, false, false, false, false, false, false] rfl rfl (any_of HT_.out (by kernel_rfl)) (fun _ _ _ h => h) (Or.inl ⟨by rfl, ?_⟩) ?_ ?_
                      rotate_left
                      · intro w'
                        go_simp
                        with_reducible rfl
                      rotate_left
                      · simp only [Act.put, List.setIfInBounds_toArray, List.set_cons_zero, List.set_cons_succ, i64_w, i32_w]
                        rfl
                      refine pure_ (i := 3) (N := some 51) (v := ?_) (a' := ?_) #[true, true, true, true, false, false, false, false, false, false] rfl rfl (any_of HT_.out (by kernel_rfl)) (fun _ _ _ h => h) (Or.inl ⟨by rfl, ?_⟩) ?_ ?_
                      rotate_left
                      · intro w'
                        go_simp
                        with_reducible rfl
                      rotate_left
                      · simp only [Act.put, List.setIfInBounds_toArray, List.set_cons_zero, List.set_cons_succ, i64_w, i32_w]
                        rfl
                      refine pure_ (i := 4) (N := some 52) (v := ?_) (a' := ?_) #[true, true, true, true, true, false, false, false, false, false] rfl rfl (any_of HT_.out (by kernel_rfl)) (fun _ _ _ h => h) (Or.inl ⟨by rfl, ?_⟩) ?_ ?_
                      rotate_left
                      · intro w'
                        go_simp
                        with_reducible rfl
                      rotate_left
                      · simp only [Act.put, List.setIfInBounds_toArray, List.set_cons_zero, List.set_cons_succ, i64_w, i32_w]
                        rfl
                      refine take_ (i := 5) (N := some 53) (v := ?_) (a' := ?_) #[true, true, true, true, true, true, false, false, false, false] rfl rfl (take_ofW HT_.out HW_.out (by kernel_rfl)) (fun _ _ _ h => h) (Or.inl ⟨by rfl, ?_⟩) hHeld ?_ ?_
                      rotate_left
                      · rintro w' ⟨s0, s1, s2, s3, s4, s5, s6, s7⟩
                        go_simp
                        with_reducible rfl
                      rotate_left
                      · simp only [Act.put, List.setIfInBounds_toArray, List.set_cons_zero, List.set_cons_succ, i64_w, i32_w]
                        rfl
                      refine take_ (i := 6) (N := some 54) (v := ?_) (a' := ?_) #[true, true, true, true, true, true, true, false, false, false] rfl rfl (take_ofW HT_.out HW_.out (by kernel_rfl)) (fun _ _ _ h => h) (Or.inl ⟨by rfl, ?_⟩) hHeld ?_ ?_
                      rotate_left
                      · rintro w' ⟨s0, s1, s2, s3, s4, s5, s6, s7⟩
                        go_simp
                        with_reducible rfl
                      rotate_left
                      · simp only [Act.put, List.setIfInBounds_toArray, List.set_cons_zero, List.set_cons_succ, i64_w, i32_w]
                        rfl
                      refine one_ (i := 7) (N := some 55) #[true, true, true, true, true, true, true, true, false, false] rfl rfl (one_of HT_.out (by kernel_rfl)) (by decide) (fun K hK => ?_)
                      refine goes_ Try.func15 (by kernel_rfl) rfl #[.agg #[.bool ((rd_T23 l0 x11_2).f0), .int .i64 ((rd_T23 l0 x11_2).f1), .int .i64 ((rd_T23 l0 x11_2).f2)], .agg #[.bool a1_0, .int .i64 a1_1, .bool a1_2, .int .i64 a1_3, .slice A1_4 l1_4.length c1_4]] (by rfl) rfl rfl (by (try simp only [List.map_toArray, List.map_cons, List.map_nil]); first | done | rfl | (simp only [List.length_drop, List.length_take]; rfl)) ?_
                      with_reducible refine (filter_Takes.calls ((rd_T23 l0 x11_2).f0) ((rd_T23 l0 x11_2).f1) ((rd_T23 l0 x11_2).f2) a1_0 a1_1 a1_2 a1_3 _ _ l1_4 t279 _ ?side1 ?side2 A55.out).mono ?_
                      (case side1 => repeat (first | exact (Kd.C_below HR1_4.out HB.out) | (with_reducible refine Kd.C_alloc ?_ _) | (with_reducible refine Kd.C_drewN ?_ _) | (with_reducible refine Kd.C_drew ?_)))
                      (case side2 => exact HC1_4.out)
                      rintro e w68 ⟨rfl, hb⟩
                      refine ⟨_, rfl, ?_⟩
                      have n0_ := Aside0.mk (Kd.R_below (by (with_reducible repeat (first | apply Kd.R_alloc | apply Kd.R_drewN | apply Kd.R_drew)); exact HO_10.out) hb)
                      have n1_ := Aside0.mk (blk_below (g := gb256) (o := .cells #[.bool a1_0, .int .i64 a1_1, .bool a1_2, .int .i64 a1_3, .slice A1_4 l1_4.length c1_4] 27 (0, 0)) (by (with_reducible repeat (first | refine blk_drewN ?_ _ | refine blk_drew ?_ | refine blk_alloc ?_ _)); exact BK256.out) hb)
                      have n2_ := Aside0.mk (blk_below (g := gb257) (o := .cells #[.bool a2_0, .int .i64 a2_1, .int .i64 a2_2] 23 (0, 0)) (by (with_reducible repeat (first | refine blk_drewN ?_ _ | refine blk_drew ?_ | refine blk_alloc ?_ _)); exact BK257.out) hb)
                      have n3_ := Aside0.mk (below_step (by repeat (first | (with_reducible first | exact HB.out | apply below_alloc | apply pw_below_drewN | apply below_drew1 | refine below_set ?_ GE256.out | refine below_set ?_ GE257.out) | exact HB.out)) hb)
                      clear HO_10
                      clear BK256
                      clear BK257
                      clear HB
                      have HO_10 := n0_
                      have BK256 := n1_
                      have BK257 := n2_
                      have HB := n3_
                      clear n0_ n1_ n2_ n3_
                      (try clear hb)
                      (try clear hb2)
                      (try clear hk)
                      (try clear hi)
                      refine hK.out _ _ ⟨(blk_cell BK256.out 0).trans rfl, (blk_cell BK256.out 1).trans rfl, (blk_cell BK256.out 2).trans rfl, (blk_cell BK256.out 3).trans rfl, (blk_cell BK256.out 4).trans rfl, ((HB.out.cell (World.block_lt_of_cell? w _ hw278_0)).trans hw278_0), ((HB.out.cell (World.block_lt_of_cell? w _ hw278_1)).trans hw278_1), ((HB.out.cell (World.block_lt_of_cell? w _ hw278_2)).trans hw278_2)⟩ (fun hHeld => ?_)
                      clear hK K
                      refine norm_ (a' := ?_) ?_ ?_
                      rotate_left
                      · show Act.put _ (some 55) _ = _
                        simp only [Act.put, List.setIfInBounds_toArray, List.set_cons_zero, List.set_cons_succ, i64_w, i32_w]
                        rfl
                      refine pure_ (i := 8) (N := some 56) (v := ?_) (a' := ?_) #[true, true, true, true, true, true, true, true, true, false] rfl rfl (any_of HT_.out (by kernel_rfl)) (fun _ _ _ h => h) (Or.inl ⟨by rfl, ?_⟩) ?_ ?_
                      rotate_left
                      · intro w'
                        go_simp
                        with_reducible rfl
                      rotate_left
                      · simp only [Act.put, List.setIfInBounds_toArray, List.set_cons_zero, List.set_cons_succ, i64_w, i32_w]
                        rfl
                      refine pure_ (i := 9) (N := some 8) (v := ?_) (a' := ?_) #[true, true, true, true, true, true, true, true, true, true] rfl rfl (any_of HT_.out (by kernel_rfl)) (fun _ _ _ h => h) (Or.inl ⟨by rfl, ?_⟩) ?_ ?_
                      rotate_left
                      · intro w'
                        go_simp
                        with_reducible rfl
                      rotate_left
                      · simp only [Act.put, List.setIfInBounds_toArray, List.set_cons_zero, List.set_cons_succ, i64_w, i32_w]
                        rfl
                      refine done_ (done_of HT_.out (by kernel_rfl)) ?_
                      try go_wp2
                      have n0_ := Aside0.mk (Kd.R_drew HO_10.out)
                      have n1_ := Aside0.mk (blk_drew BK256.out)
                      have n2_ := Aside0.mk (blk_drew BK257.out)
                      have n3_ := Aside0.mk (below_drew1 HB.out)
                      clear HO_10
                      clear BK256
                      clear BK257
                      clear HB
                      have HO_10 := n0_
                      have BK256 := n1_
                      have BK257 := n2_
                      have HB := n3_
                      clear n0_ n1_ n2_ n3_
                      have p287 : 0 ≤ (x11_2 : Int) := of_decide_eq_true (by first | (with_reducible assumption) | assumption)
                      have q287 : x11_2 < (l0.length : Int) := of_decide_eq_true (by first | (with_reducible assumption) | assumption)
                      obtain ⟨ad287, e287, hx287_0, hx287_1, hx287_2⟩ := at_T23 HR0.out x11_2 p287 q287
                      have hw287_2 := hx287_2
                      have hw287_1 := hx287_1
                      have hw287_0 := hx287_0
                      obtain rfl : ad278 = ad287 := (by injection e287)
                      replace hx287_0 := (HB.out.cell (World.block_lt_of_cell? w _ hx287_0)).trans hx287_0
                      replace hx287_1 := (HB.out.cell (World.block_lt_of_cell? w _ hx287_1)).trans hx287_1
                      replace hx287_2 := (HB.out.cell (World.block_lt_of_cell? w _ hx287_2)).trans hx287_2
                      replace p287 := eq_true p287
                      replace q287 := eq_true q287
                      refine start_ (n := 10) (S := fun w' => w'.cell? ⟨gb257, 0, none⟩ = some (.bool a2_0) ∧ w'.cell? ⟨gb257, 1, none⟩ = some (.int .i64 a2_1) ∧ w'.cell? ⟨gb257, 2, none⟩ = some (.int .i64 a2_2) ∧ w'.cell? (ad278.add ((x11_2).toNat * 3)) = some (.bool ((rd_T23 l0 x11_2).f0)) ∧ w'.cell? ⟨(ad278.add ((x11_2).toNat * 3)).block, (ad278.add ((x11_2).toNat * 3)).off + 1, none⟩ = some (.int .i64 ((rd_T23 l0 x11_2).f1)) ∧ w'.cell? ⟨(ad278.add ((x11_2).toNat * 3)).block, (ad278.add ((x11_2).toNat * 3)).off + 2, none⟩ = some (.int .i64 ((rd_T23 l0 x11_2).f2))) (ds := []) #[false, false, false, false, false, false, false, false, false, false] (by kernel_rfl) rfl rfl ⟨(blk_cell BK257.out 0).trans rfl, (blk_cell BK257.out 1).trans rfl, (blk_cell BK257.out 2).trans rfl, ((HB.out.cell (World.block_lt_of_cell? w _ hw287_0)).trans hw287_0), ((HB.out.cell (World.block_lt_of_cell? w _ hw287_1)).trans hw287_1), ((HB.out.cell (World.block_lt_of_cell? w _ hw287_2)).trans hw287_2)⟩ (fun hHeld => ?_); refine with_tabW phaetonlaw07_FilterAny.tab11 phaetonlaw07_FilterAny.bits11 (fun HT_ HW_ => ?_)
                      generalize w68.drew = w69 at HO_10 BK256 BK257 HB hx287_0 hx287_1 hx287_2 hHeld ⊢
                      refine pure_ (i := 0) (N := some 57) (v := ?_) (a' := ?_) #[true, false, false, false, false, false, false, false, false, false] rfl rfl (any_of HT_.out (by kernel_rfl)) (fun _ _ _ h => h) (Or.inl ⟨by rfl, ?_⟩) ?_ ?_
                      rotate_left
                      · intro w'
                        go_simp
                        with_reducible rfl
                      rotate_left
                      · simp only [Act.put, List.setIfInBounds_toArray, List.set_cons_zero, List.set_cons_succ, i64_w, i32_w]
                        rfl
                      refine pure_ (i := 1) (N := some 58) (v := ?_) (a' := ?_) #[true, true, false, false, false, false, false, false, false, false] rfl rfl (any_of HT_.out (by kernel_rfl)) (fun _ _ _ h => h) (Or.inl ⟨by rfl, ?_⟩) ?_ ?_
                      rotate_left
                      · intro w'
                        go_simp
                        with_reducible rfl
                      rotate_left
                      · simp only [Act.put, List.setIfInBounds_toArray, List.set_cons_zero, List.set_cons_succ, i64_w, i32_w]
                        rfl
                      refine pure_ (i := 2) (N := some 59) (v := ?_) (a' := ?_) #[true, true, true, false, false, false, false, false, false, false] rfl rfl (any_of HT_.out (by kernel_rfl)) (fun _ _ _ h => h) (Or.inl ⟨by rfl, ?_⟩) ?_ ?_
                      rotate_left
                      · intro w'
                        go_simp
                        with_reducible rfl
                      rotate_left
                      · simp only [Act.put, List.setIfInBounds_toArray, List.set_cons_zero, List.set_cons_succ, i64_w, i32_w]
                        rfl
                      refine pure_ (i := 3) (N := some 60) (v := ?_) (a' := ?_) #[true, true, true, true, false, false, false, false, false, false] rfl rfl (any_of HT_.out (by kernel_rfl)) (fun _ _ _ h => h) (Or.inl ⟨by rfl, ?_⟩) ?_ ?_
                      rotate_left
                      · intro w'
                        go_simp
                        with_reducible rfl
                      rotate_left
                      · simp only [Act.put, List.setIfInBounds_toArray, List.set_cons_zero, List.set_cons_succ, i64_w, i32_w]
                        rfl
                      refine pure_ (i := 4) (N := some 61) (v := ?_) (a' := ?_) #[true, true, true, true, true, false, false, false, false, false] rfl rfl (any_of HT_.out (by kernel_rfl)) (fun _ _ _ h => h) (Or.inl ⟨by rfl, ?_⟩) ?_ ?_
                      rotate_left
                      · intro w'
                        go_simp
                        with_reducible rfl
                      rotate_left
                      · simp only [Act.put, List.setIfInBounds_toArray, List.set_cons_zero, List.set_cons_succ, i64_w, i32_w]
                        rfl
                      refine take_ (i := 5) (N := some 62) (v := ?_) (a' := ?_) #[true, true, true, true, true, true, false, false, false, false] rfl rfl (take_ofW HT_.out HW_.out (by kernel_rfl)) (fun _ _ _ h => h) (Or.inl ⟨by rfl, ?_⟩) hHeld ?_ ?_
                      rotate_left
                      · rintro w' ⟨s0, s1, s2, s3, s4, s5⟩
                        go_simp
                        with_reducible rfl
                      rotate_left
                      · simp only [Act.put, List.setIfInBounds_toArray, List.set_cons_zero, List.set_cons_succ, i64_w, i32_w]
                        rfl
                      refine take_ (i := 6) (N := some 63) (v := ?_) (a' := ?_) #[true, true, true, true, true, true, true, false, false, false] rfl rfl (take_ofW HT_.out HW_.out (by kernel_rfl)) (fun _ _ _ h => h) (Or.inl ⟨by rfl, ?_⟩) hHeld ?_ ?_
                      rotate_left
                      · rintro w' ⟨s0, s1, s2, s3, s4, s5⟩
                        go_simp
                        with_reducible rfl
                      rotate_left
                      · simp only [Act.put, List.setIfInBounds_toArray, List.set_cons_zero, List.set_cons_succ, i64_w, i32_w]
                        rfl
                      refine one_ (i := 7) (N := some 64) #[true, true, true, true, true, true, true, true, false, false] rfl rfl (one_of HT_.out (by kernel_rfl)) (by decide) (fun K hK => ?_)
                      refine goes_ Try.func19 (by kernel_rfl) rfl #[.agg #[.bool ((rd_T23 l0 x11_2).f0), .int .i64 ((rd_T23 l0 x11_2).f1), .int .i64 ((rd_T23 l0 x11_2).f2)], .agg #[.bool a2_0, .int .i64 a2_1, .int .i64 a2_2]] (by rfl) rfl rfl (by (try simp only [List.map_toArray, List.map_cons, List.map_nil]); first | done | rfl | (simp only [List.length_drop, List.length_take]; rfl)) ?_
                      with_reducible refine (filter_Covers.calls ((rd_T23 l0 x11_2).f0) ((rd_T23 l0 x11_2).f1) ((rd_T23 l0 x11_2).f2) a2_0 a2_1 a2_2 t288 _ A65.out).mono ?_
                      rintro e w70 ⟨rfl, hb⟩
                      refine ⟨_, rfl, ?_⟩
                      have n0_ := Aside0.mk (Kd.R_below (by (with_reducible repeat (first | apply Kd.R_alloc | apply Kd.R_drewN | apply Kd.R_drew)); exact HO_10.out) hb)
                      have n1_ := Aside0.mk (blk_below (g := gb256) (o := .cells #[.bool a1_0, .int .i64 a1_1, .bool a1_2, .int .i64 a1_3, .slice A1_4 l1_4.length c1_4] 27 (0, 0)) (by (with_reducible repeat (first | refine blk_drewN ?_ _ | refine blk_drew ?_ | refine blk_alloc ?_ _)); exact BK256.out) hb)
                      have n2_ := Aside0.mk (blk_below (g := gb257) (o := .cells #[.bool a2_0, .int .i64 a2_1, .int .i64 a2_2] 23 (0, 0)) (by (with_reducible repeat (first | refine blk_drewN ?_ _ | refine blk_drew ?_ | refine blk_alloc ?_ _)); exact BK257.out) hb)
                      have n3_ := Aside0.mk (below_step (by repeat (first | (with_reducible first | exact HB.out | apply below_alloc | apply pw_below_drewN | apply below_drew1 | refine below_set ?_ GE256.out | refine below_set ?_ GE257.out) | exact HB.out)) hb)
                      clear HO_10
                      clear BK256
                      clear BK257
                      clear HB
                      have HO_10 := n0_
                      have BK256 := n1_
                      have BK257 := n2_
                      have HB := n3_
                      clear n0_ n1_ n2_ n3_
                      (try clear hb)
                      (try clear hb2)
                      (try clear hk)
                      (try clear hi)
                      refine hK.out _ _ ⟨(blk_cell BK257.out 0).trans rfl, (blk_cell BK257.out 1).trans rfl, (blk_cell BK257.out 2).trans rfl, ((HB.out.cell (World.block_lt_of_cell? w _ hw287_0)).trans hw287_0), ((HB.out.cell (World.block_lt_of_cell? w _ hw287_1)).trans hw287_1), ((HB.out.cell (World.block_lt_of_cell? w _ hw287_2)).trans hw287_2)⟩ (fun hHeld => ?_)
                      clear hK K
                      refine norm_ (a' := ?_) ?_ ?_
                      rotate_left
                      · show Act.put _ (some 64) _ = _
                        simp only [Act.put, List.setIfInBounds_toArray, List.set_cons_zero, List.set_cons_succ, i64_w, i32_w]
                        rfl
                      refine pure_ (i := 8) (N := some 65) (v := ?_) (a' := ?_) #[true, true, true, true, true, true, true, true, true, false] rfl rfl (any_of HT_.out (by kernel_rfl)) (fun _ _ _ h => h) (Or.inl ⟨by rfl, ?_⟩) ?_ ?_
                      rotate_left
                      · intro w'
                        go_simp
                        with_reducible rfl
                      rotate_left
                      · simp only [Act.put, List.setIfInBounds_toArray, List.set_cons_zero, List.set_cons_succ, i64_w, i32_w]
                        rfl
                      refine pure_ (i := 9) (N := some 9) (v := ?_) (a' := ?_) #[true, true, true, true, true, true, true, true, true, true] rfl rfl (any_of HT_.out (by kernel_rfl)) (fun _ _ _ h => h) (Or.inl ⟨by rfl, ?_⟩) ?_ ?_
                      rotate_left
                      · intro w'
                        go_simp
                        with_reducible rfl
                      rotate_left
                      · simp only [Act.put, List.setIfInBounds_toArray, List.set_cons_zero, List.set_cons_succ, i64_w, i32_w]
                        rfl
                      refine done_ (done_of HT_.out (by kernel_rfl)) ?_
                      have p289 : 0 ≤ (x11_2 : Int) := of_decide_eq_true (by first | (with_reducible assumption) | assumption)
                      have q289 : x11_2 < (l0.length : Int) := of_decide_eq_true (by first | (with_reducible assumption) | assumption)
                      obtain ⟨ad289, e289, hx289_0, hx289_1, hx289_2⟩ := at_T23 HR0.out x11_2 p289 q289
                      obtain rfl : ad278 = ad289 := (by injection e289)
                      replace hx289_0 := (HB.out.cell (World.block_lt_of_cell? w _ hx289_0)).trans hx289_0
                      replace hx289_1 := (HB.out.cell (World.block_lt_of_cell? w _ hx289_1)).trans hx289_1
                      replace hx289_2 := (HB.out.cell (World.block_lt_of_cell? w _ hx289_2)).trans hx289_2
                      replace p289 := eq_true p289
                      replace q289 := eq_true q289
                      try go_wp2_with (first | ((with_reducible refine gate_dst (N := 70) rfl ?_); (try (refine gate_guard (by rfl) ?_; dsimp only)); refine Kd.R_lit k23 _ 23 ?hg (N := 70) ?hd (xs := ([(⟨(rd_T23 l0 x11_2).f0, (rd_T23 l0 x11_2).f1, (rd_T23 l0 x11_2).f2⟩ : S23)] : List (S23))) (inner := [.bool ((rd_T23 l0 x11_2).f0), .int .i64 ((rd_T23 l0 x11_2).f1), .int .i64 ((rd_T23 l0 x11_2).f2)]) (ok := fun _ => True) (okp := fun _ => True) ?hr ?hp (fun _ hk => hk) trivial (Below.refl _ _) (Nat.le_refl _) (by simp) ?_; (case hd => rfl); (case hg => rfl); (case hr => first | (go_simp; done) | (go_simp; rfl)); (case hp => exact (Reps.c3 (show Kd.M k23 _ _ _ (⟨(rd_T23 l0 x11_2).f0, (rd_T23 l0 x11_2).f1, (rd_T23 l0 x11_2).f2⟩ : S23) [.bool ((rd_T23 l0 x11_2).f0), .int .i64 ((rd_T23 l0 x11_2).f1), .int .i64 ((rd_T23 l0 x11_2).f2)] from (k23_mkM _ _ _ (⟨(rd_T23 l0 x11_2).f0, (rd_T23 l0 x11_2).f1, (rd_T23 l0 x11_2).f2⟩ : S23) )) (Reps.none _ _))); intro v291 w71 ho72 hb hg_ hnew_; clear hg_ hnew_; (first | rw [← Ny290.out] at ho72 | (simp only [Int.reduceToNat] at ho72; rw [← Ny290.out] at ho72)); have n0_ := Aside0.mk (Kd.R_elder' (by (with_reducible repeat (first | apply Kd.R_alloc | apply Kd.R_drewN | apply Kd.R_drew)); exact HO_10.out) (Kd.R_base ho72) hb); have n1_ := Aside0.mk (Kd.R_lower (Kd.R_newB (Kd.R_new' ho72 (Kd.R_lt (by (with_reducible repeat (first | apply Kd.R_alloc | apply Kd.R_drewN | apply Kd.R_drew)); exact HO_10.out))) (g := gb257) (o := .cells #[.bool a2_0, .int .i64 a2_1, .int .i64 a2_2] 23 (0, 0)) (by (with_reducible repeat (first | refine blk_drewN ?_ _ | refine blk_drew ?_ | refine blk_alloc ?_ _)); exact BK257.out)) (below_size (by repeat (first | (with_reducible first | exact HB.out | apply below_alloc | apply pw_below_drewN | apply below_drew1 | refine below_set ?_ GE256.out | refine below_set ?_ GE257.out) | exact HB.out)))); have n2_ := Aside0.mk (blk_below (g := gb256) (o := .cells #[.bool a1_0, .int .i64 a1_1, .bool a1_2, .int .i64 a1_3, .slice A1_4 l1_4.length c1_4] 27 (0, 0)) (by (with_reducible repeat (first | refine blk_drewN ?_ _ | refine blk_drew ?_ | refine blk_alloc ?_ _)); exact BK256.out) hb); have n3_ := Aside0.mk (blk_below (g := gb257) (o := .cells #[.bool a2_0, .int .i64 a2_1, .int .i64 a2_2] 23 (0, 0)) (by (with_reducible repeat (first | refine blk_drewN ?_ _ | refine blk_drew ?_ | refine blk_alloc ?_ _)); exact BK257.out) hb); have n4_ := Aside0.mk (below_step (by repeat (first | (with_reducible first | exact HB.out | apply below_alloc | apply pw_below_drewN | apply below_drew1 | refine below_set ?_ GE256.out | refine below_set ?_ GE257.out) | exact HB.out)) hb); clear HO_10; clear BK256; clear BK257; clear HB; have HO_10 := n0_; have HO292 := n1_; have BK256 := n2_; have BK257 := n3_; have HB := n4_; clear n0_ n1_ n2_ n3_ n4_; clear hb ho72; obtain ⟨Ao74, co74, eo74⟩ := Kd.R_slice HO_10.out; subst eo74) | ((with_reducible refine gate_builtin (b := .append) (xs := #[.tmp 70, .tmp 71]) rfl ?_); (try (refine gate_guard (by rfl) ?_; dsimp only)); at_builtin; refine Kd.R_append_rows k23 (w0 := w) w.heap.size rfl (.tmp 70) (.tmp 71) 24 23 (.agg #[(.bool false), (.int .i64 0), (.int .i64 0)]) 24 rfl Try.underlying24 info23 rfl (by decide) (by omega) v291 y290 x10_2 _ _ _ (fun k_ => some k_ ≠ (.slice Ao74 x10_2.length co74 : Value).ownBlock ∧ k_ ≠ gb257) (fun _ => False) rfl rfl ?aO ?aR (fun _ _ h => h) (fun _ h => h.elim) ?aF ?aB ?aS ?aL ?_; (case aR => repeat (first | exact (Kd.R_reads' HO_10.out).2.2 | (with_reducible refine Kd.C_alloc ?_ _) | (with_reducible refine Kd.C_drewN ?_ _) | (with_reducible refine Kd.C_drew ?_))); (case aB => exact (by repeat (first | (with_reducible first | exact HB.out | apply below_alloc | apply pw_below_drewN | apply below_drew1 | refine below_set ?_ GE256.out | refine below_set ?_ GE257.out) | exact HB.out))); (case aF => exact (fun k_ hk => ⟨Kd.fresh' (Kd.R_lt (by (with_reducible repeat (first | apply Kd.R_alloc | apply Kd.R_drewN | apply Kd.R_drew)); exact HO_10.out)) k_ hk, Kd.freshB (g := gb257) (o := .cells #[.bool a2_0, .int .i64 a2_1, .int .i64 a2_2] 23 (0, 0)) (by (with_reducible repeat (first | refine blk_drewN ?_ _ | refine blk_drew ?_ | refine blk_alloc ?_ _)); exact BK257.out) k_ hk⟩)); (case aO => exact (by (with_reducible repeat (first | apply Kd.R_alloc | apply Kd.R_drewN | apply Kd.R_drew)); exact Kd.R_mono HO292.out (fun _ hk => ⟨hk.1.2, hk.2⟩))); (case aS => exact (below_size (by repeat (first | (with_reducible first | exact HB.out | apply below_alloc | apply pw_below_drewN | apply below_drew1 | refine below_set ?_ GE256.out | refine below_set ?_ GE257.out) | exact HB.out)))); (case aL => have := LMc66.out; omega); intro v294 w73 ho hb hg hat; rw [← Ny293.out] at ho; have n0_ := Aside0.mk (Kd.R_after (ok := (fun k_ => k_ ≠ gb257)) (by (with_reducible repeat (first | apply Kd.R_alloc | apply Kd.R_drewN | apply Kd.R_drew)); exact HO_10.out) hg hat); have n1_ := Aside0.mk (blk_grown (g := gb256) (o := .cells #[.bool a1_0, .int .i64 a1_1, .bool a1_2, .int .i64 a1_3, .slice A1_4 l1_4.length c1_4] 27 (0, 0)) (by (with_reducible repeat (first | refine blk_drewN ?_ _ | refine blk_drew ?_ | refine blk_alloc ?_ _)); exact BK256.out) hg (Kd.R_ne HO292.out BK256.out (by decide))); have n2_ := Aside0.mk (blk_grown (g := gb257) (o := .cells #[.bool a2_0, .int .i64 a2_1, .int .i64 a2_2] 23 (0, 0)) (by (with_reducible repeat (first | refine blk_drewN ?_ _ | refine blk_drew ?_ | refine blk_alloc ?_ _)); exact BK257.out) hg (Kd.R_away HO292.out (fun _ hk => hk.2))); have n3_ := Aside0.mk (hb); have n4_ := Aside0.mk (ho); clear HO_10; clear BK256; clear BK257; clear HB; clear HO292; have HO_10 := n0_; have BK256 := n1_; have BK257 := n2_; have HB := n3_; have HO295 := n4_; clear n0_ n1_ n2_ n3_ n4_; clear ho hb hg hat))
                      go_roundg k2
                      case measure => have := HJ4.out; have := HK2.out; omega
                      case rel => exact ⟨(t279), (t288), (y293), (wrap64 (x11_2 + 1)), (by first | rfl | (simp; done) | (simp [*]; done)), (by first | rfl | (simp; done) | (simp [*]; done)), (by first | rfl | (simp; done) | (simp [*]; done)), H', ⟨by have := HJ4.out; have := HK2.out; omega⟩, ⟨by (with_reducible repeat (first | apply Kd.R_alloc | apply Kd.R_drewN | apply Kd.R_drew)); exact Kd.R_mono HO295.out (fun _ hk => hk.2)⟩, ⟨by (with_reducible repeat (first | refine blk_drewN ?_ _ | refine blk_drew ?_ | refine blk_alloc ?_ _)); exact BK256.out⟩, ⟨by (with_reducible repeat (first | refine blk_drewN ?_ _ | refine blk_drew ?_ | refine blk_alloc ?_ _)); exact BK257.out⟩, ⟨by repeat (first | (with_reducible first | exact HB.out | apply below_alloc | apply pw_below_drewN | apply below_drew1 | refine below_set ?_ GE256.out | refine below_set ?_ GE257.out) | exact HB.out)⟩⟩
                    · rw [if_neg c66] at H
                      exact absurd H (by simp)
                · rw [if_neg c54] at H
                  exact absurd H (by simp)
            · rw [if_neg c33] at H
              have c33b0 : decide (x11_2 < (l0.length : Int)) = false := decide_eq_false c33
              clear c33
              obtain ⟨y296, hy296⟩ : ∃ y_ : List (S23), y_ = (([] : List (S23))) := ⟨_, rfl⟩
              replace H : (if y296.length + l0.length < 5864062014805 then ((some (y296 ++ l0 : List (S23))).bind fun y299 => ((some (([(⟨a2_0, a2_1, a2_2⟩ : S23)] : List (S23)) : List (S23))).bind fun y302 => (if y299.length + y302.length < 5864062014805 then ((some (y299 ++ y302 : List (S23))).bind fun y305 => ((filter_Any.f l0 a1_0 a1_1 a1_2 a1_3 l1_4).bind fun t308 => (if (t308 != x8_2) = true then (phaetonlaw07_FilterAny.j2 k2 l0 t258 x8_2 x9_2 y305 true a1_0 a1_1 a1_2 a1_3 l1_4 a2_0 a2_1 a2_2) else ((filter_Any.f x10_2 a1_0 a1_1 a1_2 a1_3 l1_4).bind fun t309 => (phaetonlaw07_FilterAny.j2 k2 l0 t258 x8_2 x9_2 y305 (t309 != x8_2) a1_0 a1_1 a1_2 a1_3 l1_4 a2_0 a2_1 a2_2))))) else (none)))) else (none)) = some r := by first | (rw [hy296]; with_reducible exact H) | (have H2_ := (Option.bind_some _ _).symm.trans H; rw [hy296]; with_reducible exact H2_) | (have H2_ := (Option.bind_some _ _).symm.trans H; with_reducible exact H2_) | with_reducible exact H | (rw [hy296]; exact H) | exact H
              have Ny296 := Aside0.mk hy296
              clear hy296
              by_cases c75 : y296.length + l0.length < 5864062014805
              · rw [if_pos c75] at H
                have LMc75 := Aside0.mk c75
                clear c75
                obtain ⟨y299, hy299⟩ : ∃ y_ : List (S23), y_ = (y296 ++ l0) := ⟨_, rfl⟩
                replace H : ((some (([(⟨a2_0, a2_1, a2_2⟩ : S23)] : List (S23)) : List (S23))).bind fun y302 => (if y299.length + y302.length < 5864062014805 then ((some (y299 ++ y302 : List (S23))).bind fun y305 => ((filter_Any.f l0 a1_0 a1_1 a1_2 a1_3 l1_4).bind fun t308 => (if (t308 != x8_2) = true then (phaetonlaw07_FilterAny.j2 k2 l0 t258 x8_2 x9_2 y305 true a1_0 a1_1 a1_2 a1_3 l1_4 a2_0 a2_1 a2_2) else ((filter_Any.f x10_2 a1_0 a1_1 a1_2 a1_3 l1_4).bind fun t309 => (phaetonlaw07_FilterAny.j2 k2 l0 t258 x8_2 x9_2 y305 (t309 != x8_2) a1_0 a1_1 a1_2 a1_3 l1_4 a2_0 a2_1 a2_2))))) else (none))) = some r := by first | (rw [hy299]; with_reducible exact H) | (have H2_ := (Option.bind_some _ _).symm.trans H; rw [hy299]; with_reducible exact H2_) | (have H2_ := (Option.bind_some _ _).symm.trans H; with_reducible exact H2_) | with_reducible exact H | (rw [hy299]; exact H) | exact H
                have Ny299 := Aside0.mk hy299
                clear hy299
                obtain ⟨y302, hy302⟩ : ∃ y_ : List (S23), y_ = (([(⟨a2_0, a2_1, a2_2⟩ : S23)] : List (S23))) := ⟨_, rfl⟩
                replace H : (if y299.length + y302.length < 5864062014805 then ((some (y299 ++ y302 : List (S23))).bind fun y305 => ((filter_Any.f l0 a1_0 a1_1 a1_2 a1_3 l1_4).bind fun t308 => (if (t308 != x8_2) = true then (phaetonlaw07_FilterAny.j2 k2 l0 t258 x8_2 x9_2 y305 true a1_0 a1_1 a1_2 a1_3 l1_4 a2_0 a2_1 a2_2) else ((filter_Any.f x10_2 a1_0 a1_1 a1_2 a1_3 l1_4).bind fun t309 => (phaetonlaw07_FilterAny.j2 k2 l0 t258 x8_2 x9_2 y305 (t309 != x8_2) a1_0 a1_1 a1_2 a1_3 l1_4 a2_0 a2_1 a2_2))))) else (none)) = some r := by first | (rw [hy302]; with_reducible exact H) | (have H2_ := (Option.bind_some _ _).symm.trans H; rw [hy302]; with_reducible exact H2_) | (have H2_ := (Option.bind_some _ _).symm.trans H; with_reducible exact H2_) | with_reducible exact H | (rw [hy302]; exact H) | exact H
                have Ny302 := Aside0.mk hy302
                clear hy302
                by_cases c76 : y299.length + y302.length < 5864062014805
                · rw [if_pos c76] at H
                  have LMc76 := Aside0.mk c76
                  clear c76
                  obtain ⟨y305, hy305⟩ : ∃ y_ : List (S23), y_ = (y299 ++ y302) := ⟨_, rfl⟩
                  replace H : ((filter_Any.f l0 a1_0 a1_1 a1_2 a1_3 l1_4).bind fun t308 => (if (t308 != x8_2) = true then (phaetonlaw07_FilterAny.j2 k2 l0 t258 x8_2 x9_2 y305 true a1_0 a1_1 a1_2 a1_3 l1_4 a2_0 a2_1 a2_2) else ((filter_Any.f x10_2 a1_0 a1_1 a1_2 a1_3 l1_4).bind fun t309 => (phaetonlaw07_FilterAny.j2 k2 l0 t258 x8_2 x9_2 y305 (t309 != x8_2) a1_0 a1_1 a1_2 a1_3 l1_4 a2_0 a2_1 a2_2)))) = some r := by first | (rw [hy305]; with_reducible exact H) | (have H2_ := (Option.bind_some _ _).symm.trans H; rw [hy305]; with_reducible exact H2_) | (have H2_ := (Option.bind_some _ _).symm.trans H; with_reducible exact H2_) | with_reducible exact H | (rw [hy305]; exact H) | exact H
                  have Ny305 := Aside0.mk hy305
                  clear hy305
                  have HC77 := Aside0.mk H
                  clear H
                  try go_wp2
                  have n0_ := Aside0.mk (Kd.R_drew HO_10.out)
                  have n1_ := Aside0.mk (blk_drew BK256.out)
                  have n2_ := Aside0.mk (blk_drew BK257.out)
                  have n3_ := Aside0.mk (below_drew1 HB.out)
                  clear HO_10
                  clear BK256
                  clear BK257
                  clear HB
                  have HO_10 := n0_
                  have BK256 := n1_
                  have BK257 := n2_
                  have HB := n3_
                  clear n0_ n1_ n2_ n3_
                  refine start_ (n := 7) (S := fun w' => w'.cell? ⟨gb257, 0, none⟩ = some (.bool a2_0) ∧ w'.cell? ⟨gb257, 1, none⟩ = some (.int .i64 a2_1) ∧ w'.cell? ⟨gb257, 2, none⟩ = some (.int .i64 a2_2)) (ds := []) #[false, false, false, false, false, false, false] (by kernel_rfl) rfl rfl ⟨(blk_cell BK257.out 0).trans rfl, (blk_cell BK257.out 1).trans rfl, (blk_cell BK257.out 2).trans rfl⟩ (fun hHeld => ?_)
                  generalize wr.drew = w78 at HO_10 BK256 BK257 HB hHeld ⊢
                  refine pure_ (i := 1) (N := some 74) (v := ?_) (a' := ?_) #[false, true, false, false, false, false, false] rfl rfl (by kernel_rfl) (fun _ _ _ h => h) (Or.inl ⟨by rfl, ?_⟩) ?_ ?_
                  rotate_left
                  · intro w'
                    go_simp
                    with_reducible rfl
                  rotate_left
                  · simp only [Act.put, List.setIfInBounds_toArray, List.set_cons_zero, List.set_cons_succ, i64_w, i32_w]
                    rfl
                  refine take_ (i := 3) (N := some 76) (v := ?_) (a' := ?_) #[false, true, false, true, false, false, false] rfl rfl (by kernel_rfl) (fun _ _ _ h => h) (Or.inl ⟨by rfl, ?_⟩) hHeld ?_ ?_
                  rotate_left
                  · rintro w' ⟨s0, s1, s2⟩
                    go_simp
                    with_reducible rfl
                  rotate_left
                  · simp only [Act.put, List.setIfInBounds_toArray, List.set_cons_zero, List.set_cons_succ, i64_w, i32_w]
                    rfl
                  refine join_ (σ := Value × Value × Value) 2 #[true, true, true, true, true, false, false] (fun s_ => [(73, s_.1), (75, s_.2.1), (77, s_.2.2)]) (fun s_ w' => (w'.cell? ⟨gb257, 0, none⟩ = some (.bool a2_0) ∧ w'.cell? ⟨gb257, 1, none⟩ = some (.int .i64 a2_1) ∧ w'.cell? ⟨gb257, 2, none⟩ = some (.int .i64 a2_2)) ∧ (Kd.R k23 23 w' w.heap.size (fun k_ => some k_ ≠ (s_.2.2 : Value).ownBlock ∧ some k_ ≠ (u10 : Value).ownBlock ∧ k_ ≠ gb257) s_.2.1 y299) ∧ (Kd.R k23 23 w' w.heap.size (fun k_ => some k_ ≠ (s_.2.1 : Value).ownBlock ∧ some k_ ≠ (u10 : Value).ownBlock ∧ k_ ≠ gb257) s_.2.2 y302) ∧ (Kd.R k23 23 w' w.heap.size (fun k_ => some k_ ≠ (s_.2.1 : Value).ownBlock ∧ some k_ ≠ (s_.2.2 : Value).ownBlock ∧ k_ ≠ gb257) u10 x10_2) ∧ (w'.heap[gb256]? = some (.cells #[.bool a1_0, .int .i64 a1_1, .bool a1_2, .int .i64 a1_3, .slice A1_4 l1_4.length c1_4] 27 (0, 0))) ∧ (w'.heap[gb257]? = some (.cells #[.bool a2_0, .int .i64 a2_1, .int .i64 a2_2] 23 (0, 0))) ∧ (Below w.heap.size w w')) ?_ ?_
                  rotate_left
                  · intro hCont
                    refine two_ (i := 0) (j := 4) (Ni := some 73) (Nj := some 77) #[true, true, false, true, false, false, false] #[false, true, false, true, true, false, false] rfl rfl rfl rfl (by kernel_rfl) (by decide) (by decide) (fun K hK => ?_) (fun K hK => ?_)
                    · skip
                      refine Kd.R_lit_step k23 _ 23 ?hg (N := 73) ?hd (xs := ([] : List (S23))) (inner := []) (ok := fun _ => True) (okp := fun _ => True) ?hr ?hp (fun _ hk => hk) trivial (Below.refl _ _) (Nat.le_refl _) (by simp) ?_; (case hd => rfl); (case hg => rfl); (case hr => first | (go_simp; done) | (go_simp; rfl)); (case hp => exact (Reps.none _ _))
                      intro v297 w79 ho80 hb hg_ hnew_
                      clear hg_ hnew_
                      (first | rw [← Ny296.out] at ho80 | (simp only [Int.reduceToNat] at ho80; rw [← Ny296.out] at ho80))
                      have n0_ := Aside0.mk (Kd.R_elder' (by (with_reducible repeat (first | apply Kd.R_alloc | apply Kd.R_drewN | apply Kd.R_drew)); exact HO_10.out) (Kd.R_base ho80) hb)
                      have n1_ := Aside0.mk (Kd.R_lower (Kd.R_newB (Kd.R_new' ho80 (Kd.R_lt (by (with_reducible repeat (first | apply Kd.R_alloc | apply Kd.R_drewN | apply Kd.R_drew)); exact HO_10.out))) (g := gb257) (o := .cells #[.bool a2_0, .int .i64 a2_1, .int .i64 a2_2] 23 (0, 0)) (by (with_reducible repeat (first | refine blk_drewN ?_ _ | refine blk_drew ?_ | refine blk_alloc ?_ _)); exact BK257.out)) (below_size (by repeat (first | (with_reducible first | exact HB.out | apply below_alloc | apply pw_below_drewN | apply below_drew1 | refine below_set ?_ GE256.out | refine below_set ?_ GE257.out) | exact HB.out))))
                      have n2_ := Aside0.mk (blk_below (g := gb256) (o := .cells #[.bool a1_0, .int .i64 a1_1, .bool a1_2, .int .i64 a1_3, .slice A1_4 l1_4.length c1_4] 27 (0, 0)) (by (with_reducible repeat (first | refine blk_drewN ?_ _ | refine blk_drew ?_ | refine blk_alloc ?_ _)); exact BK256.out) hb)
                      have n3_ := Aside0.mk (blk_below (g := gb257) (o := .cells #[.bool a2_0, .int .i64 a2_1, .int .i64 a2_2] 23 (0, 0)) (by (with_reducible repeat (first | refine blk_drewN ?_ _ | refine blk_drew ?_ | refine blk_alloc ?_ _)); exact BK257.out) hb)
                      have n4_ := Aside0.mk (below_step (by repeat (first | (with_reducible first | exact HB.out | apply below_alloc | apply pw_below_drewN | apply below_drew1 | refine below_set ?_ GE256.out | refine below_set ?_ GE257.out) | exact HB.out)) hb)
                      clear HO_10
                      clear BK256
                      clear BK257
                      clear HB
                      have HO_10 := n0_
                      have HO298 := n1_
                      have BK256 := n2_
                      have BK257 := n3_
                      have HB := n4_
                      clear n0_ n1_ n2_ n3_ n4_
                      clear hb ho80
                      refine hK.out _ _ ⟨(blk_cell BK257.out 0).trans rfl, (blk_cell BK257.out 1).trans rfl, (blk_cell BK257.out 2).trans rfl⟩ (fun hHeld => ?_)
                      clear hK K
                      refine norm_ (a' := ?_) ?_ ?_
                      rotate_left
                      · show Act.put _ (some 73) _ = _
                        simp only [Act.put, List.setIfInBounds_toArray, List.set_cons_zero, List.set_cons_succ, i64_w, i32_w]
                        rfl
                      refine two_ (i := 2) (j := 4) (Ni := some 75) (Nj := some 77) #[true, true, true, true, false, false, false] #[true, true, false, true, true, false, false] rfl rfl rfl rfl (by kernel_rfl) (by decide) (by decide) (fun K hK => ?_) (fun K hK => ?_)
                      · skip
                        refine Kd.R_append_rows_step k23 (w0 := w) w.heap.size (by rfl) (.tmp 73) (.tmp 74) 24 23 (.agg #[(.bool false), (.int .i64 0), (.int .i64 0)]) 24 rfl Try.underlying24 info23 rfl (by decide) (by omega) v297 y296 l0 _ _ _ (fun k_ => some k_ ≠ (u10 : Value).ownBlock ∧ k_ ≠ gb257) (fun _ => False) rfl rfl ?aO ?aR (fun _ _ h => h) (fun _ h => h.elim) ?aF ?aB ?aS ?aL ?_
                        (case aR => repeat (first | exact (Kd.C_below HR0.out HB.out) | (with_reducible refine Kd.C_alloc ?_ _) | (with_reducible refine Kd.C_drewN ?_ _) | (with_reducible refine Kd.C_drew ?_)))
                        (case aB => exact (by repeat (first | (with_reducible first | exact HB.out | apply below_alloc | apply pw_below_drewN | apply below_drew1 | refine below_set ?_ GE256.out | refine below_set ?_ GE257.out) | exact HB.out)))
                        (case aF => exact (fun k_ hk => ⟨Kd.fresh' (Kd.R_lt (by (with_reducible repeat (first | apply Kd.R_alloc | apply Kd.R_drewN | apply Kd.R_drew)); exact HO_10.out)) k_ hk, Kd.freshB (g := gb257) (o := .cells #[.bool a2_0, .int .i64 a2_1, .int .i64 a2_2] 23 (0, 0)) (by (with_reducible repeat (first | refine blk_drewN ?_ _ | refine blk_drew ?_ | refine blk_alloc ?_ _)); exact BK257.out) k_ hk⟩))
                        (case aO => exact (by (with_reducible repeat (first | apply Kd.R_alloc | apply Kd.R_drewN | apply Kd.R_drew)); exact Kd.R_mono HO298.out (fun _ hk => ⟨hk.1.2, hk.2⟩)))
                        (case aS => exact (below_size (by repeat (first | (with_reducible first | exact HB.out | apply below_alloc | apply pw_below_drewN | apply below_drew1 | refine below_set ?_ GE256.out | refine below_set ?_ GE257.out) | exact HB.out))))
                        (case aL => have := LMc75.out; omega)
                        intro v300 w81 ho hb hg hat
                        rw [← Ny299.out] at ho
                        have n0_ := Aside0.mk (Kd.R_after (ok := (fun k_ => k_ ≠ gb257)) (by (with_reducible repeat (first | apply Kd.R_alloc | apply Kd.R_drewN | apply Kd.R_drew)); exact HO_10.out) hg hat)
                        have n1_ := Aside0.mk (blk_grown (g := gb256) (o := .cells #[.bool a1_0, .int .i64 a1_1, .bool a1_2, .int .i64 a1_3, .slice A1_4 l1_4.length c1_4] 27 (0, 0)) (by (with_reducible repeat (first | refine blk_drewN ?_ _ | refine blk_drew ?_ | refine blk_alloc ?_ _)); exact BK256.out) hg (Kd.R_ne HO298.out BK256.out (by decide)))
                        have n2_ := Aside0.mk (blk_grown (g := gb257) (o := .cells #[.bool a2_0, .int .i64 a2_1, .int .i64 a2_2] 23 (0, 0)) (by (with_reducible repeat (first | refine blk_drewN ?_ _ | refine blk_drew ?_ | refine blk_alloc ?_ _)); exact BK257.out) hg (Kd.R_away HO298.out (fun _ hk => hk.2)))
                        have n3_ := Aside0.mk (hb)
                        have n4_ := Aside0.mk (ho)
                        clear HO_10
                        clear BK256
                        clear BK257
                        clear HB
                        clear HO298
                        have HO_10 := n0_
                        have BK256 := n1_
                        have BK257 := n2_
                        have HB := n3_
                        have HO301 := n4_
                        clear n0_ n1_ n2_ n3_ n4_
                        clear ho hb hg hat
                        refine hK.out _ _ ⟨(blk_cell BK257.out 0).trans rfl, (blk_cell BK257.out 1).trans rfl, (blk_cell BK257.out 2).trans rfl⟩ (fun hHeld => ?_)
                        clear hK K
                        refine norm_ (a' := ?_) ?_ ?_
                        rotate_left
                        · show Act.put _ (some 75) _ = _
                          simp only [Act.put, List.setIfInBounds_toArray, List.set_cons_zero, List.set_cons_succ, i64_w, i32_w]
                          rfl
                        refine one_ (i := 4) (N := some 77) #[true, true, true, true, true, false, false] rfl rfl (by kernel_rfl) (by decide) (fun K hK => ?_)
                        refine Kd.R_lit_step k23 _ 23 ?hg (N := 77) ?hd (xs := ([(⟨a2_0, a2_1, a2_2⟩ : S23)] : List (S23))) (inner := [.bool a2_0, .int .i64 a2_1, .int .i64 a2_2]) (ok := fun _ => True) (okp := fun _ => True) ?hr ?hp (fun _ hk => hk) trivial (Below.refl _ _) (Nat.le_refl _) (by simp) ?_; (case hd => rfl); (case hg => rfl); (case hr => first | (go_simp; done) | (go_simp; rfl)); (case hp => exact (Reps.c3 (show Kd.M k23 _ _ _ (⟨a2_0, a2_1, a2_2⟩ : S23) [.bool a2_0, .int .i64 a2_1, .int .i64 a2_2] from (k23_mkM _ _ _ (⟨a2_0, a2_1, a2_2⟩ : S23) )) (Reps.none _ _)))
                        intro v303 w82 ho83 hb hg_ hnew_
                        clear hg_ hnew_
                        (first | rw [← Ny302.out] at ho83 | (simp only [Int.reduceToNat] at ho83; rw [← Ny302.out] at ho83))
                        have n0_ := Aside0.mk (Kd.R_elder' (by (with_reducible repeat (first | apply Kd.R_alloc | apply Kd.R_drewN | apply Kd.R_drew)); exact HO_10.out) (Kd.R_base ho83) hb)
                        have n1_ := Aside0.mk (Kd.R_elder' (by (with_reducible repeat (first | apply Kd.R_alloc | apply Kd.R_drewN | apply Kd.R_drew)); exact HO301.out) (Kd.R_base ho83) hb)
                        have n2_ := Aside0.mk (Kd.R_lower (Kd.R_newB (Kd.R_new' (Kd.R_new' ho83 (Kd.R_lt (by (with_reducible repeat (first | apply Kd.R_alloc | apply Kd.R_drewN | apply Kd.R_drew)); exact HO_10.out))) (Kd.R_lt (by (with_reducible repeat (first | apply Kd.R_alloc | apply Kd.R_drewN | apply Kd.R_drew)); exact HO301.out))) (g := gb257) (o := .cells #[.bool a2_0, .int .i64 a2_1, .int .i64 a2_2] 23 (0, 0)) (by (with_reducible repeat (first | refine blk_drewN ?_ _ | refine blk_drew ?_ | refine blk_alloc ?_ _)); exact BK257.out)) (below_size (by repeat (first | (with_reducible first | exact HB.out | apply below_alloc | apply pw_below_drewN | apply below_drew1 | refine below_set ?_ GE256.out | refine below_set ?_ GE257.out) | exact HB.out))))
                        have n3_ := Aside0.mk (blk_below (g := gb256) (o := .cells #[.bool a1_0, .int .i64 a1_1, .bool a1_2, .int .i64 a1_3, .slice A1_4 l1_4.length c1_4] 27 (0, 0)) (by (with_reducible repeat (first | refine blk_drewN ?_ _ | refine blk_drew ?_ | refine blk_alloc ?_ _)); exact BK256.out) hb)
                        have n4_ := Aside0.mk (blk_below (g := gb257) (o := .cells #[.bool a2_0, .int .i64 a2_1, .int .i64 a2_2] 23 (0, 0)) (by (with_reducible repeat (first | refine blk_drewN ?_ _ | refine blk_drew ?_ | refine blk_alloc ?_ _)); exact BK257.out) hb)
                        have n5_ := Aside0.mk (below_step (by repeat (first | (with_reducible first | exact HB.out | apply below_alloc | apply pw_below_drewN | apply below_drew1 | refine below_set ?_ GE256.out | refine below_set ?_ GE257.out) | exact HB.out)) hb)
                        clear HO_10
                        clear HO301
                        clear BK256
                        clear BK257
                        clear HB
                        have HO_10 := n0_
                        have HO301 := n1_
                        have HO304 := n2_
                        have BK256 := n3_
                        have BK257 := n4_
                        have HB := n5_
                        clear n0_ n1_ n2_ n3_ n4_ n5_
                        clear hb ho83
                        refine hK.out _ _ ⟨(blk_cell BK257.out 0).trans rfl, (blk_cell BK257.out 1).trans rfl, (blk_cell BK257.out 2).trans rfl⟩ (fun hHeld => ?_)
                        clear hK K
                        refine norm_ (a' := ?_) ?_ ?_
                        rotate_left
                        · show Act.put _ (some 77) _ = _
                          simp only [Act.put, List.setIfInBounds_toArray, List.set_cons_zero, List.set_cons_succ, i64_w, i32_w]
                          rfl
                        exact norm_ (by simp only [putAll, Act.put, List.setIfInBounds_toArray, List.set_cons_zero, List.set_cons_succ]) (hCont (v297, v300, v303) _ ⟨hHeld, (by (with_reducible repeat (first | apply Kd.R_alloc | apply Kd.R_drewN | apply Kd.R_drew)); exact Kd.R_mono HO301.out (fun _ hk => ⟨hk.2, ⟨hk.1.1, hk.1.2⟩⟩)), (by (with_reducible repeat (first | apply Kd.R_alloc | apply Kd.R_drewN | apply Kd.R_drew)); exact Kd.R_mono HO304.out (fun _ hk => ⟨hk.1.2, ⟨hk.1.1.2, hk.2⟩⟩)), (by (with_reducible repeat (first | apply Kd.R_alloc | apply Kd.R_drewN | apply Kd.R_drew)); exact Kd.R_mono HO_10.out (fun _ hk => ⟨hk.1.2, ⟨hk.2, hk.1.1⟩⟩)), (by (with_reducible repeat (first | refine blk_drewN ?_ _ | refine blk_drew ?_ | refine blk_alloc ?_ _)); exact BK256.out), (by (with_reducible repeat (first | refine blk_drewN ?_ _ | refine blk_drew ?_ | refine blk_alloc ?_ _)); exact BK257.out), (by repeat (first | (with_reducible first | exact HB.out | apply below_alloc | apply pw_below_drewN | apply below_drew1 | refine below_set ?_ GE256.out | refine below_set ?_ GE257.out) | exact HB.out))⟩)
                      · skip
                        refine Kd.R_lit_step k23 _ 23 ?hg (N := 77) ?hd (xs := ([(⟨a2_0, a2_1, a2_2⟩ : S23)] : List (S23))) (inner := [.bool a2_0, .int .i64 a2_1, .int .i64 a2_2]) (ok := fun _ => True) (okp := fun _ => True) ?hr ?hp (fun _ hk => hk) trivial (Below.refl _ _) (Nat.le_refl _) (by simp) ?_; (case hd => rfl); (case hg => rfl); (case hr => first | (go_simp; done) | (go_simp; rfl)); (case hp => exact (Reps.c3 (show Kd.M k23 _ _ _ (⟨a2_0, a2_1, a2_2⟩ : S23) [.bool a2_0, .int .i64 a2_1, .int .i64 a2_2] from (k23_mkM _ _ _ (⟨a2_0, a2_1, a2_2⟩ : S23) )) (Reps.none _ _)))
                        intro v303 w81 ho82 hb hg_ hnew_
                        clear hg_ hnew_
                        (first | rw [← Ny302.out] at ho82 | (simp only [Int.reduceToNat] at ho82; rw [← Ny302.out] at ho82))
                        have n0_ := Aside0.mk (Kd.R_elder' (by (with_reducible repeat (first | apply Kd.R_alloc | apply Kd.R_drewN | apply Kd.R_drew)); exact HO_10.out) (Kd.R_base ho82) hb)
                        have n1_ := Aside0.mk (Kd.R_elder' (by (with_reducible repeat (first | apply Kd.R_alloc | apply Kd.R_drewN | apply Kd.R_drew)); exact HO298.out) (Kd.R_base ho82) hb)
                        have n2_ := Aside0.mk (Kd.R_lower (Kd.R_newB (Kd.R_new' (Kd.R_new' ho82 (Kd.R_lt (by (with_reducible repeat (first | apply Kd.R_alloc | apply Kd.R_drewN | apply Kd.R_drew)); exact HO_10.out))) (Kd.R_lt (by (with_reducible repeat (first | apply Kd.R_alloc | apply Kd.R_drewN | apply Kd.R_drew)); exact HO298.out))) (g := gb257) (o := .cells #[.bool a2_0, .int .i64 a2_1, .int .i64 a2_2] 23 (0, 0)) (by (with_reducible repeat (first | refine blk_drewN ?_ _ | refine blk_drew ?_ | refine blk_alloc ?_ _)); exact BK257.out)) (below_size (by repeat (first | (with_reducible first | exact HB.out | apply below_alloc | apply pw_below_drewN | apply below_drew1 | refine below_set ?_ GE256.out | refine below_set ?_ GE257.out) | exact HB.out))))
                        have n3_ := Aside0.mk (blk_below (g := gb256) (o := .cells #[.bool a1_0, .int .i64 a1_1, .bool a1_2, .int .i64 a1_3, .slice A1_4 l1_4.length c1_4] 27 (0, 0)) (by (with_reducible repeat (first | refine blk_drewN ?_ _ | refine blk_drew ?_ | refine blk_alloc ?_ _)); exact BK256.out) hb)
                        have n4_ := Aside0.mk (blk_below (g := gb257) (o := .cells #[.bool a2_0, .int .i64 a2_1, .int .i64 a2_2] 23 (0, 0)) (by (with_reducible repeat (first | refine blk_drewN ?_ _ | refine blk_drew ?_ | refine blk_alloc ?_ _)); exact BK257.out) hb)
                        have n5_ := Aside0.mk (below_step (by repeat (first | (with_reducible first | exact HB.out | apply below_alloc | apply pw_below_drewN | apply below_drew1 | refine below_set ?_ GE256.out | refine below_set ?_ GE257.out) | exact HB.out)) hb)
                        clear HO_10
                        clear HO298
                        clear BK256
                        clear BK257
                        clear HB
                        have HO_10 := n0_
                        have HO298 := n1_
                        have HO304 := n2_
                        have BK256 := n3_
                        have BK257 := n4_
                        have HB := n5_
                        clear n0_ n1_ n2_ n3_ n4_ n5_
                        clear hb ho82
                        refine hK.out _ _ ⟨(blk_cell BK257.out 0).trans rfl, (blk_cell BK257.out 1).trans rfl, (blk_cell BK257.out 2).trans rfl⟩ (fun hHeld => ?_)
                        clear hK K
                        refine norm_ (a' := ?_) ?_ ?_
                        rotate_left
                        · show Act.put _ (some 77) _ = _
                          simp only [Act.put, List.setIfInBounds_toArray, List.set_cons_zero, List.set_cons_succ, i64_w, i32_w]
                          rfl
                        refine one_ (i := 2) (N := some 75) #[true, true, true, true, true, false, false] rfl rfl (by kernel_rfl) (by decide) (fun K hK => ?_)
                        refine Kd.R_append_rows_step k23 (w0 := w) w.heap.size (by rfl) (.tmp 73) (.tmp 74) 24 23 (.agg #[(.bool false), (.int .i64 0), (.int .i64 0)]) 24 rfl Try.underlying24 info23 rfl (by decide) (by omega) v297 y296 l0 _ _ _ (fun k_ => some k_ ≠ (u10 : Value).ownBlock ∧ some k_ ≠ (v303 : Value).ownBlock ∧ k_ ≠ gb257) (fun _ => False) rfl rfl ?aO ?aR (fun _ _ h => h) (fun _ h => h.elim) ?aF ?aB ?aS ?aL ?_
                        (case aR => repeat (first | exact (Kd.C_below HR0.out HB.out) | (with_reducible refine Kd.C_alloc ?_ _) | (with_reducible refine Kd.C_drewN ?_ _) | (with_reducible refine Kd.C_drew ?_)))
                        (case aB => exact (by repeat (first | (with_reducible first | exact HB.out | apply below_alloc | apply pw_below_drewN | apply below_drew1 | refine below_set ?_ GE256.out | refine below_set ?_ GE257.out) | exact HB.out)))
                        (case aF => exact (fun k_ hk => ⟨Kd.fresh' (Kd.R_lt (by (with_reducible repeat (first | apply Kd.R_alloc | apply Kd.R_drewN | apply Kd.R_drew)); exact HO_10.out)) k_ hk, Kd.fresh' (Kd.R_lt (by (with_reducible repeat (first | apply Kd.R_alloc | apply Kd.R_drewN | apply Kd.R_drew)); exact HO304.out)) k_ hk, Kd.freshB (g := gb257) (o := .cells #[.bool a2_0, .int .i64 a2_1, .int .i64 a2_2] 23 (0, 0)) (by (with_reducible repeat (first | refine blk_drewN ?_ _ | refine blk_drew ?_ | refine blk_alloc ?_ _)); exact BK257.out) k_ hk⟩))
                        (case aO => exact (by (with_reducible repeat (first | apply Kd.R_alloc | apply Kd.R_drewN | apply Kd.R_drew)); exact Kd.R_mono HO298.out (fun _ hk => ⟨hk.1.1.2, ⟨hk.2, hk.1.2⟩⟩)))
                        (case aS => exact (below_size (by repeat (first | (with_reducible first | exact HB.out | apply below_alloc | apply pw_below_drewN | apply below_drew1 | refine below_set ?_ GE256.out | refine below_set ?_ GE257.out) | exact HB.out))))
                        (case aL => have := LMc75.out; omega)
                        intro v300 w83 ho hb hg hat
                        rw [← Ny299.out] at ho
                        have n0_ := Aside0.mk (Kd.R_after (ok := (fun k_ => some k_ ≠ (v303 : Value).ownBlock ∧ k_ ≠ gb257)) (by (with_reducible repeat (first | apply Kd.R_alloc | apply Kd.R_drewN | apply Kd.R_drew)); exact Kd.R_mono HO_10.out (fun _ hk => ⟨⟨hk.2, hk.1.1⟩, hk.1.2⟩)) hg hat)
                        have n1_ := Aside0.mk (blk_grown (g := gb256) (o := .cells #[.bool a1_0, .int .i64 a1_1, .bool a1_2, .int .i64 a1_3, .slice A1_4 l1_4.length c1_4] 27 (0, 0)) (by (with_reducible repeat (first | refine blk_drewN ?_ _ | refine blk_drew ?_ | refine blk_alloc ?_ _)); exact BK256.out) hg (Kd.R_ne HO298.out BK256.out (by decide)))
                        have n2_ := Aside0.mk (blk_grown (g := gb257) (o := .cells #[.bool a2_0, .int .i64 a2_1, .int .i64 a2_2] 23 (0, 0)) (by (with_reducible repeat (first | refine blk_drewN ?_ _ | refine blk_drew ?_ | refine blk_alloc ?_ _)); exact BK257.out) hg (Kd.R_away HO298.out (fun _ hk => hk.1.2)))
                        have n3_ := Aside0.mk (Kd.R_after (ok := (fun k_ => some k_ ≠ (u10 : Value).ownBlock ∧ k_ ≠ gb257)) (by (with_reducible repeat (first | apply Kd.R_alloc | apply Kd.R_drewN | apply Kd.R_drew)); exact Kd.R_mono HO304.out (fun _ hk => ⟨⟨hk.1.1.2, hk.2⟩, hk.1.2⟩)) hg hat)
                        have n4_ := Aside0.mk (hb)
                        have n5_ := Aside0.mk (ho)
                        clear HO_10
                        clear BK256
                        clear BK257
                        clear HO304
                        clear HB
                        clear HO298
                        have HO_10 := n0_
                        have BK256 := n1_
                        have BK257 := n2_
                        have HO304 := n3_
                        have HB := n4_
                        have HO301 := n5_
                        clear n0_ n1_ n2_ n3_ n4_ n5_
                        clear ho hb hg hat
                        refine hK.out _ _ ⟨(blk_cell BK257.out 0).trans rfl, (blk_cell BK257.out 1).trans rfl, (blk_cell BK257.out 2).trans rfl⟩ (fun hHeld => ?_)
                        clear hK K
                        refine norm_ (a' := ?_) ?_ ?_
                        rotate_left
                        · show Act.put _ (some 75) _ = _
                          simp only [Act.put, List.setIfInBounds_toArray, List.set_cons_zero, List.set_cons_succ, i64_w, i32_w]
                          rfl
                        exact norm_ (by simp only [putAll, Act.put, List.setIfInBounds_toArray, List.set_cons_zero, List.set_cons_succ]) (hCont (v297, v300, v303) _ ⟨hHeld, (by (with_reducible repeat (first | apply Kd.R_alloc | apply Kd.R_drewN | apply Kd.R_drew)); exact Kd.R_mono HO301.out (fun _ hk => ⟨hk.2.1, ⟨hk.1, hk.2.2⟩⟩)), (by (with_reducible repeat (first | apply Kd.R_alloc | apply Kd.R_drewN | apply Kd.R_drew)); exact Kd.R_mono HO304.out (fun _ hk => ⟨hk.2, ⟨hk.1.1, hk.1.2⟩⟩)), (by (with_reducible repeat (first | apply Kd.R_alloc | apply Kd.R_drewN | apply Kd.R_drew)); exact Kd.R_mono HO_10.out (fun _ hk => ⟨hk.2, ⟨hk.1.1, hk.1.2⟩⟩)), (by (with_reducible repeat (first | refine blk_drewN ?_ _ | refine blk_drew ?_ | refine blk_alloc ?_ _)); exact BK256.out), (by (with_reducible repeat (first | refine blk_drewN ?_ _ | refine blk_drew ?_ | refine blk_alloc ?_ _)); exact BK257.out), (by repeat (first | (with_reducible first | exact HB.out | apply below_alloc | apply pw_below_drewN | apply below_drew1 | refine below_set ?_ GE256.out | refine below_set ?_ GE257.out) | exact HB.out))⟩)
                    · skip
                      refine Kd.R_lit_step k23 _ 23 ?hg (N := 77) ?hd (xs := ([(⟨a2_0, a2_1, a2_2⟩ : S23)] : List (S23))) (inner := [.bool a2_0, .int .i64 a2_1, .int .i64 a2_2]) (ok := fun _ => True) (okp := fun _ => True) ?hr ?hp (fun _ hk => hk) trivial (Below.refl _ _) (Nat.le_refl _) (by simp) ?_; (case hd => rfl); (case hg => rfl); (case hr => first | (go_simp; done) | (go_simp; rfl)); (case hp => exact (Reps.c3 (show Kd.M k23 _ _ _ (⟨a2_0, a2_1, a2_2⟩ : S23) [.bool a2_0, .int .i64 a2_1, .int .i64 a2_2] from (k23_mkM _ _ _ (⟨a2_0, a2_1, a2_2⟩ : S23) )) (Reps.none _ _)))
                      intro v303 w79 ho80 hb hg_ hnew_
                      clear hg_ hnew_
                      (first | rw [← Ny302.out] at ho80 | (simp only [Int.reduceToNat] at ho80; rw [← Ny302.out] at ho80))
                      have n0_ := Aside0.mk (Kd.R_elder' (by (with_reducible repeat (first | apply Kd.R_alloc | apply Kd.R_drewN | apply Kd.R_drew)); exact HO_10.out) (Kd.R_base ho80) hb)
                      have n1_ := Aside0.mk (Kd.R_lower (Kd.R_newB (Kd.R_new' ho80 (Kd.R_lt (by (with_reducible repeat (first | apply Kd.R_alloc | apply Kd.R_drewN | apply Kd.R_drew)); exact HO_10.out))) (g := gb257) (o := .cells #[.bool a2_0, .int .i64 a2_1, .int .i64 a2_2] 23 (0, 0)) (by (with_reducible repeat (first | refine blk_drewN ?_ _ | refine blk_drew ?_ | refine blk_alloc ?_ _)); exact BK257.out)) (below_size (by repeat (first | (with_reducible first | exact HB.out | apply below_alloc | apply pw_below_drewN | apply below_drew1 | refine below_set ?_ GE256.out | refine below_set ?_ GE257.out) | exact HB.out))))
                      have n2_ := Aside0.mk (blk_below (g := gb256) (o := .cells #[.bool a1_0, .int .i64 a1_1, .bool a1_2, .int .i64 a1_3, .slice A1_4 l1_4.length c1_4] 27 (0, 0)) (by (with_reducible repeat (first | refine blk_drewN ?_ _ | refine blk_drew ?_ | refine blk_alloc ?_ _)); exact BK256.out) hb)
                      have n3_ := Aside0.mk (blk_below (g := gb257) (o := .cells #[.bool a2_0, .int .i64 a2_1, .int .i64 a2_2] 23 (0, 0)) (by (with_reducible repeat (first | refine blk_drewN ?_ _ | refine blk_drew ?_ | refine blk_alloc ?_ _)); exact BK257.out) hb)
                      have n4_ := Aside0.mk (below_step (by repeat (first | (with_reducible first | exact HB.out | apply below_alloc | apply pw_below_drewN | apply below_drew1 | refine below_set ?_ GE256.out | refine below_set ?_ GE257.out) | exact HB.out)) hb)
                      clear HO_10
                      clear BK256
                      clear BK257
                      clear HB
                      have HO_10 := n0_
                      have HO304 := n1_
                      have BK256 := n2_
                      have BK257 := n3_
                      have HB := n4_
                      clear n0_ n1_ n2_ n3_ n4_
                      clear hb ho80
                      refine hK.out _ _ ⟨(blk_cell BK257.out 0).trans rfl, (blk_cell BK257.out 1).trans rfl, (blk_cell BK257.out 2).trans rfl⟩ (fun hHeld => ?_)
                      clear hK K
                      refine norm_ (a' := ?_) ?_ ?_
                      rotate_left
                      · show Act.put _ (some 77) _ = _
                        simp only [Act.put, List.setIfInBounds_toArray, List.set_cons_zero, List.set_cons_succ, i64_w, i32_w]
                        rfl
                      refine one_ (i := 0) (N := some 73) #[true, true, false, true, true, false, false] rfl rfl (by kernel_rfl) (by decide) (fun K hK => ?_)
                      refine Kd.R_lit_step k23 _ 23 ?hg (N := 73) ?hd (xs := ([] : List (S23))) (inner := []) (ok := fun _ => True) (okp := fun _ => True) ?hr ?hp (fun _ hk => hk) trivial (Below.refl _ _) (Nat.le_refl _) (by simp) ?_; (case hd => rfl); (case hg => rfl); (case hr => first | (go_simp; done) | (go_simp; rfl)); (case hp => exact (Reps.none _ _))
                      intro v297 w81 ho82 hb hg_ hnew_
                      clear hg_ hnew_
                      (first | rw [← Ny296.out] at ho82 | (simp only [Int.reduceToNat] at ho82; rw [← Ny296.out] at ho82))
                      have n0_ := Aside0.mk (Kd.R_elder' (by (with_reducible repeat (first | apply Kd.R_alloc | apply Kd.R_drewN | apply Kd.R_drew)); exact HO_10.out) (Kd.R_base ho82) hb)
                      have n1_ := Aside0.mk (Kd.R_elder' (by (with_reducible repeat (first | apply Kd.R_alloc | apply Kd.R_drewN | apply Kd.R_drew)); exact HO304.out) (Kd.R_base ho82) hb)
                      have n2_ := Aside0.mk (Kd.R_lower (Kd.R_newB (Kd.R_new' (Kd.R_new' ho82 (Kd.R_lt (by (with_reducible repeat (first | apply Kd.R_alloc | apply Kd.R_drewN | apply Kd.R_drew)); exact HO_10.out))) (Kd.R_lt (by (with_reducible repeat (first | apply Kd.R_alloc | apply Kd.R_drewN | apply Kd.R_drew)); exact HO304.out))) (g := gb257) (o := .cells #[.bool a2_0, .int .i64 a2_1, .int .i64 a2_2] 23 (0, 0)) (by (with_reducible repeat (first | refine blk_drewN ?_ _ | refine blk_drew ?_ | refine blk_alloc ?_ _)); exact BK257.out)) (below_size (by repeat (first | (with_reducible first | exact HB.out | apply below_alloc | apply pw_below_drewN | apply below_drew1 | refine below_set ?_ GE256.out | refine below_set ?_ GE257.out) | exact HB.out))))
                      have n3_ := Aside0.mk (blk_below (g := gb256) (o := .cells #[.bool a1_0, .int .i64 a1_1, .bool a1_2, .int .i64 a1_3, .slice A1_4 l1_4.length c1_4] 27 (0, 0)) (by (with_reducible repeat (first | refine blk_drewN ?_ _ | refine blk_drew ?_ | refine blk_alloc ?_ _)); exact BK256.out) hb)
                      have n4_ := Aside0.mk (blk_below (g := gb257) (o := .cells #[.bool a2_0, .int .i64 a2_1, .int .i64 a2_2] 23 (0, 0)) (by (with_reducible repeat (first | refine blk_drewN ?_ _ | refine blk_drew ?_ | refine blk_alloc ?_ _)); exact BK257.out) hb)
                      have n5_ := Aside0.mk (below_step (by repeat (first | (with_reducible first | exact HB.out | apply below_alloc | apply pw_below_drewN | apply below_drew1 | refine below_set ?_ GE256.out | refine below_set ?_ GE257.out) | exact HB.out)) hb)
                      clear HO_10
                      clear HO304
                      clear BK256
                      clear BK257
                      clear HB
                      have HO_10 := n0_
                      have HO304 := n1_
                      have HO298 := n2_
                      have BK256 := n3_
                      have BK257 := n4_
                      have HB := n5_
                      clear n0_ n1_ n2_ n3_ n4_ n5_
                      clear hb ho82
                      refine hK.out _ _ ⟨(blk_cell BK257.out 0).trans rfl, (blk_cell BK257.out 1).trans rfl, (blk_cell BK257.out 2).trans rfl⟩ (fun hHeld => ?_)
                      clear hK K
                      refine norm_ (a' := ?_) ?_ ?_
                      rotate_left
                      · show Act.put _ (some 73) _ = _
                        simp only [Act.put, List.setIfInBounds_toArray, List.set_cons_zero, List.set_cons_succ, i64_w, i32_w]
                        rfl
                      refine one_ (i := 2) (N := some 75) #[true, true, true, true, true, false, false] rfl rfl (by kernel_rfl) (by decide) (fun K hK => ?_)
                      refine Kd.R_append_rows_step k23 (w0 := w) w.heap.size (by rfl) (.tmp 73) (.tmp 74) 24 23 (.agg #[(.bool false), (.int .i64 0), (.int .i64 0)]) 24 rfl Try.underlying24 info23 rfl (by decide) (by omega) v297 y296 l0 _ _ _ (fun k_ => some k_ ≠ (u10 : Value).ownBlock ∧ some k_ ≠ (v303 : Value).ownBlock ∧ k_ ≠ gb257) (fun _ => False) rfl rfl ?aO ?aR (fun _ _ h => h) (fun _ h => h.elim) ?aF ?aB ?aS ?aL ?_
                      (case aR => repeat (first | exact (Kd.C_below HR0.out HB.out) | (with_reducible refine Kd.C_alloc ?_ _) | (with_reducible refine Kd.C_drewN ?_ _) | (with_reducible refine Kd.C_drew ?_)))
                      (case aB => exact (by repeat (first | (with_reducible first | exact HB.out | apply below_alloc | apply pw_below_drewN | apply below_drew1 | refine below_set ?_ GE256.out | refine below_set ?_ GE257.out) | exact HB.out)))
                      (case aF => exact (fun k_ hk => ⟨Kd.fresh' (Kd.R_lt (by (with_reducible repeat (first | apply Kd.R_alloc | apply Kd.R_drewN | apply Kd.R_drew)); exact HO_10.out)) k_ hk, Kd.fresh' (Kd.R_lt (by (with_reducible repeat (first | apply Kd.R_alloc | apply Kd.R_drewN | apply Kd.R_drew)); exact HO304.out)) k_ hk, Kd.freshB (g := gb257) (o := .cells #[.bool a2_0, .int .i64 a2_1, .int .i64 a2_2] 23 (0, 0)) (by (with_reducible repeat (first | refine blk_drewN ?_ _ | refine blk_drew ?_ | refine blk_alloc ?_ _)); exact BK257.out) k_ hk⟩))
                      (case aO => exact (by (with_reducible repeat (first | apply Kd.R_alloc | apply Kd.R_drewN | apply Kd.R_drew)); exact Kd.R_mono HO298.out (fun _ hk => ⟨hk.1.1.2, ⟨hk.1.2, hk.2⟩⟩)))
                      (case aS => exact (below_size (by repeat (first | (with_reducible first | exact HB.out | apply below_alloc | apply pw_below_drewN | apply below_drew1 | refine below_set ?_ GE256.out | refine below_set ?_ GE257.out) | exact HB.out))))
                      (case aL => have := LMc75.out; omega)
                      intro v300 w83 ho hb hg hat
                      rw [← Ny299.out] at ho
                      have n0_ := Aside0.mk (Kd.R_after (ok := (fun k_ => some k_ ≠ (v303 : Value).ownBlock ∧ k_ ≠ gb257)) (by (with_reducible repeat (first | apply Kd.R_alloc | apply Kd.R_drewN | apply Kd.R_drew)); exact Kd.R_mono HO_10.out (fun _ hk => ⟨⟨hk.1.2, hk.1.1⟩, hk.2⟩)) hg hat)
                      have n1_ := Aside0.mk (blk_grown (g := gb256) (o := .cells #[.bool a1_0, .int .i64 a1_1, .bool a1_2, .int .i64 a1_3, .slice A1_4 l1_4.length c1_4] 27 (0, 0)) (by (with_reducible repeat (first | refine blk_drewN ?_ _ | refine blk_drew ?_ | refine blk_alloc ?_ _)); exact BK256.out) hg (Kd.R_ne HO298.out BK256.out (by decide)))
                      have n2_ := Aside0.mk (blk_grown (g := gb257) (o := .cells #[.bool a2_0, .int .i64 a2_1, .int .i64 a2_2] 23 (0, 0)) (by (with_reducible repeat (first | refine blk_drewN ?_ _ | refine blk_drew ?_ | refine blk_alloc ?_ _)); exact BK257.out) hg (Kd.R_away HO298.out (fun _ hk => hk.2)))
                      have n3_ := Aside0.mk (Kd.R_after (ok := (fun k_ => some k_ ≠ (u10 : Value).ownBlock ∧ k_ ≠ gb257)) (by (with_reducible repeat (first | apply Kd.R_alloc | apply Kd.R_drewN | apply Kd.R_drew)); exact Kd.R_mono HO304.out (fun _ hk => ⟨⟨hk.1.1.2, hk.1.2⟩, hk.2⟩)) hg hat)
                      have n4_ := Aside0.mk (hb)
                      have n5_ := Aside0.mk (ho)
                      clear HO_10
                      clear BK256
                      clear BK257
                      clear HO304
                      clear HB
                      clear HO298
                      have HO_10 := n0_
                      have BK256 := n1_
                      have BK257 := n2_
                      have HO304 := n3_
                      have HB := n4_
                      have HO301 := n5_
                      clear n0_ n1_ n2_ n3_ n4_ n5_
                      clear ho hb hg hat
                      refine hK.out _ _ ⟨(blk_cell BK257.out 0).trans rfl, (blk_cell BK257.out 1).trans rfl, (blk_cell BK257.out 2).trans rfl⟩ (fun hHeld => ?_)
                      clear hK K
                      refine norm_ (a' := ?_) ?_ ?_
                      rotate_left
                      · show Act.put _ (some 75) _ = _
                        simp only [Act.put, List.setIfInBounds_toArray, List.set_cons_zero, List.set_cons_succ, i64_w, i32_w]
                        rfl
                      exact norm_ (by simp only [putAll, Act.put, List.setIfInBounds_toArray, List.set_cons_zero, List.set_cons_succ]) (hCont (v297, v300, v303) _ ⟨hHeld, (by (with_reducible repeat (first | apply Kd.R_alloc | apply Kd.R_drewN | apply Kd.R_drew)); exact Kd.R_mono HO301.out (fun _ hk => ⟨hk.2.1, ⟨hk.1, hk.2.2⟩⟩)), (by (with_reducible repeat (first | apply Kd.R_alloc | apply Kd.R_drewN | apply Kd.R_drew)); exact Kd.R_mono HO304.out (fun _ hk => ⟨hk.2, ⟨hk.1.1, hk.1.2⟩⟩)), (by (with_reducible repeat (first | apply Kd.R_alloc | apply Kd.R_drewN | apply Kd.R_drew)); exact Kd.R_mono HO_10.out (fun _ hk => ⟨hk.2, ⟨hk.1.1, hk.1.2⟩⟩)), (by (with_reducible repeat (first | refine blk_drewN ?_ _ | refine blk_drew ?_ | refine blk_alloc ?_ _)); exact BK256.out), (by (with_reducible repeat (first | refine blk_drewN ?_ _ | refine blk_drew ?_ | refine blk_alloc ?_ _)); exact BK257.out), (by repeat (first | (with_reducible first | exact HB.out | apply below_alloc | apply pw_below_drewN | apply below_drew1 | refine below_set ?_ GE256.out | refine below_set ?_ GE257.out) | exact HB.out))⟩)
                  rintro ⟨v297, v300, v303⟩ w84 ⟨hS_, h0_, h1_, h2_, h3_, h4_, h5_⟩
                  have n0_ : Aside0 (Kd.R k23 23 w84 w.heap.size (fun k_ => some k_ ≠ (v303 : Value).ownBlock ∧ some k_ ≠ (u10 : Value).ownBlock ∧ k_ ≠ gb257) v300 y299) := ⟨h0_⟩
                  have n1_ : Aside0 (Kd.R k23 23 w84 w.heap.size (fun k_ => some k_ ≠ (v300 : Value).ownBlock ∧ some k_ ≠ (u10 : Value).ownBlock ∧ k_ ≠ gb257) v303 y302) := ⟨h1_⟩
                  have n2_ : Aside0 (Kd.R k23 23 w84 w.heap.size (fun k_ => some k_ ≠ (v300 : Value).ownBlock ∧ some k_ ≠ (v303 : Value).ownBlock ∧ k_ ≠ gb257) u10 x10_2) := ⟨h2_⟩
                  have n3_ : Aside0 (w84.heap[gb256]? = some (.cells #[.bool a1_0, .int .i64 a1_1, .bool a1_2, .int .i64 a1_3, .slice A1_4 l1_4.length c1_4] 27 (0, 0))) := ⟨h3_⟩
                  have n4_ : Aside0 (w84.heap[gb257]? = some (.cells #[.bool a2_0, .int .i64 a2_1, .int .i64 a2_2] 23 (0, 0))) := ⟨h4_⟩
                  have n5_ : Aside0 (Below w.heap.size w w84) := ⟨h5_⟩
                  clear HO_10
                  clear BK256
                  clear BK257
                  clear HB
                  clear h0_ h1_ h2_ h3_ h4_ h5_
                  have HO301 := n0_
                  have HO304 := n1_
                  have HO_10 := n2_
                  have BK256 := n3_
                  have BK257 := n4_
                  have HB := n5_
                  clear n0_ n1_ n2_ n3_ n4_ n5_
                  have hHeld : w84.cell? ⟨gb257, 0, none⟩ = some (.bool a2_0) ∧ w84.cell? ⟨gb257, 1, none⟩ = some (.int .i64 a2_1) ∧ w84.cell? ⟨gb257, 2, none⟩ = some (.int .i64 a2_2) := hS_
                  obtain ⟨Ao86, co86, eo86⟩ := Kd.R_slice HO304.out
                  (first | subst eo86 | (injection eo86 with f1_ f2_ f3_; have f4_ := f1_.symm; have f5_ := f3_.symm; clear f1_ f2_ f3_; subst f4_; subst f5_))
                  refine norm_ (a' := ?_) ?_ ?_
                  rotate_left
                  · simp only [putAll, Act.put, List.setIfInBounds_toArray, List.set_cons_zero, List.set_cons_succ]
                    rfl
                  refine one_ (i := 5) (N := some 78) #[true, true, true, true, true, true, false] rfl rfl (by kernel_rfl) (by decide) (fun K hK => ?_)
                  refine Kd.R_append_rows_step k23 (w0 := w) w.heap.size (by rfl) (.tmp 75) (.tmp 77) 24 23 (.agg #[(.bool false), (.int .i64 0), (.int .i64 0)]) 24 rfl Try.underlying24 info23 rfl (by decide) (by omega) v300 y299 y302 _ _ _ (fun k_ => some k_ ≠ (u10 : Value).ownBlock ∧ some k_ ≠ (.slice Ao86 y302.length co86 : Value).ownBlock ∧ k_ ≠ gb257) (fun _ => False) rfl rfl ?aO ?aR (fun _ _ h => h) (fun _ h => h.elim) ?aF ?aB ?aS ?aL ?_
                  (case aR => repeat (first | exact (Kd.R_reads' HO304.out).2.2 | (with_reducible refine Kd.C_alloc ?_ _) | (with_reducible refine Kd.C_drewN ?_ _) | (with_reducible refine Kd.C_drew ?_)))
                  (case aB => exact (by repeat (first | (with_reducible first | exact HB.out | apply below_alloc | apply pw_below_drewN | apply below_drew1 | refine below_set ?_ GE256.out | refine below_set ?_ GE257.out) | exact HB.out)))
                  (case aF => exact (fun k_ hk => ⟨Kd.fresh' (Kd.R_lt (by (with_reducible repeat (first | apply Kd.R_alloc | apply Kd.R_drewN | apply Kd.R_drew)); exact HO_10.out)) k_ hk, Kd.fresh' (Kd.R_lt (by (with_reducible repeat (first | apply Kd.R_alloc | apply Kd.R_drewN | apply Kd.R_drew)); exact HO304.out)) k_ hk, Kd.freshB (g := gb257) (o := .cells #[.bool a2_0, .int .i64 a2_1, .int .i64 a2_2] 23 (0, 0)) (by (with_reducible repeat (first | refine blk_drewN ?_ _ | refine blk_drew ?_ | refine blk_alloc ?_ _)); exact BK257.out) k_ hk⟩))
                  (case aO => exact (by (with_reducible repeat (first | apply Kd.R_alloc | apply Kd.R_drewN | apply Kd.R_drew)); exact Kd.R_mono HO301.out (fun _ hk => ⟨hk.2.1, ⟨hk.1, hk.2.2⟩⟩)))
                  (case aS => exact (below_size (by repeat (first | (with_reducible first | exact HB.out | apply below_alloc | apply pw_below_drewN | apply below_drew1 | refine below_set ?_ GE256.out | refine below_set ?_ GE257.out) | exact HB.out))))
                  (case aL => have := LMc76.out; omega)
                  intro v306 w85 ho hb hg hat
                  rw [← Ny305.out] at ho
                  have n0_ := Aside0.mk (Kd.R_after (ok := (fun k_ => some k_ ≠ (.slice Ao86 y302.length co86 : Value).ownBlock ∧ k_ ≠ gb257)) (by (with_reducible repeat (first | apply Kd.R_alloc | apply Kd.R_drewN | apply Kd.R_drew)); exact Kd.R_mono HO_10.out (fun _ hk => ⟨⟨hk.2.1, hk.2.2⟩, hk.1⟩)) hg hat)
                  have n1_ := Aside0.mk (blk_grown (g := gb256) (o := .cells #[.bool a1_0, .int .i64 a1_1, .bool a1_2, .int .i64 a1_3, .slice A1_4 l1_4.length c1_4] 27 (0, 0)) (by (with_reducible repeat (first | refine blk_drewN ?_ _ | refine blk_drew ?_ | refine blk_alloc ?_ _)); exact BK256.out) hg (Kd.R_ne HO301.out BK256.out (by decide)))
                  have n2_ := Aside0.mk (blk_grown (g := gb257) (o := .cells #[.bool a2_0, .int .i64 a2_1, .int .i64 a2_2] 23 (0, 0)) (by (with_reducible repeat (first | refine blk_drewN ?_ _ | refine blk_drew ?_ | refine blk_alloc ?_ _)); exact BK257.out) hg (Kd.R_away HO301.out (fun _ hk => hk.2.2)))
                  have n3_ := Aside0.mk (Kd.R_after (ok := (fun k_ => some k_ ≠ (u10 : Value).ownBlock ∧ k_ ≠ gb257)) (by (with_reducible repeat (first | apply Kd.R_alloc | apply Kd.R_drewN | apply Kd.R_drew)); exact Kd.R_mono HO304.out (fun _ hk => ⟨⟨hk.2.1, hk.2.2⟩, hk.1⟩)) hg hat)
                  have n4_ := Aside0.mk (hb)
                  have n5_ := Aside0.mk (ho)
                  clear HO_10
                  clear BK256
                  clear BK257
                  clear HO304
                  clear HB
                  clear HO301
                  have HO_10 := n0_
                  have BK256 := n1_
                  have BK257 := n2_
                  have HO304 := n3_
                  have HB := n4_
                  have HO307 := n5_
                  clear n0_ n1_ n2_ n3_ n4_ n5_
                  clear ho hb hg hat
                  refine hK.out _ _ ⟨(blk_cell BK257.out 0).trans rfl, (blk_cell BK257.out 1).trans rfl, (blk_cell BK257.out 2).trans rfl⟩ (fun hHeld => ?_)
                  clear hK K
                  refine norm_ (a' := ?_) ?_ ?_
                  rotate_left
                  · show Act.put _ (some 78) _ = _
                    simp only [Act.put, List.setIfInBounds_toArray, List.set_cons_zero, List.set_cons_succ, i64_w, i32_w]
                    rfl
                  refine pure_ (i := 6) (N := some 12) (v := ?_) (a' := ?_) #[true, true, true, true, true, true, true] rfl rfl (by kernel_rfl) (fun _ _ _ h => h) (Or.inl ⟨by rfl, ?_⟩) ?_ ?_
                  rotate_left
                  · intro w'
                    go_simp
                    with_reducible rfl
                  rotate_left
                  · simp only [Act.put, List.setIfInBounds_toArray, List.set_cons_zero, List.set_cons_succ, i64_w, i32_w]
                    rfl
                  refine done_ (by kernel_rfl) ?_
                  go_upto_region 14 with (fail)
                  go_cut [90] (fun v90 wc => ∃ (kq : Nat) (x90_76 : Bool), v90 = .bool x90_76 ∧ Aside0 (phaetonlaw07_FilterAny.j2 kq l0 t258 x8_2 x9_2 y305 x90_76 a1_0 a1_1 a1_2 a1_3 l1_4 a2_0 a2_1 a2_2 = some r) ∧ Aside0 (kq ≤ k2) ∧ Aside0 (Kd.R k23 23 wc w.heap.size (fun k_ => k_ ≠ gb257) v306 y305) ∧ Aside0 (wc.heap[gb256]? = some (.cells #[.bool a1_0, .int .i64 a1_1, .bool a1_2, .int .i64 a1_3, (.slice A1_4 l1_4.length c1_4)] 27 (0, 0))) ∧ Aside0 (wc.heap[gb257]? = some (.cells #[.bool a2_0, .int .i64 a2_1, .int .i64 a2_2] 23 (0, 0))) ∧ Aside0 (Below w.heap.size w wc))
                  case first =>
                    have H := HC77.out
                    clear HC77
                    replace H := Option.bind_eq_some_iff.mp H
                    obtain ⟨t308, A870, H⟩ := H
                    replace H : (if (t308 != x8_2) = true then (phaetonlaw07_FilterAny.j2 k2 l0 t258 x8_2 x9_2 y305 true a1_0 a1_1 a1_2 a1_3 l1_4 a2_0 a2_1 a2_2) else ((filter_Any.f x10_2 a1_0 a1_1 a1_2 a1_3 l1_4).bind fun t309 => (phaetonlaw07_FilterAny.j2 k2 l0 t258 x8_2 x9_2 y305 (t309 != x8_2) a1_0 a1_1 a1_2 a1_3 l1_4 a2_0 a2_1 a2_2))) = some r := H
                    have A87 := Aside0.mk A870
                    clear A870
                    by_cases c88 : (t308 != x8_2) = true
                    · rw [if_pos c88] at H
                      have c88b0 : (t308 != x8_2) = true := c88
                      (try (have c88b1 : decide (t308 = x8_2) = false := by simpa using c88))
                      (try (have c88b2 : (t308 == x8_2) = false := by simpa using c88))
                      (try (have c88b3 : ¬ (t308 = x8_2) := by simpa using c88))
                      clear c88
                      (first | rw [c88b0] | (simp only [i64_w, i32_w]; rw [c88b0]) | skip)
                      have H' := Aside0.mk H
                      clear H
                      have hnb89 := NB256_257.out
                      have hnc89 := NB257_256.out
                      have hcz90_0 : w85.cell? ⟨gb256, 0, none⟩ = some (.bool a1_0) := (blk_cell BK256.out 0).trans rfl
                      have hcz90_1 : w85.cell? ⟨gb256, 1, none⟩ = some (.int .i64 a1_1) := (blk_cell BK256.out 1).trans rfl
                      have hcz90_2 : w85.cell? ⟨gb256, 2, none⟩ = some (.bool a1_2) := (blk_cell BK256.out 2).trans rfl
                      have hcz90_3 : w85.cell? ⟨gb256, 3, none⟩ = some (.int .i64 a1_3) := (blk_cell BK256.out 3).trans rfl
                      have hcz90_4 : w85.cell? ⟨gb256, 4, none⟩ = some (.slice A1_4 l1_4.length c1_4) := (blk_cell BK256.out 4).trans rfl
                      have hfz90_0 := blk_frozen BK256.out 0
                      have hfz90_1 := blk_frozen BK256.out 1
                      have hfz90_2 := blk_frozen BK256.out 2
                      have hfz90_3 := blk_frozen BK256.out 3
                      have hfz90_4 := blk_frozen BK256.out 4
                      go_wp2_with (first | ((with_reducible refine gate_callee (f := 17) rfl ?_); refine goesL_ (some 81) rfl rfl Try.func17 (by kernel_rfl) rfl #[.slice A0 l0.length c0, .agg #[.bool a1_0, .int .i64 a1_1, .bool a1_2, .int .i64 a1_3, .slice A1_4 l1_4.length c1_4]] rfl (by (try simp only [List.map_toArray, List.map_cons, List.map_nil]); first | done | rfl | (simp only [List.length_drop, List.length_take]; rfl)) ?_; (with_reducible refine (filter_Any.calls _ _ l0 a1_0 a1_1 a1_2 a1_3 _ _ l1_4 t308 _ ?side1 ?side2 ?side3 ?side4 A87.out).mono ?_); (case side1 => repeat (first | exact (Kd.C_below HR0.out HB.out) | (with_reducible refine Kd.C_alloc ?_ _) | (with_reducible refine Kd.C_drewN ?_ _) | (with_reducible refine Kd.C_drew ?_))); (case side2 => exact HC0.out); (case side3 => repeat (first | exact (Kd.C_below HR1_4.out HB.out) | (with_reducible refine Kd.C_alloc ?_ _) | (with_reducible refine Kd.C_drewN ?_ _) | (with_reducible refine Kd.C_drew ?_))); (case side4 => exact HC1_4.out); rintro e w91 ⟨rfl, hb⟩; refine ⟨_, rfl, ?_⟩; have n0_ := Aside0.mk (Kd.R_below (by (with_reducible repeat (first | apply Kd.R_alloc | apply Kd.R_drewN | apply Kd.R_drew)); exact HO_10.out) hb); have n1_ := Aside0.mk (Kd.R_below (by (with_reducible repeat (first | apply Kd.R_alloc | apply Kd.R_drewN | apply Kd.R_drew)); exact HO304.out) hb); have n2_ := Aside0.mk (Kd.R_below (by (with_reducible repeat (first | apply Kd.R_alloc | apply Kd.R_drewN | apply Kd.R_drew)); exact HO307.out) hb); have n3_ := Aside0.mk (blk_below (g := gb256) (o := .cells #[.bool a1_0, .int .i64 a1_1, .bool a1_2, .int .i64 a1_3, .slice A1_4 l1_4.length c1_4] 27 (0, 0)) (by (with_reducible repeat (first | refine blk_drewN ?_ _ | refine blk_drew ?_ | refine blk_alloc ?_ _)); exact BK256.out) hb); have n4_ := Aside0.mk (blk_below (g := gb257) (o := .cells #[.bool a2_0, .int .i64 a2_1, .int .i64 a2_2] 23 (0, 0)) (by (with_reducible repeat (first | refine blk_drewN ?_ _ | refine blk_drew ?_ | refine blk_alloc ?_ _)); exact BK257.out) hb); have n5_ := Aside0.mk (below_step (by repeat (first | (with_reducible first | exact HB.out | apply below_alloc | apply pw_below_drewN | apply below_drew1 | refine below_set ?_ GE256.out | refine below_set ?_ GE257.out) | exact HB.out)) hb); clear HO_10; clear HO304; clear HO307; clear BK256; clear BK257; clear HB; have HO_10 := n0_; have HO304 := n1_; have HO307 := n2_; have BK256 := n3_; have BK257 := n4_; have HB := n5_; clear n0_ n1_ n2_ n3_ n4_ n5_; (try clear hb); (try clear hb2); (try clear hk); (try clear hi)))
                      go_meet
                      case rel => exact ⟨_, (true), (by first | rfl | (simp; done) | (simp [*]; done)), H', ⟨by have := HJ4.out; have := HK2.out; first | omega | exact Nat.le_refl _⟩, ⟨by (with_reducible repeat (first | apply Kd.R_alloc | apply Kd.R_drewN | apply Kd.R_drew)); exact Kd.R_mono HO307.out (fun _ hk => hk.2.2)⟩, ⟨by (with_reducible repeat (first | refine blk_drewN ?_ _ | refine blk_drew ?_ | refine blk_alloc ?_ _)); exact BK256.out⟩, ⟨by (with_reducible repeat (first | refine blk_drewN ?_ _ | refine blk_drew ?_ | refine blk_alloc ?_ _)); exact BK257.out⟩, ⟨by repeat (first | (with_reducible first | exact HB.out | apply below_alloc | apply pw_below_drewN | apply below_drew1 | refine below_set ?_ GE256.out | refine below_set ?_ GE257.out) | exact HB.out)⟩⟩
                    · rw [if_neg c88] at H
                      have c88b0 : (t308 != x8_2) = false := by simpa using c88
                      (try (have c88b1 : decide (t308 = x8_2) = true := by simpa using c88))
                      (try (have c88b2 : (t308 == x8_2) = true := by simpa using c88))
                      clear c88
                      (first | rw [c88b0] | (simp only [i64_w, i32_w]; rw [c88b0]) | skip)
                      replace H := Option.bind_eq_some_iff.mp H
                      obtain ⟨t309, A920, H⟩ := H
                      replace H : (phaetonlaw07_FilterAny.j2 k2 l0 t258 x8_2 x9_2 y305 (t309 != x8_2) a1_0 a1_1 a1_2 a1_3 l1_4 a2_0 a2_1 a2_2) = some r := H
                      have A92 := Aside0.mk A920
                      clear A920
                      have H' := Aside0.mk H
                      clear H
                      have hnb93 := NB256_257.out
                      have hnc93 := NB257_256.out
                      have hcz94_0 : w85.cell? ⟨gb256, 0, none⟩ = some (.bool a1_0) := (blk_cell BK256.out 0).trans rfl
                      have hcz94_1 : w85.cell? ⟨gb256, 1, none⟩ = some (.int .i64 a1_1) := (blk_cell BK256.out 1).trans rfl
                      have hcz94_2 : w85.cell? ⟨gb256, 2, none⟩ = some (.bool a1_2) := (blk_cell BK256.out 2).trans rfl
                      have hcz94_3 : w85.cell? ⟨gb256, 3, none⟩ = some (.int .i64 a1_3) := (blk_cell BK256.out 3).trans rfl
                      have hcz94_4 : w85.cell? ⟨gb256, 4, none⟩ = some (.slice A1_4 l1_4.length c1_4) := (blk_cell BK256.out 4).trans rfl
                      have hfz94_0 := blk_frozen BK256.out 0
                      have hfz94_1 := blk_frozen BK256.out 1
                      have hfz94_2 := blk_frozen BK256.out 2
                      have hfz94_3 := blk_frozen BK256.out 3
                      have hfz94_4 := blk_frozen BK256.out 4
                      go_wp2_with (first | ((with_reducible refine gate_callee (f := 17) rfl ?_); refine goesL_ (some 81) rfl rfl Try.func17 (by kernel_rfl) rfl #[.slice A0 l0.length c0, .agg #[.bool a1_0, .int .i64 a1_1, .bool a1_2, .int .i64 a1_3, .slice A1_4 l1_4.length c1_4]] rfl (by (try simp only [List.map_toArray, List.map_cons, List.map_nil]); first | done | rfl | (simp only [List.length_drop, List.length_take]; rfl)) ?_; (with_reducible refine (filter_Any.calls _ _ l0 a1_0 a1_1 a1_2 a1_3 _ _ l1_4 t308 _ ?side1 ?side2 ?side3 ?side4 A87.out).mono ?_); (case side1 => repeat (first | exact (Kd.C_below HR0.out HB.out) | (with_reducible refine Kd.C_alloc ?_ _) | (with_reducible refine Kd.C_drewN ?_ _) | (with_reducible refine Kd.C_drew ?_))); (case side2 => exact HC0.out); (case side3 => repeat (first | exact (Kd.C_below HR1_4.out HB.out) | (with_reducible refine Kd.C_alloc ?_ _) | (with_reducible refine Kd.C_drewN ?_ _) | (with_reducible refine Kd.C_drew ?_))); (case side4 => exact HC1_4.out); rintro e w95 ⟨rfl, hb⟩; refine ⟨_, rfl, ?_⟩; have n0_ := Aside0.mk (Kd.R_below (by (with_reducible repeat (first | apply Kd.R_alloc | apply Kd.R_drewN | apply Kd.R_drew)); exact HO_10.out) hb); have n1_ := Aside0.mk (Kd.R_below (by (with_reducible repeat (first | apply Kd.R_alloc | apply Kd.R_drewN | apply Kd.R_drew)); exact HO304.out) hb); have n2_ := Aside0.mk (Kd.R_below (by (with_reducible repeat (first | apply Kd.R_alloc | apply Kd.R_drewN | apply Kd.R_drew)); exact HO307.out) hb); have n3_ := Aside0.mk (blk_below (g := gb256) (o := .cells #[.bool a1_0, .int .i64 a1_1, .bool a1_2, .int .i64 a1_3, .slice A1_4 l1_4.length c1_4] 27 (0, 0)) (by (with_reducible repeat (first | refine blk_drewN ?_ _ | refine blk_drew ?_ | refine blk_alloc ?_ _)); exact BK256.out) hb); have n4_ := Aside0.mk (blk_below (g := gb257) (o := .cells #[.bool a2_0, .int .i64 a2_1, .int .i64 a2_2] 23 (0, 0)) (by (with_reducible repeat (first | refine blk_drewN ?_ _ | refine blk_drew ?_ | refine blk_alloc ?_ _)); exact BK257.out) hb); have n5_ := Aside0.mk (below_step (by repeat (first | (with_reducible first | exact HB.out | apply below_alloc | apply pw_below_drewN | apply below_drew1 | refine below_set ?_ GE256.out | refine below_set ?_ GE257.out) | exact HB.out)) hb); clear HO_10; clear HO304; clear HO307; clear BK256; clear BK257; clear HB; have HO_10 := n0_; have HO304 := n1_; have HO307 := n2_; have BK256 := n3_; have BK257 := n4_; have HB := n5_; clear n0_ n1_ n2_ n3_ n4_ n5_; (try clear hb); (try clear hb2); (try clear hk); (try clear hi); have hcz96_0 : w95.cell? ⟨gb256, 0, none⟩ = some (.bool a1_0) := (blk_cell BK256.out 0).trans rfl; have hcz96_1 : w95.cell? ⟨gb256, 1, none⟩ = some (.int .i64 a1_1) := (blk_cell BK256.out 1).trans rfl; have hcz96_2 : w95.cell? ⟨gb256, 2, none⟩ = some (.bool a1_2) := (blk_cell BK256.out 2).trans rfl; have hcz96_3 : w95.cell? ⟨gb256, 3, none⟩ = some (.int .i64 a1_3) := (blk_cell BK256.out 3).trans rfl; have hcz96_4 : w95.cell? ⟨gb256, 4, none⟩ = some (.slice A1_4 l1_4.length c1_4) := (blk_cell BK256.out 4).trans rfl; have hfz96_0 := blk_frozen BK256.out 0; have hfz96_1 := blk_frozen BK256.out 1; have hfz96_2 := blk_frozen BK256.out 2; have hfz96_3 := blk_frozen BK256.out 3; have hfz96_4 := blk_frozen BK256.out 4; obtain ⟨Ao97, co97, eo97⟩ := Kd.R_slice HO_10.out; subst eo97) | (go_at_call 17; (with_reducible refine (filter_Any.calls _ _ x10_2 a1_0 a1_1 a1_2 a1_3 _ _ l1_4 t309 _ ?side1 ?side2 ?side3 ?side4 A92.out).mono ?_); (case side1 => repeat (first | exact (Kd.R_reads' HO_10.out).2.2 | (with_reducible refine Kd.C_alloc ?_ _) | (with_reducible refine Kd.C_drewN ?_ _) | (with_reducible refine Kd.C_drew ?_))); (case side2 => exact (Kd.R_reads' HO_10.out).2.1); (case side3 => repeat (first | exact (Kd.C_below HR1_4.out HB.out) | (with_reducible refine Kd.C_alloc ?_ _) | (with_reducible refine Kd.C_drewN ?_ _) | (with_reducible refine Kd.C_drew ?_))); (case side4 => exact HC1_4.out); rintro e w98 ⟨rfl, hb⟩; have n0_ := Aside0.mk (Kd.R_below (by (with_reducible repeat (first | apply Kd.R_alloc | apply Kd.R_drewN | apply Kd.R_drew)); exact HO_10.out) hb); have n1_ := Aside0.mk (Kd.R_below (by (with_reducible repeat (first | apply Kd.R_alloc | apply Kd.R_drewN | apply Kd.R_drew)); exact HO304.out) hb); have n2_ := Aside0.mk (Kd.R_below (by (with_reducible repeat (first | apply Kd.R_alloc | apply Kd.R_drewN | apply Kd.R_drew)); exact HO307.out) hb); have n3_ := Aside0.mk (blk_below (g := gb256) (o := .cells #[.bool a1_0, .int .i64 a1_1, .bool a1_2, .int .i64 a1_3, .slice A1_4 l1_4.length c1_4] 27 (0, 0)) (by (with_reducible repeat (first | refine blk_drewN ?_ _ | refine blk_drew ?_ | refine blk_alloc ?_ _)); exact BK256.out) hb); have n4_ := Aside0.mk (blk_below (g := gb257) (o := .cells #[.bool a2_0, .int .i64 a2_1, .int .i64 a2_2] 23 (0, 0)) (by (with_reducible repeat (first | refine blk_drewN ?_ _ | refine blk_drew ?_ | refine blk_alloc ?_ _)); exact BK257.out) hb); have n5_ := Aside0.mk (below_step (by repeat (first | (with_reducible first | exact HB.out | apply below_alloc | apply pw_below_drewN | apply below_drew1 | refine below_set ?_ GE256.out | refine below_set ?_ GE257.out) | exact HB.out)) hb); clear HO_10; clear HO304; clear HO307; clear BK256; clear BK257; clear HB; have HO_10 := n0_; have HO304 := n1_; have HO307 := n2_; have BK256 := n3_; have BK257 := n4_; have HB := n5_; clear n0_ n1_ n2_ n3_ n4_ n5_; (try clear hb); (try clear hb2); (try clear hk); (try clear hi)))
                      go_meet
                      case rel => exact ⟨_, ((t309 != x8_2)), (by first | rfl | (simp; done) | (simp [*]; done)), H', ⟨by have := HJ4.out; have := HK2.out; first | omega | exact Nat.le_refl _⟩, ⟨by (with_reducible repeat (first | apply Kd.R_alloc | apply Kd.R_drewN | apply Kd.R_drew)); exact Kd.R_mono HO307.out (fun _ hk => hk.2.2)⟩, ⟨by (with_reducible repeat (first | refine blk_drewN ?_ _ | refine blk_drew ?_ | refine blk_alloc ?_ _)); exact BK256.out⟩, ⟨by (with_reducible repeat (first | refine blk_drewN ?_ _ | refine blk_drew ?_ | refine blk_alloc ?_ _)); exact BK257.out⟩, ⟨by repeat (first | (with_reducible first | exact HB.out | apply below_alloc | apply pw_below_drewN | apply below_drew1 | refine below_set ?_ GE256.out | refine below_set ?_ GE257.out) | exact HB.out)⟩⟩
                  case rest =>
                    clear HC77
                    try clear c1
                    try clear p2
                    try clear q2
                    try clear hx2
                    try clear c3
                    try clear c5
                    try clear c6
                    try clear p6
                    try clear c7
                    try clear c8
                    try clear c9
                    try clear c17
                    try clear c19
                    try clear p28
                    try clear q28
                    try clear hx28
                    try clear c33
                    try clear c33b0
                    try clear c54
                    try clear p64
                    try clear c66
                    try clear c75
                    try clear c76
                    try clear c88
                    try clear c88b0
                    try clear c88b1
                    try clear c88b2
                    try clear c89
                    try clear c93
                    try clear hcz90_0
                    try clear hcz90_1
                    try clear hcz90_2
                    try clear hcz90_3
                    try clear hcz90_4
                    try clear hcz94_0
                    try clear hcz94_1
                    try clear hcz94_2
                    try clear hcz94_3
                    try clear hcz94_4
                    try clear hcz96_0
                    try clear hcz96_1
                    try clear hcz96_2
                    try clear hcz96_3
                    try clear hcz96_4
                    try clear hfz90_0
                    try clear hfz90_1
                    try clear hfz90_2
                    try clear hfz90_3
                    try clear hfz90_4
                    try clear hfz94_0
                    try clear hfz94_1
                    try clear hfz94_2
                    try clear hfz94_3
                    try clear hfz94_4
                    try clear hfz96_0
                    try clear hfz96_1
                    try clear hfz96_2
                    try clear hfz96_3
                    try clear hfz96_4
                    try clear hx287_0
                    try clear hx287_1
                    try clear hx287_2
                    try clear hx289_0
                    try clear hx289_1
                    try clear hx289_2
                    try clear p287
                    try clear p289
                    try clear q287
                    try clear q289
                    obtain ⟨kq, x90_76, rfl, HA, HJ76, HO_12, BK256, BK257, HB⟩ := hcut
                    cases kq with
                    | zero => exact absurd HA.out (by simp [phaetonlaw07_FilterAny.j2])
                    | succ kj76 =>
                      have H := HA.out
                      clear HA
                      simp only [phaetonlaw07_FilterAny.j2] at H
                      by_cases c99 : x90_76 = true
                      · subst c99
                        have H1 : (none) = some r := by rw [if_pos rfl] at H; exact H
                        clear H
                        have H := H1
                        clear H1
                        exact absurd H (by simp)
                      · replace c99 := Bool.eq_false_iff.mpr c99
                        subst c99
                        have H1 : (if t258 = true then ((filter_Any.f y305 a1_0 a1_1 a1_2 a1_3 l1_4).bind fun t310 => (if (l0.length : Int) > 0 then (if x8_2 = true then (if (t310 == true) = true then (if x9_2 = true then (some (t310 == x8_2)) else (some true)) else (none)) else ((filter_Takes.f a2_0 a2_1 a2_2 a1_0 a1_1 a1_2 a1_3 l1_4).bind fun t311 => (if (t310 == t311) = true then (if x9_2 = true then (some (t310 == x8_2)) else (some true)) else (none)))) else ((filter_Takes.f a2_0 a2_1 a2_2 a1_0 a1_1 a1_2 a1_3 l1_4).bind fun t312 => (if (t310 == t312) = true then (if x9_2 = true then (some (t310 == x8_2)) else (some true)) else (none))))) else (none)) = some r := by rw [if_neg (show ¬ (false = true) by decide)] at H; exact H
                        clear H
                        have H := H1
                        clear H1
                        by_cases c100 : t258 = true
                        · subst c100
                          have H1 : ((filter_Any.f y305 a1_0 a1_1 a1_2 a1_3 l1_4).bind fun t310 => (if (l0.length : Int) > 0 then (if x8_2 = true then (if (t310 == true) = true then (if x9_2 = true then (some (t310 == x8_2)) else (some true)) else (none)) else ((filter_Takes.f a2_0 a2_1 a2_2 a1_0 a1_1 a1_2 a1_3 l1_4).bind fun t311 => (if (t310 == t311) = true then (if x9_2 = true then (some (t310 == x8_2)) else (some true)) else (none)))) else ((filter_Takes.f a2_0 a2_1 a2_2 a1_0 a1_1 a1_2 a1_3 l1_4).bind fun t312 => (if (t310 == t312) = true then (if x9_2 = true then (some (t310 == x8_2)) else (some true)) else (none))))) = some r := by rw [if_pos rfl] at H; exact H
                          clear H
                          have H := H1
                          clear H1
                          replace H := Option.bind_eq_some_iff.mp H
                          obtain ⟨t310, A1010, H⟩ := H
                          replace H : (if (l0.length : Int) > 0 then (if x8_2 = true then (if (t310 == true) = true then (if x9_2 = true then (some (t310 == x8_2)) else (some true)) else (none)) else ((filter_Takes.f a2_0 a2_1 a2_2 a1_0 a1_1 a1_2 a1_3 l1_4).bind fun t311 => (if (t310 == t311) = true then (if x9_2 = true then (some (t310 == x8_2)) else (some true)) else (none)))) else ((filter_Takes.f a2_0 a2_1 a2_2 a1_0 a1_1 a1_2 a1_3 l1_4).bind fun t312 => (if (t310 == t312) = true then (if x9_2 = true then (some (t310 == x8_2)) else (some true)) else (none)))) = some r := H
                          have A101 := Aside0.mk A1010
                          clear A1010
                          by_cases c102 : (l0.length : Int) > 0
                          · rw [if_pos c102] at H
                            have c102b0 : decide (0 < (l0.length : Int)) = true := decide_eq_true c102
                            have c102b1 : decide (0 < l0.length) = true := decide_eq_true (by omega)
                            clear c102
                            by_cases c103 : x8_2 = true
                            · subst c103
                              have H1 : (if (t310 == true) = true then (if x9_2 = true then (some (t310 == true)) else (some true)) else (none)) = some r := by rw [if_pos rfl] at H; exact H
                              clear H
                              have H := H1
                              clear H1
                              by_cases c104 : (t310 == true) = true
                              · rw [if_pos c104] at H
                                have c104b0 : (t310 == true) = true := c104
                                (try (have c104b1 : decide (t310 = true) = true := by simpa using c104))
                                (try (have c104b2 : (t310 == true) = true := by simpa using c104))
                                clear c104
                                by_cases c105 : x9_2 = true
                                · subst c105
                                  have H1 : (some (t310 == true)) = some r := by rw [if_pos rfl] at H; exact H
                                  clear H
                                  have H := H1
                                  clear H1
                                  obtain rfl := Option.some.inj H
                                  have hnb106 := NB256_257.out
                                  have hnc106 := NB257_256.out
                                  have hcz107_0 : wc.cell? ⟨gb256, 0, none⟩ = some (.bool a1_0) := (blk_cell BK256.out 0).trans rfl
                                  have hcz107_1 : wc.cell? ⟨gb256, 1, none⟩ = some (.int .i64 a1_1) := (blk_cell BK256.out 1).trans rfl
                                  have hcz107_2 : wc.cell? ⟨gb256, 2, none⟩ = some (.bool a1_2) := (blk_cell BK256.out 2).trans rfl
                                  have hcz107_3 : wc.cell? ⟨gb256, 3, none⟩ = some (.int .i64 a1_3) := (blk_cell BK256.out 3).trans rfl
                                  have hcz107_4 : wc.cell? ⟨gb256, 4, none⟩ = some (.slice A1_4 l1_4.length c1_4) := (blk_cell BK256.out 4).trans rfl
                                  have hfz107_0 := blk_frozen BK256.out 0
                                  have hfz107_1 := blk_frozen BK256.out 1
                                  have hfz107_2 := blk_frozen BK256.out 2
                                  have hfz107_3 := blk_frozen BK256.out 3
                                  have hfz107_4 := blk_frozen BK256.out 4
                                  obtain ⟨Ao108, co108, eo108⟩ := Kd.R_slice HO_12.out
                                  subst eo108
                                  go_wp2_with (first | (go_at_call 17; (with_reducible refine (filter_Any.calls _ _ y305 a1_0 a1_1 a1_2 a1_3 _ _ l1_4 t310 _ ?side1 ?side2 ?side3 ?side4 A101.out).mono ?_); (case side1 => repeat (first | exact (Kd.R_reads' HO_12.out).2.2 | (with_reducible refine Kd.C_alloc ?_ _) | (with_reducible refine Kd.C_drewN ?_ _) | (with_reducible refine Kd.C_drew ?_))); (case side2 => exact (Kd.R_reads' HO_12.out).2.1); (case side3 => repeat (first | exact (Kd.C_below HR1_4.out HB.out) | (with_reducible refine Kd.C_alloc ?_ _) | (with_reducible refine Kd.C_drewN ?_ _) | (with_reducible refine Kd.C_drew ?_))); (case side4 => exact HC1_4.out); rintro e w109 ⟨rfl, hb⟩; have n0_ := Aside0.mk (Kd.R_below (by (with_reducible repeat (first | apply Kd.R_alloc | apply Kd.R_drewN | apply Kd.R_drew)); exact HO_12.out) hb); have n1_ := Aside0.mk (blk_below (g := gb256) (o := .cells #[.bool a1_0, .int .i64 a1_1, .bool a1_2, .int .i64 a1_3, .slice A1_4 l1_4.length c1_4] 27 (0, 0)) (by (with_reducible repeat (first | refine blk_drewN ?_ _ | refine blk_drew ?_ | refine blk_alloc ?_ _)); exact BK256.out) hb); have n2_ := Aside0.mk (blk_below (g := gb257) (o := .cells #[.bool a2_0, .int .i64 a2_1, .int .i64 a2_2] 23 (0, 0)) (by (with_reducible repeat (first | refine blk_drewN ?_ _ | refine blk_drew ?_ | refine blk_alloc ?_ _)); exact BK257.out) hb); have n3_ := Aside0.mk (below_step (by repeat (first | (with_reducible first | exact HB.out | apply below_alloc | apply pw_below_drewN | apply below_drew1 | refine below_set ?_ GE256.out | refine below_set ?_ GE257.out) | exact HB.out)) hb); clear HO_12; clear BK256; clear BK257; clear HB; have HO_12 := n0_; have BK256 := n1_; have BK257 := n2_; have HB := n3_; clear n0_ n1_ n2_ n3_; (try clear hb); (try clear hb2); (try clear hk); (try clear hi); have hcz110_0 : w109.cell? ⟨gb256, 0, none⟩ = some (.bool a1_0) := (blk_cell BK256.out 0).trans rfl; have hcz110_1 : w109.cell? ⟨gb256, 1, none⟩ = some (.int .i64 a1_1) := (blk_cell BK256.out 1).trans rfl; have hcz110_2 : w109.cell? ⟨gb256, 2, none⟩ = some (.bool a1_2) := (blk_cell BK256.out 2).trans rfl; have hcz110_3 : w109.cell? ⟨gb256, 3, none⟩ = some (.int .i64 a1_3) := (blk_cell BK256.out 3).trans rfl; have hcz110_4 : w109.cell? ⟨gb256, 4, none⟩ = some (.slice A1_4 l1_4.length c1_4) := (blk_cell BK256.out 4).trans rfl; have hfz110_0 := blk_frozen BK256.out 0; have hfz110_1 := blk_frozen BK256.out 1; have hfz110_2 := blk_frozen BK256.out 2; have hfz110_3 := blk_frozen BK256.out 3; have hfz110_4 := blk_frozen BK256.out 4))
                                  go_ret
                                  exact ⟨by first | rfl | (simp [errW_none, errW_some] <;> rfl) | (simp [*, errW_none, errW_some] <;> rfl), by repeat (first | (with_reducible first | exact HB.out | apply below_alloc | apply pw_below_drewN | apply below_drew1 | refine below_set ?_ GE256.out | refine below_set ?_ GE257.out) | exact HB.out)⟩
                                · replace c105 := Bool.eq_false_iff.mpr c105
                                  subst c105
                                  have H1 : (some true) = some r := by rw [if_neg (show ¬ (false = true) by decide)] at H; exact H
                                  clear H
                                  have H := H1
                                  clear H1
                                  obtain rfl := Option.some.inj H
                                  have hnb111 := NB256_257.out
                                  have hnc111 := NB257_256.out
                                  have hcz112_0 : wc.cell? ⟨gb256, 0, none⟩ = some (.bool a1_0) := (blk_cell BK256.out 0).trans rfl
                                  have hcz112_1 : wc.cell? ⟨gb256, 1, none⟩ = some (.int .i64 a1_1) := (blk_cell BK256.out 1).trans rfl
                                  have hcz112_2 : wc.cell? ⟨gb256, 2, none⟩ = some (.bool a1_2) := (blk_cell BK256.out 2).trans rfl
                                  have hcz112_3 : wc.cell? ⟨gb256, 3, none⟩ = some (.int .i64 a1_3) := (blk_cell BK256.out 3).trans rfl
                                  have hcz112_4 : wc.cell? ⟨gb256, 4, none⟩ = some (.slice A1_4 l1_4.length c1_4) := (blk_cell BK256.out 4).trans rfl
                                  have hfz112_0 := blk_frozen BK256.out 0
                                  have hfz112_1 := blk_frozen BK256.out 1
                                  have hfz112_2 := blk_frozen BK256.out 2
                                  have hfz112_3 := blk_frozen BK256.out 3
                                  have hfz112_4 := blk_frozen BK256.out 4
                                  obtain ⟨Ao113, co113, eo113⟩ := Kd.R_slice HO_12.out
                                  subst eo113
                                  go_wp2_with (first | (go_at_call 17; (with_reducible refine (filter_Any.calls _ _ y305 a1_0 a1_1 a1_2 a1_3 _ _ l1_4 t310 _ ?side1 ?side2 ?side3 ?side4 A101.out).mono ?_); (case side1 => repeat (first | exact (Kd.R_reads' HO_12.out).2.2 | (with_reducible refine Kd.C_alloc ?_ _) | (with_reducible refine Kd.C_drewN ?_ _) | (with_reducible refine Kd.C_drew ?_))); (case side2 => exact (Kd.R_reads' HO_12.out).2.1); (case side3 => repeat (first | exact (Kd.C_below HR1_4.out HB.out) | (with_reducible refine Kd.C_alloc ?_ _) | (with_reducible refine Kd.C_drewN ?_ _) | (with_reducible refine Kd.C_drew ?_))); (case side4 => exact HC1_4.out); rintro e w114 ⟨rfl, hb⟩; have n0_ := Aside0.mk (Kd.R_below (by (with_reducible repeat (first | apply Kd.R_alloc | apply Kd.R_drewN | apply Kd.R_drew)); exact HO_12.out) hb); have n1_ := Aside0.mk (blk_below (g := gb256) (o := .cells #[.bool a1_0, .int .i64 a1_1, .bool a1_2, .int .i64 a1_3, .slice A1_4 l1_4.length c1_4] 27 (0, 0)) (by (with_reducible repeat (first | refine blk_drewN ?_ _ | refine blk_drew ?_ | refine blk_alloc ?_ _)); exact BK256.out) hb); have n2_ := Aside0.mk (blk_below (g := gb257) (o := .cells #[.bool a2_0, .int .i64 a2_1, .int .i64 a2_2] 23 (0, 0)) (by (with_reducible repeat (first | refine blk_drewN ?_ _ | refine blk_drew ?_ | refine blk_alloc ?_ _)); exact BK257.out) hb); have n3_ := Aside0.mk (below_step (by repeat (first | (with_reducible first | exact HB.out | apply below_alloc | apply pw_below_drewN | apply below_drew1 | refine below_set ?_ GE256.out | refine below_set ?_ GE257.out) | exact HB.out)) hb); clear HO_12; clear BK256; clear BK257; clear HB; have HO_12 := n0_; have BK256 := n1_; have BK257 := n2_; have HB := n3_; clear n0_ n1_ n2_ n3_; (try clear hb); (try clear hb2); (try clear hk); (try clear hi)))
                                  go_ret
                                  exact ⟨by first | rfl | (simp [errW_none, errW_some] <;> rfl) | (simp [*, errW_none, errW_some] <;> rfl), by repeat (first | (with_reducible first | exact HB.out | apply below_alloc | apply pw_below_drewN | apply below_drew1 | refine below_set ?_ GE256.out | refine below_set ?_ GE257.out) | exact HB.out)⟩
                              · rw [if_neg c104] at H
                                exact absurd H (by simp)
                            · replace c103 := Bool.eq_false_iff.mpr c103
                              subst c103
                              have H1 : ((filter_Takes.f a2_0 a2_1 a2_2 a1_0 a1_1 a1_2 a1_3 l1_4).bind fun t311 => (if (t310 == t311) = true then (if x9_2 = true then (some (t310 == false)) else (some true)) else (none))) = some r := by rw [if_neg (show ¬ (false = true) by decide)] at H; exact H
                              clear H
                              have H := H1
                              clear H1
                              replace H := Option.bind_eq_some_iff.mp H
                              obtain ⟨t311, A1150, H⟩ := H
                              replace H : (if (t310 == t311) = true then (if x9_2 = true then (some (t310 == false)) else (some true)) else (none)) = some r := H
                              have A115 := Aside0.mk A1150
                              clear A1150
                              by_cases c116 : (t310 == t311) = true
                              · rw [if_pos c116] at H
                                have c116b0 : (t310 == t311) = true := c116
                                (try (have c116b1 : decide (t310 = t311) = true := by simpa using c116))
                                (try (have c116b2 : (t310 == t311) = true := by simpa using c116))
                                clear c116
                                by_cases c117 : x9_2 = true
                                · subst c117
                                  have H1 : (some (t310 == false)) = some r := by rw [if_pos rfl] at H; exact H
                                  clear H
                                  have H := H1
                                  clear H1
                                  obtain rfl := Option.some.inj H
                                  have hnb118 := NB256_257.out
                                  have hnc118 := NB257_256.out
                                  have hcz119_0 : wc.cell? ⟨gb256, 0, none⟩ = some (.bool a1_0) := (blk_cell BK256.out 0).trans rfl
                                  have hcz119_1 : wc.cell? ⟨gb256, 1, none⟩ = some (.int .i64 a1_1) := (blk_cell BK256.out 1).trans rfl
                                  have hcz119_2 : wc.cell? ⟨gb256, 2, none⟩ = some (.bool a1_2) := (blk_cell BK256.out 2).trans rfl
                                  have hcz119_3 : wc.cell? ⟨gb256, 3, none⟩ = some (.int .i64 a1_3) := (blk_cell BK256.out 3).trans rfl
                                  have hcz119_4 : wc.cell? ⟨gb256, 4, none⟩ = some (.slice A1_4 l1_4.length c1_4) := (blk_cell BK256.out 4).trans rfl
                                  have hfz119_0 := blk_frozen BK256.out 0
                                  have hfz119_1 := blk_frozen BK256.out 1
                                  have hfz119_2 := blk_frozen BK256.out 2
                                  have hfz119_3 := blk_frozen BK256.out 3
                                  have hfz119_4 := blk_frozen BK256.out 4
                                  obtain ⟨Ao120, co120, eo120⟩ := Kd.R_slice HO_12.out
                                  subst eo120
                                  go_wp2_with (first | (go_at_call 17; (with_reducible refine (filter_Any.calls _ _ y305 a1_0 a1_1 a1_2 a1_3 _ _ l1_4 t310 _ ?side1 ?side2 ?side3 ?side4 A101.out).mono ?_); (case side1 => repeat (first | exact (Kd.R_reads' HO_12.out).2.2 | (with_reducible refine Kd.C_alloc ?_ _) | (with_reducible refine Kd.C_drewN ?_ _) | (with_reducible refine Kd.C_drew ?_))); (case side2 => exact (Kd.R_reads' HO_12.out).2.1); (case side3 => repeat (first | exact (Kd.C_below HR1_4.out HB.out) | (with_reducible refine Kd.C_alloc ?_ _) | (with_reducible refine Kd.C_drewN ?_ _) | (with_reducible refine Kd.C_drew ?_))); (case side4 => exact HC1_4.out); rintro e w121 ⟨rfl, hb⟩; have n0_ := Aside0.mk (Kd.R_below (by (with_reducible repeat (first | apply Kd.R_alloc | apply Kd.R_drewN | apply Kd.R_drew)); exact HO_12.out) hb); have n1_ := Aside0.mk (blk_below (g := gb256) (o := .cells #[.bool a1_0, .int .i64 a1_1, .bool a1_2, .int .i64 a1_3, .slice A1_4 l1_4.length c1_4] 27 (0, 0)) (by (with_reducible repeat (first | refine blk_drewN ?_ _ | refine blk_drew ?_ | refine blk_alloc ?_ _)); exact BK256.out) hb); have n2_ := Aside0.mk (blk_below (g := gb257) (o := .cells #[.bool a2_0, .int .i64 a2_1, .int .i64 a2_2] 23 (0, 0)) (by (with_reducible repeat (first | refine blk_drewN ?_ _ | refine blk_drew ?_ | refine blk_alloc ?_ _)); exact BK257.out) hb); have n3_ := Aside0.mk (below_step (by repeat (first | (with_reducible first | exact HB.out | apply below_alloc | apply pw_below_drewN | apply below_drew1 | refine below_set ?_ GE256.out | refine below_set ?_ GE257.out) | exact HB.out)) hb); clear HO_12; clear BK256; clear BK257; clear HB; have HO_12 := n0_; have BK256 := n1_; have BK257 := n2_; have HB := n3_; clear n0_ n1_ n2_ n3_; (try clear hb); (try clear hb2); (try clear hk); (try clear hi); have hcz122_0 : w121.cell? ⟨gb257, 0, none⟩ = some (.bool a2_0) := (blk_cell BK257.out 0).trans rfl; have hcz122_1 : w121.cell? ⟨gb257, 1, none⟩ = some (.int .i64 a2_1) := (blk_cell BK257.out 1).trans rfl; have hcz122_2 : w121.cell? ⟨gb257, 2, none⟩ = some (.int .i64 a2_2) := (blk_cell BK257.out 2).trans rfl; have hfz122_0 := blk_frozen BK257.out 0; have hfz122_1 := blk_frozen BK257.out 1; have hfz122_2 := blk_frozen BK257.out 2; have hcz123_0 : w121.cell? ⟨gb256, 0, none⟩ = some (.bool a1_0) := (blk_cell BK256.out 0).trans rfl; have hcz123_1 : w121.cell? ⟨gb256, 1, none⟩ = some (.int .i64 a1_1) := (blk_cell BK256.out 1).trans rfl; have hcz123_2 : w121.cell? ⟨gb256, 2, none⟩ = some (.bool a1_2) := (blk_cell BK256.out 2).trans rfl; have hcz123_3 : w121.cell? ⟨gb256, 3, none⟩ = some (.int .i64 a1_3) := (blk_cell BK256.out 3).trans rfl; have hcz123_4 : w121.cell? ⟨gb256, 4, none⟩ = some (.slice A1_4 l1_4.length c1_4) := (blk_cell BK256.out 4).trans rfl; have hfz123_0 := blk_frozen BK256.out 0; have hfz123_1 := blk_frozen BK256.out 1; have hfz123_2 := blk_frozen BK256.out 2; have hfz123_3 := blk_frozen BK256.out 3; have hfz123_4 := blk_frozen BK256.out 4) | (go_at_call 15; (with_reducible refine (filter_Takes.calls a2_0 a2_1 a2_2 a1_0 a1_1 a1_2 a1_3 _ _ l1_4 t311 _ ?side1 ?side2 A115.out).mono ?_); (case side1 => repeat (first | exact (Kd.C_below HR1_4.out HB.out) | (with_reducible refine Kd.C_alloc ?_ _) | (with_reducible refine Kd.C_drewN ?_ _) | (with_reducible refine Kd.C_drew ?_))); (case side2 => exact HC1_4.out); rintro e w124 ⟨rfl, hb⟩; have n0_ := Aside0.mk (Kd.R_below (by (with_reducible repeat (first | apply Kd.R_alloc | apply Kd.R_drewN | apply Kd.R_drew)); exact HO_12.out) hb); have n1_ := Aside0.mk (blk_below (g := gb256) (o := .cells #[.bool a1_0, .int .i64 a1_1, .bool a1_2, .int .i64 a1_3, .slice A1_4 l1_4.length c1_4] 27 (0, 0)) (by (with_reducible repeat (first | refine blk_drewN ?_ _ | refine blk_drew ?_ | refine blk_alloc ?_ _)); exact BK256.out) hb); have n2_ := Aside0.mk (blk_below (g := gb257) (o := .cells #[.bool a2_0, .int .i64 a2_1, .int .i64 a2_2] 23 (0, 0)) (by (with_reducible repeat (first | refine blk_drewN ?_ _ | refine blk_drew ?_ | refine blk_alloc ?_ _)); exact BK257.out) hb); have n3_ := Aside0.mk (below_step (by repeat (first | (with_reducible first | exact HB.out | apply below_alloc | apply pw_below_drewN | apply below_drew1 | refine below_set ?_ GE256.out | refine below_set ?_ GE257.out) | exact HB.out)) hb); clear HO_12; clear BK256; clear BK257; clear HB; have HO_12 := n0_; have BK256 := n1_; have BK257 := n2_; have HB := n3_; clear n0_ n1_ n2_ n3_; (try clear hb); (try clear hb2); (try clear hk); (try clear hi); have hcz125_0 : w124.cell? ⟨gb256, 0, none⟩ = some (.bool a1_0) := (blk_cell BK256.out 0).trans rfl; have hcz125_1 : w124.cell? ⟨gb256, 1, none⟩ = some (.int .i64 a1_1) := (blk_cell BK256.out 1).trans rfl; have hcz125_2 : w124.cell? ⟨gb256, 2, none⟩ = some (.bool a1_2) := (blk_cell BK256.out 2).trans rfl; have hcz125_3 : w124.cell? ⟨gb256, 3, none⟩ = some (.int .i64 a1_3) := (blk_cell BK256.out 3).trans rfl; have hcz125_4 : w124.cell? ⟨gb256, 4, none⟩ = some (.slice A1_4 l1_4.length c1_4) := (blk_cell BK256.out 4).trans rfl; have hfz125_0 := blk_frozen BK256.out 0; have hfz125_1 := blk_frozen BK256.out 1; have hfz125_2 := blk_frozen BK256.out 2; have hfz125_3 := blk_frozen BK256.out 3; have hfz125_4 := blk_frozen BK256.out 4))
                                  go_ret
                                  exact ⟨by first | rfl | (simp [errW_none, errW_some] <;> rfl) | (simp [*, errW_none, errW_some] <;> rfl), by repeat (first | (with_reducible first | exact HB.out | apply below_alloc | apply pw_below_drewN | apply below_drew1 | refine below_set ?_ GE256.out | refine below_set ?_ GE257.out) | exact HB.out)⟩
                                · replace c117 := Bool.eq_false_iff.mpr c117
                                  subst c117
                                  have H1 : (some true) = some r := by rw [if_neg (show ¬ (false = true) by decide)] at H; exact H
                                  clear H
                                  have H := H1
                                  clear H1
                                  obtain rfl := Option.some.inj H
                                  have hnb126 := NB256_257.out
                                  have hnc126 := NB257_256.out
                                  have hcz127_0 : wc.cell? ⟨gb256, 0, none⟩ = some (.bool a1_0) := (blk_cell BK256.out 0).trans rfl
                                  have hcz127_1 : wc.cell? ⟨gb256, 1, none⟩ = some (.int .i64 a1_1) := (blk_cell BK256.out 1).trans rfl
                                  have hcz127_2 : wc.cell? ⟨gb256, 2, none⟩ = some (.bool a1_2) := (blk_cell BK256.out 2).trans rfl
                                  have hcz127_3 : wc.cell? ⟨gb256, 3, none⟩ = some (.int .i64 a1_3) := (blk_cell BK256.out 3).trans rfl
                                  have hcz127_4 : wc.cell? ⟨gb256, 4, none⟩ = some (.slice A1_4 l1_4.length c1_4) := (blk_cell BK256.out 4).trans rfl
                                  have hfz127_0 := blk_frozen BK256.out 0
                                  have hfz127_1 := blk_frozen BK256.out 1
                                  have hfz127_2 := blk_frozen BK256.out 2
                                  have hfz127_3 := blk_frozen BK256.out 3
                                  have hfz127_4 := blk_frozen BK256.out 4
                                  obtain ⟨Ao128, co128, eo128⟩ := Kd.R_slice HO_12.out
                                  subst eo128
                                  go_wp2_with (first | (go_at_call 17; (with_reducible refine (filter_Any.calls _ _ y305 a1_0 a1_1 a1_2 a1_3 _ _ l1_4 t310 _ ?side1 ?side2 ?side3 ?side4 A101.out).mono ?_); (case side1 => repeat (first | exact (Kd.R_reads' HO_12.out).2.2 | (with_reducible refine Kd.C_alloc ?_ _) | (with_reducible refine Kd.C_drewN ?_ _) | (with_reducible refine Kd.C_drew ?_))); (case side2 => exact (Kd.R_reads' HO_12.out).2.1); (case side3 => repeat (first | exact (Kd.C_below HR1_4.out HB.out) | (with_reducible refine Kd.C_alloc ?_ _) | (with_reducible refine Kd.C_drewN ?_ _) | (with_reducible refine Kd.C_drew ?_))); (case side4 => exact HC1_4.out); rintro e w129 ⟨rfl, hb⟩; have n0_ := Aside0.mk (Kd.R_below (by (with_reducible repeat (first | apply Kd.R_alloc | apply Kd.R_drewN | apply Kd.R_drew)); exact HO_12.out) hb); have n1_ := Aside0.mk (blk_below (g := gb256) (o := .cells #[.bool a1_0, .int .i64 a1_1, .bool a1_2, .int .i64 a1_3, .slice A1_4 l1_4.length c1_4] 27 (0, 0)) (by (with_reducible repeat (first | refine blk_drewN ?_ _ | refine blk_drew ?_ | refine blk_alloc ?_ _)); exact BK256.out) hb); have n2_ := Aside0.mk (blk_below (g := gb257) (o := .cells #[.bool a2_0, .int .i64 a2_1, .int .i64 a2_2] 23 (0, 0)) (by (with_reducible repeat (first | refine blk_drewN ?_ _ | refine blk_drew ?_ | refine blk_alloc ?_ _)); exact BK257.out) hb); have n3_ := Aside0.mk (below_step (by repeat (first | (with_reducible first | exact HB.out | apply below_alloc | apply pw_below_drewN | apply below_drew1 | refine below_set ?_ GE256.out | refine below_set ?_ GE257.out) | exact HB.out)) hb); clear HO_12; clear BK256; clear BK257; clear HB; have HO_12 := n0_; have BK256 := n1_; have BK257 := n2_; have HB := n3_; clear n0_ n1_ n2_ n3_; (try clear hb); (try clear hb2); (try clear hk); (try clear hi); have hcz130_0 : w129.cell? ⟨gb257, 0, none⟩ = some (.bool a2_0) := (blk_cell BK257.out 0).trans rfl; have hcz130_1 : w129.cell? ⟨gb257, 1, none⟩ = some (.int .i64 a2_1) := (blk_cell BK257.out 1).trans rfl; have hcz130_2 : w129.cell? ⟨gb257, 2, none⟩ = some (.int .i64 a2_2) := (blk_cell BK257.out 2).trans rfl; have hfz130_0 := blk_frozen BK257.out 0; have hfz130_1 := blk_frozen BK257.out 1; have hfz130_2 := blk_frozen BK257.out 2; have hcz131_0 : w129.cell? ⟨gb256, 0, none⟩ = some (.bool a1_0) := (blk_cell BK256.out 0).trans rfl; have hcz131_1 : w129.cell? ⟨gb256, 1, none⟩ = some (.int .i64 a1_1) := (blk_cell BK256.out 1).trans rfl; have hcz131_2 : w129.cell? ⟨gb256, 2, none⟩ = some (.bool a1_2) := (blk_cell BK256.out 2).trans rfl; have hcz131_3 : w129.cell? ⟨gb256, 3, none⟩ = some (.int .i64 a1_3) := (blk_cell BK256.out 3).trans rfl; have hcz131_4 : w129.cell? ⟨gb256, 4, none⟩ = some (.slice A1_4 l1_4.length c1_4) := (blk_cell BK256.out 4).trans rfl; have hfz131_0 := blk_frozen BK256.out 0; have hfz131_1 := blk_frozen BK256.out 1; have hfz131_2 := blk_frozen BK256.out 2; have hfz131_3 := blk_frozen BK256.out 3; have hfz131_4 := blk_frozen BK256.out 4) | (go_at_call 15; (with_reducible refine (filter_Takes.calls a2_0 a2_1 a2_2 a1_0 a1_1 a1_2 a1_3 _ _ l1_4 t311 _ ?side1 ?side2 A115.out).mono ?_); (case side1 => repeat (first | exact (Kd.C_below HR1_4.out HB.out) | (with_reducible refine Kd.C_alloc ?_ _) | (with_reducible refine Kd.C_drewN ?_ _) | (with_reducible refine Kd.C_drew ?_))); (case side2 => exact HC1_4.out); rintro e w132 ⟨rfl, hb⟩; have n0_ := Aside0.mk (Kd.R_below (by (with_reducible repeat (first | apply Kd.R_alloc | apply Kd.R_drewN | apply Kd.R_drew)); exact HO_12.out) hb); have n1_ := Aside0.mk (blk_below (g := gb256) (o := .cells #[.bool a1_0, .int .i64 a1_1, .bool a1_2, .int .i64 a1_3, .slice A1_4 l1_4.length c1_4] 27 (0, 0)) (by (with_reducible repeat (first | refine blk_drewN ?_ _ | refine blk_drew ?_ | refine blk_alloc ?_ _)); exact BK256.out) hb); have n2_ := Aside0.mk (blk_below (g := gb257) (o := .cells #[.bool a2_0, .int .i64 a2_1, .int .i64 a2_2] 23 (0, 0)) (by (with_reducible repeat (first | refine blk_drewN ?_ _ | refine blk_drew ?_ | refine blk_alloc ?_ _)); exact BK257.out) hb); have n3_ := Aside0.mk (below_step (by repeat (first | (with_reducible first | exact HB.out | apply below_alloc | apply pw_below_drewN | apply below_drew1 | refine below_set ?_ GE256.out | refine below_set ?_ GE257.out) | exact HB.out)) hb); clear HO_12; clear BK256; clear BK257; clear HB; have HO_12 := n0_; have BK256 := n1_; have BK257 := n2_; have HB := n3_; clear n0_ n1_ n2_ n3_; (try clear hb); (try clear hb2); (try clear hk); (try clear hi)))
                                  go_ret
                                  exact ⟨by first | rfl | (simp [errW_none, errW_some] <;> rfl) | (simp [*, errW_none, errW_some] <;> rfl), by repeat (first | (with_reducible first | exact HB.out | apply below_alloc | apply pw_below_drewN | apply below_drew1 | refine below_set ?_ GE256.out | refine below_set ?_ GE257.out) | exact HB.out)⟩
                              · rw [if_neg c116] at H
                                exact absurd H (by simp)
                          · rw [if_neg c102] at H
                            have c102b0 : decide (0 < (l0.length : Int)) = false := decide_eq_false c102
                            have c102b1 : decide (0 < l0.length) = false := decide_eq_false (by omega)
                            clear c102
                            replace H := Option.bind_eq_some_iff.mp H
                            obtain ⟨t312, A1330, H⟩ := H
                            replace H : (if (t310 == t312) = true then (if x9_2 = true then (some (t310 == x8_2)) else (some true)) else (none)) = some r := H
                            have A133 := Aside0.mk A1330
                            clear A1330
                            by_cases c134 : (t310 == t312) = true
                            · rw [if_pos c134] at H
                              have c134b0 : (t310 == t312) = true := c134
                              (try (have c134b1 : decide (t310 = t312) = true := by simpa using c134))
                              (try (have c134b2 : (t310 == t312) = true := by simpa using c134))
                              clear c134
                              by_cases c135 : x9_2 = true
                              · subst c135
                                have H1 : (some (t310 == x8_2)) = some r := by rw [if_pos rfl] at H; exact H
                                clear H
                                have H := H1
                                clear H1
                                obtain rfl := Option.some.inj H
                                have hnb136 := NB256_257.out
                                have hnc136 := NB257_256.out
                                have hcz137_0 : wc.cell? ⟨gb256, 0, none⟩ = some (.bool a1_0) := (blk_cell BK256.out 0).trans rfl
                                have hcz137_1 : wc.cell? ⟨gb256, 1, none⟩ = some (.int .i64 a1_1) := (blk_cell BK256.out 1).trans rfl
                                have hcz137_2 : wc.cell? ⟨gb256, 2, none⟩ = some (.bool a1_2) := (blk_cell BK256.out 2).trans rfl
                                have hcz137_3 : wc.cell? ⟨gb256, 3, none⟩ = some (.int .i64 a1_3) := (blk_cell BK256.out 3).trans rfl
                                have hcz137_4 : wc.cell? ⟨gb256, 4, none⟩ = some (.slice A1_4 l1_4.length c1_4) := (blk_cell BK256.out 4).trans rfl
                                have hfz137_0 := blk_frozen BK256.out 0
                                have hfz137_1 := blk_frozen BK256.out 1
                                have hfz137_2 := blk_frozen BK256.out 2
                                have hfz137_3 := blk_frozen BK256.out 3
                                have hfz137_4 := blk_frozen BK256.out 4
                                obtain ⟨Ao138, co138, eo138⟩ := Kd.R_slice HO_12.out
                                subst eo138
                                go_wp2_with (first | (go_at_call 17; (with_reducible refine (filter_Any.calls _ _ y305 a1_0 a1_1 a1_2 a1_3 _ _ l1_4 t310 _ ?side1 ?side2 ?side3 ?side4 A101.out).mono ?_); (case side1 => repeat (first | exact (Kd.R_reads' HO_12.out).2.2 | (with_reducible refine Kd.C_alloc ?_ _) | (with_reducible refine Kd.C_drewN ?_ _) | (with_reducible refine Kd.C_drew ?_))); (case side2 => exact (Kd.R_reads' HO_12.out).2.1); (case side3 => repeat (first | exact (Kd.C_below HR1_4.out HB.out) | (with_reducible refine Kd.C_alloc ?_ _) | (with_reducible refine Kd.C_drewN ?_ _) | (with_reducible refine Kd.C_drew ?_))); (case side4 => exact HC1_4.out); rintro e w139 ⟨rfl, hb⟩; have n0_ := Aside0.mk (Kd.R_below (by (with_reducible repeat (first | apply Kd.R_alloc | apply Kd.R_drewN | apply Kd.R_drew)); exact HO_12.out) hb); have n1_ := Aside0.mk (blk_below (g := gb256) (o := .cells #[.bool a1_0, .int .i64 a1_1, .bool a1_2, .int .i64 a1_3, .slice A1_4 l1_4.length c1_4] 27 (0, 0)) (by (with_reducible repeat (first | refine blk_drewN ?_ _ | refine blk_drew ?_ | refine blk_alloc ?_ _)); exact BK256.out) hb); have n2_ := Aside0.mk (blk_below (g := gb257) (o := .cells #[.bool a2_0, .int .i64 a2_1, .int .i64 a2_2] 23 (0, 0)) (by (with_reducible repeat (first | refine blk_drewN ?_ _ | refine blk_drew ?_ | refine blk_alloc ?_ _)); exact BK257.out) hb); have n3_ := Aside0.mk (below_step (by repeat (first | (with_reducible first | exact HB.out | apply below_alloc | apply pw_below_drewN | apply below_drew1 | refine below_set ?_ GE256.out | refine below_set ?_ GE257.out) | exact HB.out)) hb); clear HO_12; clear BK256; clear BK257; clear HB; have HO_12 := n0_; have BK256 := n1_; have BK257 := n2_; have HB := n3_; clear n0_ n1_ n2_ n3_; (try clear hb); (try clear hb2); (try clear hk); (try clear hi); have hcz140_0 : w139.cell? ⟨gb257, 0, none⟩ = some (.bool a2_0) := (blk_cell BK257.out 0).trans rfl; have hcz140_1 : w139.cell? ⟨gb257, 1, none⟩ = some (.int .i64 a2_1) := (blk_cell BK257.out 1).trans rfl; have hcz140_2 : w139.cell? ⟨gb257, 2, none⟩ = some (.int .i64 a2_2) := (blk_cell BK257.out 2).trans rfl; have hfz140_0 := blk_frozen BK257.out 0; have hfz140_1 := blk_frozen BK257.out 1; have hfz140_2 := blk_frozen BK257.out 2; have hcz141_0 : w139.cell? ⟨gb256, 0, none⟩ = some (.bool a1_0) := (blk_cell BK256.out 0).trans rfl; have hcz141_1 : w139.cell? ⟨gb256, 1, none⟩ = some (.int .i64 a1_1) := (blk_cell BK256.out 1).trans rfl; have hcz141_2 : w139.cell? ⟨gb256, 2, none⟩ = some (.bool a1_2) := (blk_cell BK256.out 2).trans rfl; have hcz141_3 : w139.cell? ⟨gb256, 3, none⟩ = some (.int .i64 a1_3) := (blk_cell BK256.out 3).trans rfl; have hcz141_4 : w139.cell? ⟨gb256, 4, none⟩ = some (.slice A1_4 l1_4.length c1_4) := (blk_cell BK256.out 4).trans rfl; have hfz141_0 := blk_frozen BK256.out 0; have hfz141_1 := blk_frozen BK256.out 1; have hfz141_2 := blk_frozen BK256.out 2; have hfz141_3 := blk_frozen BK256.out 3; have hfz141_4 := blk_frozen BK256.out 4) | (go_at_call 15; (with_reducible refine (filter_Takes.calls a2_0 a2_1 a2_2 a1_0 a1_1 a1_2 a1_3 _ _ l1_4 t312 _ ?side1 ?side2 A133.out).mono ?_); (case side1 => repeat (first | exact (Kd.C_below HR1_4.out HB.out) | (with_reducible refine Kd.C_alloc ?_ _) | (with_reducible refine Kd.C_drewN ?_ _) | (with_reducible refine Kd.C_drew ?_))); (case side2 => exact HC1_4.out); rintro e w142 ⟨rfl, hb⟩; have n0_ := Aside0.mk (Kd.R_below (by (with_reducible repeat (first | apply Kd.R_alloc | apply Kd.R_drewN | apply Kd.R_drew)); exact HO_12.out) hb); have n1_ := Aside0.mk (blk_below (g := gb256) (o := .cells #[.bool a1_0, .int .i64 a1_1, .bool a1_2, .int .i64 a1_3, .slice A1_4 l1_4.length c1_4] 27 (0, 0)) (by (with_reducible repeat (first | refine blk_drewN ?_ _ | refine blk_drew ?_ | refine blk_alloc ?_ _)); exact BK256.out) hb); have n2_ := Aside0.mk (blk_below (g := gb257) (o := .cells #[.bool a2_0, .int .i64 a2_1, .int .i64 a2_2] 23 (0, 0)) (by (with_reducible repeat (first | refine blk_drewN ?_ _ | refine blk_drew ?_ | refine blk_alloc ?_ _)); exact BK257.out) hb); have n3_ := Aside0.mk (below_step (by repeat (first | (with_reducible first | exact HB.out | apply below_alloc | apply pw_below_drewN | apply below_drew1 | refine below_set ?_ GE256.out | refine below_set ?_ GE257.out) | exact HB.out)) hb); clear HO_12; clear BK256; clear BK257; clear HB; have HO_12 := n0_; have BK256 := n1_; have BK257 := n2_; have HB := n3_; clear n0_ n1_ n2_ n3_; (try clear hb); (try clear hb2); (try clear hk); (try clear hi); have hcz143_0 : w142.cell? ⟨gb256, 0, none⟩ = some (.bool a1_0) := (blk_cell BK256.out 0).trans rfl; have hcz143_1 : w142.cell? ⟨gb256, 1, none⟩ = some (.int .i64 a1_1) := (blk_cell BK256.out 1).trans rfl; have hcz143_2 : w142.cell? ⟨gb256, 2, none⟩ = some (.bool a1_2) := (blk_cell BK256.out 2).trans rfl; have hcz143_3 : w142.cell? ⟨gb256, 3, none⟩ = some (.int .i64 a1_3) := (blk_cell BK256.out 3).trans rfl; have hcz143_4 : w142.cell? ⟨gb256, 4, none⟩ = some (.slice A1_4 l1_4.length c1_4) := (blk_cell BK256.out 4).trans rfl; have hfz143_0 := blk_frozen BK256.out 0; have hfz143_1 := blk_frozen BK256.out 1; have hfz143_2 := blk_frozen BK256.out 2; have hfz143_3 := blk_frozen BK256.out 3; have hfz143_4 := blk_frozen BK256.out 4))
                                go_ret
                                exact ⟨by first | rfl | (simp [errW_none, errW_some] <;> rfl) | (simp [*, errW_none, errW_some] <;> rfl), by repeat (first | (with_reducible first | exact HB.out | apply below_alloc | apply pw_below_drewN | apply below_drew1 | refine below_set ?_ GE256.out | refine below_set ?_ GE257.out) | exact HB.out)⟩
                              · replace c135 := Bool.eq_false_iff.mpr c135
                                subst c135
                                have H1 : (some true) = some r := by rw [if_neg (show ¬ (false = true) by decide)] at H; exact H
                                clear H
                                have H := H1
                                clear H1
                                obtain rfl := Option.some.inj H
                                have hnb144 := NB256_257.out
                                have hnc144 := NB257_256.out
                                have hcz145_0 : wc.cell? ⟨gb256, 0, none⟩ = some (.bool a1_0) := (blk_cell BK256.out 0).trans rfl
                                have hcz145_1 : wc.cell? ⟨gb256, 1, none⟩ = some (.int .i64 a1_1) := (blk_cell BK256.out 1).trans rfl
                                have hcz145_2 : wc.cell? ⟨gb256, 2, none⟩ = some (.bool a1_2) := (blk_cell BK256.out 2).trans rfl
                                have hcz145_3 : wc.cell? ⟨gb256, 3, none⟩ = some (.int .i64 a1_3) := (blk_cell BK256.out 3).trans rfl
                                have hcz145_4 : wc.cell? ⟨gb256, 4, none⟩ = some (.slice A1_4 l1_4.length c1_4) := (blk_cell BK256.out 4).trans rfl
                                have hfz145_0 := blk_frozen BK256.out 0
                                have hfz145_1 := blk_frozen BK256.out 1
                                have hfz145_2 := blk_frozen BK256.out 2
                                have hfz145_3 := blk_frozen BK256.out 3
                                have hfz145_4 := blk_frozen BK256.out 4
                                obtain ⟨Ao146, co146, eo146⟩ := Kd.R_slice HO_12.out
                                subst eo146
                                go_wp2_with (first | (go_at_call 17; (with_reducible refine (filter_Any.calls _ _ y305 a1_0 a1_1 a1_2 a1_3 _ _ l1_4 t310 _ ?side1 ?side2 ?side3 ?side4 A101.out).mono ?_); (case side1 => repeat (first | exact (Kd.R_reads' HO_12.out).2.2 | (with_reducible refine Kd.C_alloc ?_ _) | (with_reducible refine Kd.C_drewN ?_ _) | (with_reducible refine Kd.C_drew ?_))); (case side2 => exact (Kd.R_reads' HO_12.out).2.1); (case side3 => repeat (first | exact (Kd.C_below HR1_4.out HB.out) | (with_reducible refine Kd.C_alloc ?_ _) | (with_reducible refine Kd.C_drewN ?_ _) | (with_reducible refine Kd.C_drew ?_))); (case side4 => exact HC1_4.out); rintro e w147 ⟨rfl, hb⟩; have n0_ := Aside0.mk (Kd.R_below (by (with_reducible repeat (first | apply Kd.R_alloc | apply Kd.R_drewN | apply Kd.R_drew)); exact HO_12.out) hb); have n1_ := Aside0.mk (blk_below (g := gb256) (o := .cells #[.bool a1_0, .int .i64 a1_1, .bool a1_2, .int .i64 a1_3, .slice A1_4 l1_4.length c1_4] 27 (0, 0)) (by (with_reducible repeat (first | refine blk_drewN ?_ _ | refine blk_drew ?_ | refine blk_alloc ?_ _)); exact BK256.out) hb); have n2_ := Aside0.mk (blk_below (g := gb257) (o := .cells #[.bool a2_0, .int .i64 a2_1, .int .i64 a2_2] 23 (0, 0)) (by (with_reducible repeat (first | refine blk_drewN ?_ _ | refine blk_drew ?_ | refine blk_alloc ?_ _)); exact BK257.out) hb); have n3_ := Aside0.mk (below_step (by repeat (first | (with_reducible first | exact HB.out | apply below_alloc | apply pw_below_drewN | apply below_drew1 | refine below_set ?_ GE256.out | refine below_set ?_ GE257.out) | exact HB.out)) hb); clear HO_12; clear BK256; clear BK257; clear HB; have HO_12 := n0_; have BK256 := n1_; have BK257 := n2_; have HB := n3_; clear n0_ n1_ n2_ n3_; (try clear hb); (try clear hb2); (try clear hk); (try clear hi); have hcz148_0 : w147.cell? ⟨gb257, 0, none⟩ = some (.bool a2_0) := (blk_cell BK257.out 0).trans rfl; have hcz148_1 : w147.cell? ⟨gb257, 1, none⟩ = some (.int .i64 a2_1) := (blk_cell BK257.out 1).trans rfl; have hcz148_2 : w147.cell? ⟨gb257, 2, none⟩ = some (.int .i64 a2_2) := (blk_cell BK257.out 2).trans rfl; have hfz148_0 := blk_frozen BK257.out 0; have hfz148_1 := blk_frozen BK257.out 1; have hfz148_2 := blk_frozen BK257.out 2; have hcz149_0 : w147.cell? ⟨gb256, 0, none⟩ = some (.bool a1_0) := (blk_cell BK256.out 0).trans rfl; have hcz149_1 : w147.cell? ⟨gb256, 1, none⟩ = some (.int .i64 a1_1) := (blk_cell BK256.out 1).trans rfl; have hcz149_2 : w147.cell? ⟨gb256, 2, none⟩ = some (.bool a1_2) := (blk_cell BK256.out 2).trans rfl; have hcz149_3 : w147.cell? ⟨gb256, 3, none⟩ = some (.int .i64 a1_3) := (blk_cell BK256.out 3).trans rfl; have hcz149_4 : w147.cell? ⟨gb256, 4, none⟩ = some (.slice A1_4 l1_4.length c1_4) := (blk_cell BK256.out 4).trans rfl; have hfz149_0 := blk_frozen BK256.out 0; have hfz149_1 := blk_frozen BK256.out 1; have hfz149_2 := blk_frozen BK256.out 2; have hfz149_3 := blk_frozen BK256.out 3; have hfz149_4 := blk_frozen BK256.out 4) | (go_at_call 15; (with_reducible refine (filter_Takes.calls a2_0 a2_1 a2_2 a1_0 a1_1 a1_2 a1_3 _ _ l1_4 t312 _ ?side1 ?side2 A133.out).mono ?_); (case side1 => repeat (first | exact (Kd.C_below HR1_4.out HB.out) | (with_reducible refine Kd.C_alloc ?_ _) | (with_reducible refine Kd.C_drewN ?_ _) | (with_reducible refine Kd.C_drew ?_))); (case side2 => exact HC1_4.out); rintro e w150 ⟨rfl, hb⟩; have n0_ := Aside0.mk (Kd.R_below (by (with_reducible repeat (first | apply Kd.R_alloc | apply Kd.R_drewN | apply Kd.R_drew)); exact HO_12.out) hb); have n1_ := Aside0.mk (blk_below (g := gb256) (o := .cells #[.bool a1_0, .int .i64 a1_1, .bool a1_2, .int .i64 a1_3, .slice A1_4 l1_4.length c1_4] 27 (0, 0)) (by (with_reducible repeat (first | refine blk_drewN ?_ _ | refine blk_drew ?_ | refine blk_alloc ?_ _)); exact BK256.out) hb); have n2_ := Aside0.mk (blk_below (g := gb257) (o := .cells #[.bool a2_0, .int .i64 a2_1, .int .i64 a2_2] 23 (0, 0)) (by (with_reducible repeat (first | refine blk_drewN ?_ _ | refine blk_drew ?_ | refine blk_alloc ?_ _)); exact BK257.out) hb); have n3_ := Aside0.mk (below_step (by repeat (first | (with_reducible first | exact HB.out | apply below_alloc | apply pw_below_drewN | apply below_drew1 | refine below_set ?_ GE256.out | refine below_set ?_ GE257.out) | exact HB.out)) hb); clear HO_12; clear BK256; clear BK257; clear HB; have HO_12 := n0_; have BK256 := n1_; have BK257 := n2_; have HB := n3_; clear n0_ n1_ n2_ n3_; (try clear hb); (try clear hb2); (try clear hk); (try clear hi)))
                                go_ret
                                exact ⟨by first | rfl | (simp [errW_none, errW_some] <;> rfl) | (simp [*, errW_none, errW_some] <;> rfl), by repeat (first | (with_reducible first | exact HB.out | apply below_alloc | apply pw_below_drewN | apply below_drew1 | refine below_set ?_ GE256.out | refine below_set ?_ GE257.out) | exact HB.out)⟩
                            · rw [if_neg c134] at H
                              exact absurd H (by simp)
                        · replace c100 := Bool.eq_false_iff.mpr c100
                          subst c100
                          have H1 : (none) = some r := by rw [if_neg (show ¬ (false = true) by decide)] at H; exact H
                          clear H
                          have H := H1
                          clear H1
                          exact absurd H (by simp)
                · rw [if_neg c76] at H
                  exact absurd H (by simp)
              · rw [if_neg c75] at H
                exact absurd H (by simp)

end Go.Proofs.Ytcbcgfeliainaaa.P

/- Go functions that the laws of this seat reach, each as a Lean function, and a proof that a call of the Go code comes to its answers; written by a program (the kit's print, turned in a few places). Conditions: each theorem's own premises. -/
import Derived.Test.YtpcabeefahldlaaPx0
import Derived.Test.YtpcabeefahldlaaPx3
import Derived.Test.YtpcabeefahldlaaPx6
import Derived.Test.YtpcabeefahldlaaPx8
import Derived.Test.YtpcabeefahldlaaPx9
import Derived.Test.YtpcabeefahldlaaPx11
import Derived.Test.YtpcabeefahldlaaPx14
import Derived.Test.YtpcabeefahldlaaPx15
import Derived.Test.YtpcabeefahldlaaPx17
import Derived.Test.YtpcabeefahldlaaPx18
import Derived.Test.YtpcabeefahldlaaGLoop
import Derived.Test.YtpcabeefahldlaaGMade
import Derived.Test.YtpcabeefahldlaaGSame
namespace Go.Proofs.Ytpcabeefahldlaa.P
open Go.RowKit Go.Proofs.YtpcabeefahldlaaW.PrintWords Go.Proofs.YtpcabeefahldlaaW.PrintLast Go.Proofs.YtpcabeefahldlaaW.PrintMore
attribute [local go_sem] max2_int min2_int max_two min_two max_three min_three max_four min_four   -- for this text's walks alone
set_option linter.unusedVariables false
set_option linter.unusedSimpArgs false

/-! ### phaetonlaw12_RouteTells: function 3 -/
mutual
def phaetonlaw12_RouteTells.j0 : Nat → List (S45) → Bool → Bool → Int → Bool → Int → Bool → Int → List Int → Bool → Int → Bool → Int → List Int → Option (Bool)
 | 0, _, _, _, _, _, _, _, _, _, _, _, _, _, _ => none
 | k + 1, x0, x7, x36, x255000, x255001, x255002, x255003, x255004, x255005, x274000, x274001, x274002, x274003, x274004 => if x36 = true then (none) else ((phaetonlaw12_Cut.f k x0 10).bind fun t278 => ((route_Hops.f k t278 x255000 x274000 x274001 x274002 x274003 x274004).bind fun t281 => ((phaetonref12_Hops.f k t278 x255000 x274000 x274001 x274002 x274003 x274004).bind fun t284 => ((phaetonref12_Same.f t281 t284).bind fun t287 => (if t287 = true then ((route_Loopless.f k t278 4).bind fun t288 => ((phaetonref12_Loopless.f k t278 4).bind fun t289 => (phaetonlaw12_RouteTells.j1 k x7 t278 (t288 != t289) x255000 x255001 x255002 x255003 x255004 x255005 x274000 x274001 x274002 x274003 x274004))) else (phaetonlaw12_RouteTells.j1 k x7 t278 true x255000 x255001 x255002 x255003 x255004 x255005 x274000 x274001 x274002 x274003 x274004))))))
def phaetonlaw12_RouteTells.j1 : Nat → Bool → List (S45) → Bool → Int → Bool → Int → Bool → Int → List Int → Bool → Int → Bool → Int → List Int → Option (Bool)
 | 0, _, _, _, _, _, _, _, _, _, _, _, _, _, _ => none
 | k + 1, x7, x9, x57, x255000, x255001, x255002, x255003, x255004, x255005, x274000, x274001, x274002, x274003, x274004 => if x57 = true then (none) else ((route_Reach.f k x9 4 x255000 x274000 x274001 x274002 x274003 x274004).bind fun t290 => ((phaetonref12_Reach.f k x9 4 x255000 x274000 x274001 x274002 x274003 x274004).bind fun t293 => ((phaetonref12_Same.f t290 t293).bind fun t296 => (if t296 = true then (some x7) else (none)))))
end
def phaetonlaw12_RouteTells.f (k : Nat) (l0 : List (S45)) (a1 : Int) (a2_0 : Int) (a2_1 : Bool) (a2_2 : Int) (a2_3 : Bool) (a2_4 : Int) (l2_5 : List Int) : Option (Bool) := (phaetonlaw12_head.f k).bind fun t255 => ((some (([] : List (S45)) : List (S45))).bind fun y256 => (if 0 ≤ (mn (l0.length : Int) 17) then (if (mn (l0.length : Int) 17) ≤ (l0.length : Int) then ((some (l0.take ((mn (l0.length : Int) 17) : Int).toNat : List (S45))).bind fun y259 => (if y256.length + y259.length < 2932031007402 then ((some (y256 ++ y259 : List (S45))).bind fun y263 => ((phaetonref06_Made.f a2_1 a2_2 a2_3 a2_4 l2_5).bind fun bt266 => ((route_Right.f k y263 a1).bind fun t274 => ((phaetonref12_Right.f k y263 a1).bind fun t275 => (if (t274 != t275) = true then (phaetonlaw12_RouteTells.j0 k y263 t255 true a2_0 a2_1 a2_2 a2_3 a2_4 l2_5 bt266.1 bt266.2.1 bt266.2.2.1 bt266.2.2.2.1 bt266.2.2.2.2) else ((route_Loopless.f k y263 a1).bind fun t276 => ((phaetonref12_Loopless.f k y263 a1).bind fun t277 => (phaetonlaw12_RouteTells.j0 k y263 t255 (t276 != t277) a2_0 a2_1 a2_2 a2_3 a2_4 l2_5 bt266.1 bt266.2.1 bt266.2.2.1 bt266.2.2.2.1 bt266.2.2.2.2)))))))) else (none))) else (none)) else (none)))
def phaetonlaw12_RouteTells.T7 : Bool × List (List Nat × List Nat) := (true, [([], []), ([], []), ([1], [1]), ([], []), ([0, 2, 3], [0, 2, 3]), ([], []), ([], []), ([6], [6]), ([], []), ([5, 7, 8, 4], [5, 7, 8]), ([4, 9, 9], [4, 9]), ([10], [10]), ([11, 10], [11]), ([12], [12]), ([13, 12, 12], [12, 13]), ([12], [12]), ([15, 14, 12], [12, 15]), ([14, 16, 12], [12, 14, 16]), ([12, 17], [12, 17])])
def phaetonlaw12_RouteTells.B7 : List Nat := [0, 0, 2, 0, 15, 0, 0, 64, 0, 511, 1023, 2047, 4095, 8191, 16383, 8191, 65535, 131071, 262143]
theorem phaetonlaw12_RouteTells.tab7 : rtab .any (opsOf Try.f3 7) = phaetonlaw12_RouteTells.T7 := by kernel_rfl
theorem phaetonlaw12_RouteTells.bits7 : waitsOk phaetonlaw12_RouteTells.T7.2 phaetonlaw12_RouteTells.B7 = true := by kernel_rfl
def phaetonlaw12_RouteTells.T9 : Bool × List (List Nat × List Nat) := (true, [([], []), ([], []), ([1], [1]), ([], []), ([0, 2, 3], [0, 2, 3]), ([], []), ([], []), ([6], [6]), ([], []), ([5, 7, 8, 4], [5, 7, 8]), ([4, 9, 9], [4, 9]), ([10, 10], [10]), ([11], [11]), ([11, 12], [11, 12]), ([13, 11, 0, 1, 2, 3, 4, 5, 6, 7, 8, 9, 10, 11, 12, 13], [13])])
def phaetonlaw12_RouteTells.B9 : List Nat := [0, 0, 2, 0, 15, 0, 0, 64, 0, 511, 1023, 2047, 4095, 8191, 16383]
theorem phaetonlaw12_RouteTells.tab9 : rtab .any (opsOf Try.f3 9) = phaetonlaw12_RouteTells.T9 := by kernel_rfl
theorem phaetonlaw12_RouteTells.bits9 : waitsOk phaetonlaw12_RouteTells.T9.2 phaetonlaw12_RouteTells.B9 = true := by kernel_rfl
set_option maxHeartbeats 8000000 in
set_option maxRecDepth 100000 in
theorem phaetonlaw12_RouteTells.calls (k : Nat) (A0 : Option Addr) (c0 : Nat) (l0 : List (S45)) (a1 : Int) (a2_0 : Int) (a2_1 : Bool) (a2_2 : Int) (a2_3 : Bool) (a2_4 : Int) (A2_5 : Option Addr) (c2_5 : Nat) (l2_5 : List Int) (r : Bool) (w : World) (hr0 : Kd.C k45 w A0 l0.length l0) (hc0 : l0.length ≤ c0) (hr2_5 : Kd.C (Kd.int .u8) w A2_5 l2_5.length l2_5) (hc2_5 : l2_5.length ≤ c2_5) (h : phaetonlaw12_RouteTells.f k l0 a1 a2_0 a2_1 a2_2 a2_3 a2_4 l2_5 = some r) :
  Calls Try.prog 3 #[.slice A0 l0.length c0, .int .i64 a1, .agg #[.int .i64 a2_0, .bool a2_1, .int .i64 a2_2, .bool a2_3, .int .i64 a2_4, .slice A2_5 l2_5.length c2_5]] w fun e w' => e = .returned (.bool r) ∧ Below w.heap.size w w' := by
 have hu27 := Try.underlying27
 have hu25 := Try.underlying25
 have HR0 := aM hr0
 have HC0 := aM hc0
 clear hr0 hc0
 have HR2_5 := aM hr2_5
 have HC2_5 := aM hc2_5
 clear hr2_5 hc2_5
 have HB := aM (Below.refl w.heap.size w)
 have H : ((phaetonlaw12_head.f k).bind fun t255 => ((some (([] : List (S45)) : List (S45))).bind fun y256 => (if 0 ≤ (mn (l0.length : Int) 17) then (if (mn (l0.length : Int) 17) ≤ (l0.length : Int) then ((some (l0.take ((mn (l0.length : Int) 17) : Int).toNat : List (S45))).bind fun y259 => (if y256.length + y259.length < 2932031007402 then ((some (y256 ++ y259 : List (S45))).bind fun y263 => ((phaetonref06_Made.f a2_1 a2_2 a2_3 a2_4 l2_5).bind fun bt266 => ((route_Right.f k y263 a1).bind fun t274 => ((phaetonref12_Right.f k y263 a1).bind fun t275 => (if (t274 != t275) = true then (phaetonlaw12_RouteTells.j0 k y263 t255 true a2_0 a2_1 a2_2 a2_3 a2_4 l2_5 bt266.1 bt266.2.1 bt266.2.2.1 bt266.2.2.2.1 bt266.2.2.2.2) else ((route_Loopless.f k y263 a1).bind fun t276 => ((phaetonref12_Loopless.f k y263 a1).bind fun t277 => (phaetonlaw12_RouteTells.j0 k y263 t255 (t276 != t277) a2_0 a2_1 a2_2 a2_3 a2_4 l2_5 bt266.1 bt266.2.1 bt266.2.2.1 bt266.2.2.2.1 bt266.2.2.2.2)))))))) else (none))) else (none)) else (none)))) = some r := h
 clear h
 replace H := Option.bind_eq_some_iff.mp H
 obtain ⟨t255, A40, H⟩ := H
 replace H : ((some (([] : List (S45)) : List (S45))).bind fun y256 => (if 0 ≤ (mn (l0.length : Int) 17) then (if (mn (l0.length : Int) 17) ≤ (l0.length : Int) then ((some (l0.take ((mn (l0.length : Int) 17) : Int).toNat : List (S45))).bind fun y259 => (if y256.length + y259.length < 2932031007402 then ((some (y256 ++ y259 : List (S45))).bind fun y263 => ((phaetonref06_Made.f a2_1 a2_2 a2_3 a2_4 l2_5).bind fun bt266 => ((route_Right.f k y263 a1).bind fun t274 => ((phaetonref12_Right.f k y263 a1).bind fun t275 => (if (t274 != t275) = true then (phaetonlaw12_RouteTells.j0 k y263 t255 true a2_0 a2_1 a2_2 a2_3 a2_4 l2_5 bt266.1 bt266.2.1 bt266.2.2.1 bt266.2.2.2.1 bt266.2.2.2.2) else ((route_Loopless.f k y263 a1).bind fun t276 => ((phaetonref12_Loopless.f k y263 a1).bind fun t277 => (phaetonlaw12_RouteTells.j0 k y263 t255 (t276 != t277) a2_0 a2_1 a2_2 a2_3 a2_4 l2_5 bt266.1 bt266.2.1 bt266.2.2.1 bt266.2.2.2.1 bt266.2.2.2.2)))))))) else (none))) else (none)) else (none))) = some r := H
 have A4 := aM A40
 clear A40
 obtain ⟨y256, hy256⟩ : ∃ y_ : List (S45), y_ = (([] : List (S45))) := ⟨_, rfl⟩
 replace H : (if 0 ≤ (mn (l0.length : Int) 17) then (if (mn (l0.length : Int) 17) ≤ (l0.length : Int) then ((some (l0.take ((mn (l0.length : Int) 17) : Int).toNat : List (S45))).bind fun y259 => (if y256.length + y259.length < 2932031007402 then ((some (y256 ++ y259 : List (S45))).bind fun y263 => ((phaetonref06_Made.f a2_1 a2_2 a2_3 a2_4 l2_5).bind fun bt266 => ((route_Right.f k y263 a1).bind fun t274 => ((phaetonref12_Right.f k y263 a1).bind fun t275 => (if (t274 != t275) = true then (phaetonlaw12_RouteTells.j0 k y263 t255 true a2_0 a2_1 a2_2 a2_3 a2_4 l2_5 bt266.1 bt266.2.1 bt266.2.2.1 bt266.2.2.2.1 bt266.2.2.2.2) else ((route_Loopless.f k y263 a1).bind fun t276 => ((phaetonref12_Loopless.f k y263 a1).bind fun t277 => (phaetonlaw12_RouteTells.j0 k y263 t255 (t276 != t277) a2_0 a2_1 a2_2 a2_3 a2_4 l2_5 bt266.1 bt266.2.1 bt266.2.2.1 bt266.2.2.2.1 bt266.2.2.2.2)))))))) else (none))) else (none)) else (none)) = some r := by first | (rw [hy256]; with_reducible exact H) | (have H2_ := (Option.bind_some _ _).symm.trans H; rw [hy256]; with_reducible exact H2_) | (have H2_ := (Option.bind_some _ _).symm.trans H; with_reducible exact H2_) | with_reducible exact H | (rw [hy256]; exact H) | exact H
 have Ny256 := aM hy256
 clear hy256
 obtain ⟨ji5, hji5⟩ : ∃ j_ : Int, (mn (l0.length : Int) 17) = j_ := ⟨_, rfl⟩
 replace H : (if 0 ≤ (ji5) then (if (ji5) ≤ (l0.length : Int) then ((some (l0.take ((ji5) : Int).toNat : List (S45))).bind fun y259 => (if y256.length + y259.length < 2932031007402 then ((some (y256 ++ y259 : List (S45))).bind fun y263 => ((phaetonref06_Made.f a2_1 a2_2 a2_3 a2_4 l2_5).bind fun bt266 => ((route_Right.f k y263 a1).bind fun t274 => ((phaetonref12_Right.f k y263 a1).bind fun t275 => (if (t274 != t275) = true then (phaetonlaw12_RouteTells.j0 k y263 t255 true a2_0 a2_1 a2_2 a2_3 a2_4 l2_5 bt266.1 bt266.2.1 bt266.2.2.1 bt266.2.2.2.1 bt266.2.2.2.2) else ((route_Loopless.f k y263 a1).bind fun t276 => ((phaetonref12_Loopless.f k y263 a1).bind fun t277 => (phaetonlaw12_RouteTells.j0 k y263 t255 (t276 != t277) a2_0 a2_1 a2_2 a2_3 a2_4 l2_5 bt266.1 bt266.2.1 bt266.2.2.1 bt266.2.2.2.1 bt266.2.2.2.2)))))))) else (none))) else (none)) else (none)) = some r := by first | (rw [hji5] at H; exact H) | (simp only [hji5] at H ⊢; exact H)
 (try rw [hji5] at A4)
 (try (have hji5h : ji5 ≤ 17 := by (rw [← hji5]; unfold mn; (repeat' split) <;> omega)))
 (try (have hji5g : ji5 ≤ 64 := by omega))
 (try (have hji5l : 0 ≤ ji5 := by (rw [← hji5]; unfold mn; (repeat' split) <;> omega)))
 (try (have hji5m : 0 ≤ ji5 := by omega))
 have hji5_ : (if 17 < (l0.length : Int) then 17 else (l0.length : Int)) = ji5 := hji5
 by_cases c6 : 0 ≤ (ji5)
 ·rw [if_pos c6] at H
  have c6b0 := eq_true c6
  have c6b1 : decide (0 ≤ (ji5)) = true := decide_eq_true c6
  clear c6
  by_cases c7 : (ji5) ≤ (l0.length : Int)
  ·rw [if_pos c7] at H
   have c7b0 := eq_true c7
   have c7b1 : decide ((ji5) ≤ (l0.length : Int)) = true := decide_eq_true c7
   clear c7
   obtain ⟨y259, hy259⟩ : ∃ y_ : List (S45), y_ = (l0.take ((ji5) : Int).toNat) := ⟨_, rfl⟩
   replace H : (if y256.length + y259.length < 2932031007402 then ((some (y256 ++ y259 : List (S45))).bind fun y263 => ((phaetonref06_Made.f a2_1 a2_2 a2_3 a2_4 l2_5).bind fun bt266 => ((route_Right.f k y263 a1).bind fun t274 => ((phaetonref12_Right.f k y263 a1).bind fun t275 => (if (t274 != t275) = true then (phaetonlaw12_RouteTells.j0 k y263 t255 true a2_0 a2_1 a2_2 a2_3 a2_4 l2_5 bt266.1 bt266.2.1 bt266.2.2.1 bt266.2.2.2.1 bt266.2.2.2.2) else ((route_Loopless.f k y263 a1).bind fun t276 => ((phaetonref12_Loopless.f k y263 a1).bind fun t277 => (phaetonlaw12_RouteTells.j0 k y263 t255 (t276 != t277) a2_0 a2_1 a2_2 a2_3 a2_4 l2_5 bt266.1 bt266.2.1 bt266.2.2.1 bt266.2.2.2.1 bt266.2.2.2.2)))))))) else (none)) = some r := by first | (rw [hy259]; with_reducible exact H) | (have H2_ := (Option.bind_some _ _).symm.trans H; rw [hy259]; with_reducible exact H2_) | (have H2_ := (Option.bind_some _ _).symm.trans H; with_reducible exact H2_) | with_reducible exact H | (rw [hy259]; exact H) | exact H
   have Ny259 := aM hy259
   clear hy259
   by_cases c8 : y256.length + y259.length < 2932031007402
   ·rw [if_pos c8] at H
    have LMc8 := aM c8
    clear c8
    obtain ⟨y263, hy263⟩ : ∃ y_ : List (S45), y_ = (y256 ++ y259) := ⟨_, rfl⟩
    replace H : ((phaetonref06_Made.f a2_1 a2_2 a2_3 a2_4 l2_5).bind fun bt266 => ((route_Right.f k y263 a1).bind fun t274 => ((phaetonref12_Right.f k y263 a1).bind fun t275 => (if (t274 != t275) = true then (phaetonlaw12_RouteTells.j0 k y263 t255 true a2_0 a2_1 a2_2 a2_3 a2_4 l2_5 bt266.1 bt266.2.1 bt266.2.2.1 bt266.2.2.2.1 bt266.2.2.2.2) else ((route_Loopless.f k y263 a1).bind fun t276 => ((phaetonref12_Loopless.f k y263 a1).bind fun t277 => (phaetonlaw12_RouteTells.j0 k y263 t255 (t276 != t277) a2_0 a2_1 a2_2 a2_3 a2_4 l2_5 bt266.1 bt266.2.1 bt266.2.2.1 bt266.2.2.2.1 bt266.2.2.2.2))))))) = some r := by first | (rw [hy263]; with_reducible exact H) | (have H2_ := (Option.bind_some _ _).symm.trans H; rw [hy263]; with_reducible exact H2_) | (have H2_ := (Option.bind_some _ _).symm.trans H; with_reducible exact H2_) | with_reducible exact H | (rw [hy263]; exact H) | exact H
    have Ny263 := aM hy263
    clear hy263
    replace H := Option.bind_eq_some_iff.mp H
    obtain ⟨⟨t266, t267, t268, t269, t270⟩, A90, H⟩ := H
    replace H : ((route_Right.f k y263 a1).bind fun t274 => ((phaetonref12_Right.f k y263 a1).bind fun t275 => (if (t274 != t275) = true then (phaetonlaw12_RouteTells.j0 k y263 t255 true a2_0 a2_1 a2_2 a2_3 a2_4 l2_5 t266 t267 t268 t269 t270) else ((route_Loopless.f k y263 a1).bind fun t276 => ((phaetonref12_Loopless.f k y263 a1).bind fun t277 => (phaetonlaw12_RouteTells.j0 k y263 t255 (t276 != t277) a2_0 a2_1 a2_2 a2_3 a2_4 l2_5 t266 t267 t268 t269 t270)))))) = some r := H
    have A9 := aM A90
    clear A90
    have HC10 := aM H
    clear H
    go_enter Try.func3, Try.ntmps3
    go_upto_region 4 with (first | ((with_reducible refine gate_dst (N := 5) rfl ?_); refine box_event ?hg (N := 5) ?hd (cs := #[.int .i64 a2_0, .bool a2_1, .int .i64 a2_2, .bool a2_3, .int .i64 a2_4, .slice A2_5 l2_5.length c2_5]) (t := 27) ?hr ?_; (case hd => rfl); (case hg => rfl); (case hr => first | (go_simp; done) | (go_simp; rfl)); intro gb254 hg w11 hbox hb; have n0_ := aM (lT (by repeat (first | (with_reducible first | exact HB.out | apply lA | apply lN | apply lW) | exact HB.out)) hb); have n1_ := aM (hbox); have n2_ := aM ((by rw [hg]; exact (lZ (by repeat (first | (with_reducible first | exact HB.out | apply lA | apply lN | apply lW) | exact HB.out))) : w.heap.size ≤ gb254)); have n3_ := aM ((by rw [hg]; exact (lZ (by repeat (first | (with_reducible first | exact HB.out | apply lA | apply lN | apply lW) | exact HB.out))) : w.heap.size ≤ gb254)); clear HB; have HB := n0_; have BK254 := n1_; have GW254 := n2_; have GE254 := n3_; clear n0_ n1_ n2_ n3_; clear hb hbox hg) | ((with_reducible refine gate_callee (f := 10) rfl ?_); refine goesL_ (some 10) rfl rfl Try.func10 (by kernel_rfl) rfl #[] rfl (by (try simp only [List.map_toArray, List.map_cons, List.map_nil]); first | done | rfl | (simp only [List.length_drop, List.length_take]; rfl)) ?_; (with_reducible refine (phaetonlaw12_head.calls k  t255 _ A4.out).mono ?_); rintro e w12 ⟨rfl, hb⟩; refine ⟨_, rfl, ?_⟩; have n0_ := aM (blk_below (g := gb254) (o := .cells #[.int .i64 a2_0, .bool a2_1, .int .i64 a2_2, .bool a2_3, .int .i64 a2_4, .slice A2_5 l2_5.length c2_5] 27 (0, 0)) (by (with_reducible repeat (first | refine bN ?_ _ | refine bW ?_ | refine bA ?_ _)); exact BK254.out) hb); have n1_ := aM (lT (by repeat (first | (with_reducible first | exact HB.out | apply lA | apply lN | apply lW | refine lS ?_ GE254.out) | exact HB.out)) hb); clear BK254; clear HB; have BK254 := n0_; have HB := n1_; clear n0_ n1_; (try clear hb); (try clear hb2); (try clear hk); (try clear hi)) | ((with_reducible refine gate_dst (N := 11) rfl ?_); refine Kd.R_lit k45 _ 45 ?hg (N := 11) ?hd (xs := ([] : List (S45))) (inner := []) (ok := fun _ => True) (okp := fun _ => True) ?hr ?hp (fun _ hk => hk) trivial (Below.refl _ _) (Nat.le_refl _) (by simp) ?_; (case hd => rfl); (case hg => rfl); (case hr => first | (go_simp; done) | (go_simp; rfl)); (case hp => exact (Reps.none _ _)); intro v257 w13 ho14 hb hg_ hnew_; clear hg_ hnew_; (first | rw [← Ny256.out] at ho14 | (simp only [Int.reduceToNat] at ho14; rw [← Ny256.out] at ho14)); have n0_ := aM (Kd.R_lower ho14 (lZ (by repeat (first | (with_reducible first | exact HB.out | apply lA | apply lN | apply lW | refine lS ?_ GE254.out) | exact HB.out)))); have n1_ := aM (blk_below (g := gb254) (o := .cells #[.int .i64 a2_0, .bool a2_1, .int .i64 a2_2, .bool a2_3, .int .i64 a2_4, .slice A2_5 l2_5.length c2_5] 27 (0, 0)) (by (with_reducible repeat (first | refine bN ?_ _ | refine bW ?_ | refine bA ?_ _)); exact BK254.out) hb); have n2_ := aM (lT (by repeat (first | (with_reducible first | exact HB.out | apply lA | apply lN | apply lW | refine lS ?_ GE254.out) | exact HB.out)) hb); clear BK254; clear HB; have HO258 := n0_; have BK254 := n1_; have HB := n2_; clear n0_ n1_ n2_; clear hb ho14; have q15 : ((ji5) : Int) ≤ ((l0.length : Int) : Int) := oD (by first | (with_reducible assumption) | assumption); obtain ⟨i015, hi015, _, hsz15, _⟩ := info_parts info45; have hroom15 : l0.length ≤ c0 := HC0.out; have hC15 : Kd.C k45 _ A0 l0.length l0 := HR0.out; have hcut15 := cut_to (P := Try.prog) 22 45 .i64 Try.underlying22 hi015 A0 l0.length c0 (ji5) (oD (by first | (with_reducible assumption) | assumption)) q15 hroom15; have hr15 := Kd.C_take (m := ((ji5) : Int).toNat) hC15 (by omega); have hy15 : y259.length = ((ji5) : Int).toNat := (by rw [Ny259.out, List.length_take]; omega); rw [← Ny259.out] at hr15; rw [← hy15] at hcut15; have HR262 := aM hr15; have HC262 := aM (show y259.length ≤ c0 from by omega); clear hr15 hC15 hroom15 hi015 hsz15; have KY15 := aM hy15; clear hy15; replace q15 := eq_true q15) | ((with_reducible refine gate_builtin (b := .append) (xs := #[.tmp 11, .tmp 16]) rfl ?_); at_builtin; refine Kd.R_append_rows k45 (w0 := w) w.heap.size rfl (.tmp 11) (.tmp 16) 22 45 (.agg #[(.int .i64 0), (.int .i64 0), (.bool false), (.int .i64 0), (.int .i64 0), (.int .i64 0)]) 48 rfl Try.underlying22 info45 rfl (by decide) (by omega) v257 y256 y259 _ _ _ (fun _ => True) (fun _ => False) rfl rfl ?aO ?aR (fun _ _ h => h) (fun _ h => h.elim) ?aF ?aB ?aS ?aL ?_; (case aR => repeat (first | exact (Kd.C_below HR262.out HB.out) | (with_reducible refine Kd.C_alloc ?_ _) | (with_reducible refine Kd.C_drewN ?_ _) | (with_reducible refine Kd.C_drew ?_))); (case aB => exact (by repeat (first | (with_reducible first | exact HB.out | apply lA | apply lN | apply lW | refine lS ?_ GE254.out) | exact HB.out))); (case aF => exact (fun _ _ => trivial)); (case aO => exact (by (with_reducible repeat (first | apply rA | apply rN | apply rW)); exact HO258.out)); (case aS => exact (lZ (by repeat (first | (with_reducible first | exact HB.out | apply lA | apply lN | apply lW | refine lS ?_ GE254.out) | exact HB.out)))); (case aL => have := LMc8.out; omega); intro v264 w16 ho hb hg hat; rw [← Ny263.out] at ho; have n0_ := aM (blk_grown (g := gb254) (o := .cells #[.int .i64 a2_0, .bool a2_1, .int .i64 a2_2, .bool a2_3, .int .i64 a2_4, .slice A2_5 l2_5.length c2_5] 27 (0, 0)) (by (with_reducible repeat (first | refine bN ?_ _ | refine bW ?_ | refine bA ?_ _)); exact BK254.out) hg (Kd.R_ne HO258.out BK254.out (by decide))); have n1_ := aM (hb); have n2_ := aM (ho); clear BK254; clear HB; clear HO258; have BK254 := n0_; have HB := n1_; have HO265 := n2_; clear n0_ n1_ n2_; clear ho hb hg hat; have hcz17_0 : w16.cell? ⟨gb254, 0, none⟩ = some (.int .i64 a2_0) := (bC BK254.out 0).trans rfl; have hcz17_1 : w16.cell? ⟨gb254, 1, none⟩ = some (.bool a2_1) := (bC BK254.out 1).trans rfl; have hcz17_2 : w16.cell? ⟨gb254, 2, none⟩ = some (.int .i64 a2_2) := (bC BK254.out 2).trans rfl; have hcz17_3 : w16.cell? ⟨gb254, 3, none⟩ = some (.bool a2_3) := (bC BK254.out 3).trans rfl; have hcz17_4 : w16.cell? ⟨gb254, 4, none⟩ = some (.int .i64 a2_4) := (bC BK254.out 4).trans rfl; have hcz17_5 : w16.cell? ⟨gb254, 5, none⟩ = some (.slice A2_5 l2_5.length c2_5) := (bC BK254.out 5).trans rfl; have hfz17_0 := bF BK254.out 0; have hfz17_1 := bF BK254.out 1; have hfz17_2 := bF BK254.out 2; have hfz17_3 := bF BK254.out 3; have hfz17_4 := bF BK254.out 4; have hfz17_5 := bF BK254.out 5) | ((with_reducible refine gate_callee (f := 11) rfl ?_); refine goesL_ (some 20) rfl rfl Try.func11 (by kernel_rfl) rfl #[.agg #[.bool a2_1, .int .i64 a2_2, .bool a2_3, .int .i64 a2_4, .slice A2_5 l2_5.length c2_5]] rfl (by (try simp only [List.map_toArray, List.map_cons, List.map_nil]); first | done | rfl | (simp only [List.length_drop, List.length_take]; rfl)) ?_; (with_reducible refine (phaetonref06_Made.calls a2_1 a2_2 a2_3 a2_4 _ _ l2_5 t266 t267 t268 t269 t270 _ ?side1 ?side2 A9.out).mono ?_); (case side1 => repeat (first | exact (Kd.C_below HR2_5.out HB.out) | (with_reducible refine Kd.C_alloc ?_ _) | (with_reducible refine Kd.C_drewN ?_ _) | (with_reducible refine Kd.C_drew ?_))); (case side2 => exact HC2_5.out); rintro e w18 ⟨v271, rfl, ho0, hb⟩; refine ⟨_, rfl, ?_⟩; have n0_ := aM (Kd.R_below (by (with_reducible repeat (first | apply rA | apply rN | apply rW)); exact HO265.out) hb); have n1_ := aM (Kd.R_lower ho0 (lZ (by repeat (first | (with_reducible first | exact HB.out | apply lA | apply lN | apply lW | refine lS ?_ GE254.out) | exact HB.out)))); have n2_ := aM (blk_below (g := gb254) (o := .cells #[.int .i64 a2_0, .bool a2_1, .int .i64 a2_2, .bool a2_3, .int .i64 a2_4, .slice A2_5 l2_5.length c2_5] 27 (0, 0)) (by (with_reducible repeat (first | refine bN ?_ _ | refine bW ?_ | refine bA ?_ _)); exact BK254.out) hb); have n3_ := aM (lT (by repeat (first | (with_reducible first | exact HB.out | apply lA | apply lN | apply lW | refine lS ?_ GE254.out) | exact HB.out)) hb); clear HO265; clear BK254; clear HB; have HO265 := n0_; have HO272 := n1_; have BK254 := n2_; have HB := n3_; clear n0_ n1_ n2_ n3_; (try clear hb); (try clear hb2); (try clear hk); (try clear hi); (try clear ho0)) | ((with_reducible refine gate_dst (N := 8) rfl ?_); refine box_event ?hg (N := 8) ?hd (cs := #[.bool false, .int .i64 0, .bool false, .int .i64 0, .slice none 0 0]) (t := 25) ?hr ?_; (case hd => rfl); (case hg => rfl); (case hr => first | (go_simp; done) | (go_simp; rfl)); intro gb273 hg w19 hbox hb; have n0_ := aM (Kd.R_below (by (with_reducible repeat (first | apply rA | apply rN | apply rW)); exact HO265.out) hb); have n1_ := aM (Kd.R_below (by (with_reducible repeat (first | apply rA | apply rN | apply rW)); exact HO272.out) hb); have n2_ := aM (blk_below (g := gb254) (o := .cells #[.int .i64 a2_0, .bool a2_1, .int .i64 a2_2, .bool a2_3, .int .i64 a2_4, .slice A2_5 l2_5.length c2_5] 27 (0, 0)) (by (with_reducible repeat (first | refine bN ?_ _ | refine bW ?_ | refine bA ?_ _)); exact BK254.out) hb); have n3_ := aM (lT (by repeat (first | (with_reducible first | exact HB.out | apply lA | apply lN | apply lW | refine lS ?_ GE254.out) | exact HB.out)) hb); have n4_ := aM (hbox); have n5_ := aM ((by rw [hg]; exact (lZ (by repeat (first | (with_reducible first | exact HB.out | apply lA | apply lN | apply lW | refine lS ?_ GE254.out) | exact HB.out))) : w.heap.size ≤ gb273)); have n6_ := aM ((by rw [hg]; exact (lZ (by repeat (first | (with_reducible first | exact HB.out | apply lA | apply lN | apply lW | refine lS ?_ GE254.out) | exact HB.out))) : w.heap.size ≤ gb273)); have n7_ := aM ((by rw [hg]; exact Nat.ne_of_lt (blk_lt (g := gb254) (o := .cells #[.int .i64 a2_0, .bool a2_1, .int .i64 a2_2, .bool a2_3, .int .i64 a2_4, .slice A2_5 l2_5.length c2_5] 27 (0, 0)) (by (with_reducible repeat (first | refine bN ?_ _ | refine bW ?_ | refine bA ?_ _)); exact BK254.out)) : gb254 ≠ gb273)); have n8_ := aM ((by rw [hg]; exact Nat.ne_of_gt (blk_lt (g := gb254) (o := .cells #[.int .i64 a2_0, .bool a2_1, .int .i64 a2_2, .bool a2_3, .int .i64 a2_4, .slice A2_5 l2_5.length c2_5] 27 (0, 0)) (by (with_reducible repeat (first | refine bN ?_ _ | refine bW ?_ | refine bA ?_ _)); exact BK254.out)) : gb273 ≠ gb254)); clear HO265; clear HO272; clear BK254; clear HB; have HO265 := n0_; have HO272 := n1_; have BK254 := n2_; have HB := n3_; have BK273 := n4_; have GW273 := n5_; have GE273 := n6_; have NB254_273 := n7_; have NB273_254 := n8_; clear n0_ n1_ n2_ n3_ n4_ n5_ n6_ n7_ n8_; clear hb hbox hg; have hnb20 := NB273_254.out; have hnc20 := NB254_273.out; have hcz21_0 : w19.cell? ⟨gb273, 0, none⟩ = some (.bool false) := (bC BK273.out 0).trans rfl; have hcz21_1 : w19.cell? ⟨gb273, 1, none⟩ = some (.int .i64 0) := (bC BK273.out 1).trans rfl; have hcz21_2 : w19.cell? ⟨gb273, 2, none⟩ = some (.bool false) := (bC BK273.out 2).trans rfl; have hcz21_3 : w19.cell? ⟨gb273, 3, none⟩ = some (.int .i64 0) := (bC BK273.out 3).trans rfl; have hcz21_4 : w19.cell? ⟨gb273, 4, none⟩ = some (.slice none 0 0) := (bC BK273.out 4).trans rfl; have hfz21_0 := bF BK273.out 0; have hfz21_1 := bF BK273.out 1; have hfz21_2 := bF BK273.out 2; have hfz21_3 := bF BK273.out 3; have hfz21_4 := bF BK273.out 4; obtain ⟨Ao22, co22, eo22⟩ := Kd.R_slice HO272.out; subst eo22))
    (try simp only [Act.put, sT, sZ, sS])
    go_cut [36] (fun v36 wc => ∃ (kq : Nat) (x36_9 : Bool), v36 = .bool x36_9 ∧ Aside0 (phaetonlaw12_RouteTells.j0 kq y263 t255 x36_9 a2_0 a2_1 a2_2 a2_3 a2_4 l2_5 t266 t267 t268 t269 t270 = some r) ∧ Aside0 (kq ≤ k) ∧ Aside0 (Kd.R k45 45 wc w.heap.size (fun _ => True) v264 y263) ∧ Aside0 (Kd.R (Kd.int .u8) 5 wc w.heap.size (fun _ => True) (.slice Ao22 t270.length co22) t270) ∧ Aside0 (wc.heap[gb254]? = some (.cells #[.int .i64 a2_0, .bool a2_1, .int .i64 a2_2, .bool a2_3, .int .i64 a2_4, (.slice A2_5 l2_5.length c2_5)] 27 (0, 0))) ∧ Aside0 (wc.heap[gb273]? = some (.cells #[.bool t266, .int .i64 t267, .bool t268, .int .i64 t269, (.slice Ao22 t270.length co22)] 25 (0, 0))) ∧ Aside0 (Below w.heap.size w wc))
    case first =>
     have H := HC10.out
     clear HC10
     replace H := Option.bind_eq_some_iff.mp H
     obtain ⟨t274, A230, H⟩ := H
     replace H : ((phaetonref12_Right.f k y263 a1).bind fun t275 => (if (t274 != t275) = true then (phaetonlaw12_RouteTells.j0 k y263 t255 true a2_0 a2_1 a2_2 a2_3 a2_4 l2_5 t266 t267 t268 t269 t270) else ((route_Loopless.f k y263 a1).bind fun t276 => ((phaetonref12_Loopless.f k y263 a1).bind fun t277 => (phaetonlaw12_RouteTells.j0 k y263 t255 (t276 != t277) a2_0 a2_1 a2_2 a2_3 a2_4 l2_5 t266 t267 t268 t269 t270))))) = some r := H
     have A23 := aM A230
     clear A230
     replace H := Option.bind_eq_some_iff.mp H
     obtain ⟨t275, A240, H⟩ := H
     replace H : (if (t274 != t275) = true then (phaetonlaw12_RouteTells.j0 k y263 t255 true a2_0 a2_1 a2_2 a2_3 a2_4 l2_5 t266 t267 t268 t269 t270) else ((route_Loopless.f k y263 a1).bind fun t276 => ((phaetonref12_Loopless.f k y263 a1).bind fun t277 => (phaetonlaw12_RouteTells.j0 k y263 t255 (t276 != t277) a2_0 a2_1 a2_2 a2_3 a2_4 l2_5 t266 t267 t268 t269 t270)))) = some r := H
     have A24 := aM A240
     clear A240
     by_cases c25 : (t274 != t275) = true
     ·rw [if_pos c25] at H
      have c25b0 : (t274 != t275) = true := c25
      (try (have c25b1 : decide (t274 = t275) = false := by simpa using c25))
      (try (have c25b2 : (t274 == t275) = false := by simpa using c25))
      (try (have c25b3 : ¬ (t274 = t275) := by simpa using c25))
      clear c25
      (first | rw [c25b0] | (simp only [i64_w, i32_w]; rw [c25b0]) | skip)
      have H' := aM H
      clear H
      obtain ⟨Ao26, co26, eo26⟩ := Kd.R_slice HO265.out
      subst eo26
      go_wp2_with (first | ((with_reducible refine gate_callee (f := 12) rfl ?_); refine goesL_ (some 23) rfl rfl Try.func12 (by kernel_rfl) rfl #[.slice Ao26 y263.length co26, .int .i64 a1] rfl (by (try simp only [List.map_toArray, List.map_cons, List.map_nil]); first | done | rfl | (simp only [List.length_drop, List.length_take]; rfl)) ?_; (with_reducible refine (route_Right.calls k _ _ y263 a1 t274 _ ?side1 ?side2 A23.out).mono ?_); (case side1 => refine (Kd.R_reads' (e := 45) (base := w.heap.size) (ok := fun k_ => True) (n := y263.length) (c := co26) ?_).2.2; exact (by (with_reducible repeat (first | apply rA | apply rN | apply rW)); exact (Kd.R_mono (Kd.R_far (p := ⟨gb273, 4, none⟩) (Kd.R_far (p := ⟨gb273, 3, none⟩) (Kd.R_far (p := ⟨gb273, 2, none⟩) (Kd.R_far (p := ⟨gb273, 1, none⟩) (Kd.R_far (p := ⟨gb273, 0, none⟩) (Kd.R_types HO265.out BK273.out (by decide)) (fun _ hk => hk.2) (.bool t266)) (fun _ hk => hk.2) (.int .i64 t267)) (fun _ hk => hk.2) (.bool t268)) (fun _ hk => hk.2) (.int .i64 t269)) (fun _ hk => hk.2) (.slice Ao22 t270.length co22)) (fun _ h_ => h_.1)))); (case side2 => exact (Kd.R_reads' HO265.out).2.1); rintro e w27 ⟨rfl, hb⟩; refine ⟨_, rfl, ?_⟩; have n0_ := aM (Kd.R_below (by (with_reducible repeat (first | apply rA | apply rN | apply rW)); exact (Kd.R_mono (Kd.R_far (p := ⟨gb273, 4, none⟩) (Kd.R_far (p := ⟨gb273, 3, none⟩) (Kd.R_far (p := ⟨gb273, 2, none⟩) (Kd.R_far (p := ⟨gb273, 1, none⟩) (Kd.R_far (p := ⟨gb273, 0, none⟩) (Kd.R_types HO265.out BK273.out (by decide)) (fun _ hk => hk.2) (.bool t266)) (fun _ hk => hk.2) (.int .i64 t267)) (fun _ hk => hk.2) (.bool t268)) (fun _ hk => hk.2) (.int .i64 t269)) (fun _ hk => hk.2) (.slice Ao22 t270.length co22)) (fun _ h_ => h_.1))) hb); have n1_ := aM (Kd.R_below (by (with_reducible repeat (first | apply rA | apply rN | apply rW)); exact (Kd.R_mono (Kd.R_far (p := ⟨gb273, 4, none⟩) (Kd.R_far (p := ⟨gb273, 3, none⟩) (Kd.R_far (p := ⟨gb273, 2, none⟩) (Kd.R_far (p := ⟨gb273, 1, none⟩) (Kd.R_far (p := ⟨gb273, 0, none⟩) (Kd.R_types HO272.out BK273.out (by decide)) (fun _ hk => hk.2) (.bool t266)) (fun _ hk => hk.2) (.int .i64 t267)) (fun _ hk => hk.2) (.bool t268)) (fun _ hk => hk.2) (.int .i64 t269)) (fun _ hk => hk.2) (.slice Ao22 t270.length co22)) (fun _ h_ => h_.1))) hb); have n2_ := aM (blk_below (g := gb254) (o := .cells #[.int .i64 a2_0, .bool a2_1, .int .i64 a2_2, .bool a2_3, .int .i64 a2_4, .slice A2_5 l2_5.length c2_5] 27 (0, 0)) (by (with_reducible repeat (first | refine bN ?_ _ | refine bW ?_ | refine bA ?_ _)); refine blk_far ?_ NB254_273.out _; (with_reducible repeat (first | refine bN ?_ _ | refine bW ?_ | refine bA ?_ _)); refine blk_far ?_ NB254_273.out _; (with_reducible repeat (first | refine bN ?_ _ | refine bW ?_ | refine bA ?_ _)); refine blk_far ?_ NB254_273.out _; (with_reducible repeat (first | refine bN ?_ _ | refine bW ?_ | refine bA ?_ _)); refine blk_far ?_ NB254_273.out _; (with_reducible repeat (first | refine bN ?_ _ | refine bW ?_ | refine bA ?_ _)); refine blk_far ?_ NB254_273.out _; (with_reducible repeat (first | refine bN ?_ _ | refine bW ?_ | refine bA ?_ _)); exact BK254.out) hb); have n3_ := aM (blk_below (g := gb273) (o := .cells #[.bool t266, .int .i64 t267, .bool t268, .int .i64 t269, .slice Ao22 t270.length co22] 25 (0, 0)) (by (with_reducible repeat (first | refine bN ?_ _ | refine bW ?_ | refine bA ?_ _)); refine blk_put (cs := #[.bool t266, .int .i64 t267, .bool t268, .int .i64 t269, .slice none 0 0]) ?_ 4 _ rfl; (with_reducible repeat (first | refine bN ?_ _ | refine bW ?_ | refine bA ?_ _)); refine blk_put (cs := #[.bool t266, .int .i64 t267, .bool t268, .int .i64 0, .slice none 0 0]) ?_ 3 _ rfl; (with_reducible repeat (first | refine bN ?_ _ | refine bW ?_ | refine bA ?_ _)); refine blk_put (cs := #[.bool t266, .int .i64 t267, .bool false, .int .i64 0, .slice none 0 0]) ?_ 2 _ rfl; (with_reducible repeat (first | refine bN ?_ _ | refine bW ?_ | refine bA ?_ _)); refine blk_put (cs := #[.bool t266, .int .i64 0, .bool false, .int .i64 0, .slice none 0 0]) ?_ 1 _ rfl; (with_reducible repeat (first | refine bN ?_ _ | refine bW ?_ | refine bA ?_ _)); refine blk_put (cs := #[.bool false, .int .i64 0, .bool false, .int .i64 0, .slice none 0 0]) ?_ 0 _ rfl; (with_reducible repeat (first | refine bN ?_ _ | refine bW ?_ | refine bA ?_ _)); exact BK273.out) hb); have n4_ := aM (lT (by repeat (first | (with_reducible first | exact HB.out | apply lA | apply lN | apply lW | refine lS ?_ GE254.out | refine lS ?_ GE273.out) | exact HB.out)) hb); clear HO265; clear HO272; clear BK254; clear BK273; clear HB; have HO265 := n0_; have HO272 := n1_; have BK254 := n2_; have BK273 := n3_; have HB := n4_; clear n0_ n1_ n2_ n3_ n4_; (try clear hb); (try clear hb2); (try clear hk); (try clear hi)) | ((with_reducible refine gate_callee (f := 13) rfl ?_); refine goesL_ (some 26) rfl rfl Try.func13 (by kernel_rfl) rfl #[.slice Ao26 y263.length co26, .int .i64 a1] rfl (by (try simp only [List.map_toArray, List.map_cons, List.map_nil]); first | done | rfl | (simp only [List.length_drop, List.length_take]; rfl)) ?_; (with_reducible refine (phaetonref12_Right.calls k _ _ y263 a1 t275 _ ?side1 ?side2 A24.out).mono ?_); (case side1 => repeat (first | exact (Kd.R_reads' HO265.out).2.2 | (with_reducible refine Kd.C_alloc ?_ _) | (with_reducible refine Kd.C_drewN ?_ _) | (with_reducible refine Kd.C_drew ?_))); (case side2 => exact (Kd.R_reads' HO265.out).2.1); rintro e w28 ⟨rfl, hb⟩; refine ⟨_, rfl, ?_⟩; have n0_ := aM (Kd.R_below (by (with_reducible repeat (first | apply rA | apply rN | apply rW)); exact HO265.out) hb); have n1_ := aM (Kd.R_below (by (with_reducible repeat (first | apply rA | apply rN | apply rW)); exact HO272.out) hb); have n2_ := aM (blk_below (g := gb254) (o := .cells #[.int .i64 a2_0, .bool a2_1, .int .i64 a2_2, .bool a2_3, .int .i64 a2_4, .slice A2_5 l2_5.length c2_5] 27 (0, 0)) (by (with_reducible repeat (first | refine bN ?_ _ | refine bW ?_ | refine bA ?_ _)); exact BK254.out) hb); have n3_ := aM (blk_below (g := gb273) (o := .cells #[.bool t266, .int .i64 t267, .bool t268, .int .i64 t269, .slice Ao22 t270.length co22] 25 (0, 0)) (by (with_reducible repeat (first | refine bN ?_ _ | refine bW ?_ | refine bA ?_ _)); exact BK273.out) hb); have n4_ := aM (lT (by repeat (first | (with_reducible first | exact HB.out | apply lA | apply lN | apply lW | refine lS ?_ GE254.out | refine lS ?_ GE273.out) | exact HB.out)) hb); clear HO265; clear HO272; clear BK254; clear BK273; clear HB; have HO265 := n0_; have HO272 := n1_; have BK254 := n2_; have BK273 := n3_; have HB := n4_; clear n0_ n1_ n2_ n3_ n4_; (try clear hb); (try clear hb2); (try clear hk); (try clear hi)))
      go_meet
      case rel => exact ⟨_, (true), (by first | rfl | (simp; done) | (simp [*]; done)), H', ⟨by first | omega | exact Nat.le_refl _⟩, ⟨by (with_reducible repeat (first | apply rA | apply rN | apply rW)); exact HO265.out⟩, ⟨by (with_reducible repeat (first | apply rA | apply rN | apply rW)); exact HO272.out⟩, ⟨by (with_reducible repeat (first | refine bN ?_ _ | refine bW ?_ | refine bA ?_ _)); exact BK254.out⟩, ⟨by (with_reducible repeat (first | refine bN ?_ _ | refine bW ?_ | refine bA ?_ _)); exact BK273.out⟩, ⟨by repeat (first | (with_reducible first | exact HB.out | apply lA | apply lN | apply lW | refine lS ?_ GE254.out | refine lS ?_ GE273.out) | exact HB.out)⟩⟩
     ·rw [if_neg c25] at H
      have c25b0 : (t274 != t275) = false := by simpa using c25
      (try (have c25b1 : decide (t274 = t275) = true := by simpa using c25))
      (try (have c25b2 : (t274 == t275) = true := by simpa using c25))
      clear c25
      (first | rw [c25b0] | (simp only [i64_w, i32_w]; rw [c25b0]) | skip)
      replace H := Option.bind_eq_some_iff.mp H
      obtain ⟨t276, A290, H⟩ := H
      replace H : ((phaetonref12_Loopless.f k y263 a1).bind fun t277 => (phaetonlaw12_RouteTells.j0 k y263 t255 (t276 != t277) a2_0 a2_1 a2_2 a2_3 a2_4 l2_5 t266 t267 t268 t269 t270)) = some r := H
      have A29 := aM A290
      clear A290
      replace H := Option.bind_eq_some_iff.mp H
      obtain ⟨t277, A300, H⟩ := H
      replace H : (phaetonlaw12_RouteTells.j0 k y263 t255 (t276 != t277) a2_0 a2_1 a2_2 a2_3 a2_4 l2_5 t266 t267 t268 t269 t270) = some r := H
      have A30 := aM A300
      clear A300
      have H' := aM H
      clear H
      obtain ⟨Ao31, co31, eo31⟩ := Kd.R_slice HO265.out
      subst eo31
      go_wp2_with (first | ((with_reducible refine gate_callee (f := 12) rfl ?_); refine goesL_ (some 23) rfl rfl Try.func12 (by kernel_rfl) rfl #[.slice Ao31 y263.length co31, .int .i64 a1] rfl (by (try simp only [List.map_toArray, List.map_cons, List.map_nil]); first | done | rfl | (simp only [List.length_drop, List.length_take]; rfl)) ?_; (with_reducible refine (route_Right.calls k _ _ y263 a1 t274 _ ?side1 ?side2 A23.out).mono ?_); (case side1 => refine (Kd.R_reads' (e := 45) (base := w.heap.size) (ok := fun k_ => True) (n := y263.length) (c := co31) ?_).2.2; exact (by (with_reducible repeat (first | apply rA | apply rN | apply rW)); exact (Kd.R_mono (Kd.R_far (p := ⟨gb273, 4, none⟩) (Kd.R_far (p := ⟨gb273, 3, none⟩) (Kd.R_far (p := ⟨gb273, 2, none⟩) (Kd.R_far (p := ⟨gb273, 1, none⟩) (Kd.R_far (p := ⟨gb273, 0, none⟩) (Kd.R_types HO265.out BK273.out (by decide)) (fun _ hk => hk.2) (.bool t266)) (fun _ hk => hk.2) (.int .i64 t267)) (fun _ hk => hk.2) (.bool t268)) (fun _ hk => hk.2) (.int .i64 t269)) (fun _ hk => hk.2) (.slice Ao22 t270.length co22)) (fun _ h_ => h_.1)))); (case side2 => exact (Kd.R_reads' HO265.out).2.1); rintro e w32 ⟨rfl, hb⟩; refine ⟨_, rfl, ?_⟩; have n0_ := aM (Kd.R_below (by (with_reducible repeat (first | apply rA | apply rN | apply rW)); exact (Kd.R_mono (Kd.R_far (p := ⟨gb273, 4, none⟩) (Kd.R_far (p := ⟨gb273, 3, none⟩) (Kd.R_far (p := ⟨gb273, 2, none⟩) (Kd.R_far (p := ⟨gb273, 1, none⟩) (Kd.R_far (p := ⟨gb273, 0, none⟩) (Kd.R_types HO265.out BK273.out (by decide)) (fun _ hk => hk.2) (.bool t266)) (fun _ hk => hk.2) (.int .i64 t267)) (fun _ hk => hk.2) (.bool t268)) (fun _ hk => hk.2) (.int .i64 t269)) (fun _ hk => hk.2) (.slice Ao22 t270.length co22)) (fun _ h_ => h_.1))) hb); have n1_ := aM (Kd.R_below (by (with_reducible repeat (first | apply rA | apply rN | apply rW)); exact (Kd.R_mono (Kd.R_far (p := ⟨gb273, 4, none⟩) (Kd.R_far (p := ⟨gb273, 3, none⟩) (Kd.R_far (p := ⟨gb273, 2, none⟩) (Kd.R_far (p := ⟨gb273, 1, none⟩) (Kd.R_far (p := ⟨gb273, 0, none⟩) (Kd.R_types HO272.out BK273.out (by decide)) (fun _ hk => hk.2) (.bool t266)) (fun _ hk => hk.2) (.int .i64 t267)) (fun _ hk => hk.2) (.bool t268)) (fun _ hk => hk.2) (.int .i64 t269)) (fun _ hk => hk.2) (.slice Ao22 t270.length co22)) (fun _ h_ => h_.1))) hb); have n2_ := aM (blk_below (g := gb254) (o := .cells #[.int .i64 a2_0, .bool a2_1, .int .i64 a2_2, .bool a2_3, .int .i64 a2_4, .slice A2_5 l2_5.length c2_5] 27 (0, 0)) (by (with_reducible repeat (first | refine bN ?_ _ | refine bW ?_ | refine bA ?_ _)); refine blk_far ?_ NB254_273.out _; (with_reducible repeat (first | refine bN ?_ _ | refine bW ?_ | refine bA ?_ _)); refine blk_far ?_ NB254_273.out _; (with_reducible repeat (first | refine bN ?_ _ | refine bW ?_ | refine bA ?_ _)); refine blk_far ?_ NB254_273.out _; (with_reducible repeat (first | refine bN ?_ _ | refine bW ?_ | refine bA ?_ _)); refine blk_far ?_ NB254_273.out _; (with_reducible repeat (first | refine bN ?_ _ | refine bW ?_ | refine bA ?_ _)); refine blk_far ?_ NB254_273.out _; (with_reducible repeat (first | refine bN ?_ _ | refine bW ?_ | refine bA ?_ _)); exact BK254.out) hb); have n3_ := aM (blk_below (g := gb273) (o := .cells #[.bool t266, .int .i64 t267, .bool t268, .int .i64 t269, .slice Ao22 t270.length co22] 25 (0, 0)) (by (with_reducible repeat (first | refine bN ?_ _ | refine bW ?_ | refine bA ?_ _)); refine blk_put (cs := #[.bool t266, .int .i64 t267, .bool t268, .int .i64 t269, .slice none 0 0]) ?_ 4 _ rfl; (with_reducible repeat (first | refine bN ?_ _ | refine bW ?_ | refine bA ?_ _)); refine blk_put (cs := #[.bool t266, .int .i64 t267, .bool t268, .int .i64 0, .slice none 0 0]) ?_ 3 _ rfl; (with_reducible repeat (first | refine bN ?_ _ | refine bW ?_ | refine bA ?_ _)); refine blk_put (cs := #[.bool t266, .int .i64 t267, .bool false, .int .i64 0, .slice none 0 0]) ?_ 2 _ rfl; (with_reducible repeat (first | refine bN ?_ _ | refine bW ?_ | refine bA ?_ _)); refine blk_put (cs := #[.bool t266, .int .i64 0, .bool false, .int .i64 0, .slice none 0 0]) ?_ 1 _ rfl; (with_reducible repeat (first | refine bN ?_ _ | refine bW ?_ | refine bA ?_ _)); refine blk_put (cs := #[.bool false, .int .i64 0, .bool false, .int .i64 0, .slice none 0 0]) ?_ 0 _ rfl; (with_reducible repeat (first | refine bN ?_ _ | refine bW ?_ | refine bA ?_ _)); exact BK273.out) hb); have n4_ := aM (lT (by repeat (first | (with_reducible first | exact HB.out | apply lA | apply lN | apply lW | refine lS ?_ GE254.out | refine lS ?_ GE273.out) | exact HB.out)) hb); clear HO265; clear HO272; clear BK254; clear BK273; clear HB; have HO265 := n0_; have HO272 := n1_; have BK254 := n2_; have BK273 := n3_; have HB := n4_; clear n0_ n1_ n2_ n3_ n4_; (try clear hb); (try clear hb2); (try clear hk); (try clear hi)) | ((with_reducible refine gate_callee (f := 13) rfl ?_); refine goesL_ (some 26) rfl rfl Try.func13 (by kernel_rfl) rfl #[.slice Ao31 y263.length co31, .int .i64 a1] rfl (by (try simp only [List.map_toArray, List.map_cons, List.map_nil]); first | done | rfl | (simp only [List.length_drop, List.length_take]; rfl)) ?_; (with_reducible refine (phaetonref12_Right.calls k _ _ y263 a1 t275 _ ?side1 ?side2 A24.out).mono ?_); (case side1 => repeat (first | exact (Kd.R_reads' HO265.out).2.2 | (with_reducible refine Kd.C_alloc ?_ _) | (with_reducible refine Kd.C_drewN ?_ _) | (with_reducible refine Kd.C_drew ?_))); (case side2 => exact (Kd.R_reads' HO265.out).2.1); rintro e w33 ⟨rfl, hb⟩; refine ⟨_, rfl, ?_⟩; have n0_ := aM (Kd.R_below (by (with_reducible repeat (first | apply rA | apply rN | apply rW)); exact HO265.out) hb); have n1_ := aM (Kd.R_below (by (with_reducible repeat (first | apply rA | apply rN | apply rW)); exact HO272.out) hb); have n2_ := aM (blk_below (g := gb254) (o := .cells #[.int .i64 a2_0, .bool a2_1, .int .i64 a2_2, .bool a2_3, .int .i64 a2_4, .slice A2_5 l2_5.length c2_5] 27 (0, 0)) (by (with_reducible repeat (first | refine bN ?_ _ | refine bW ?_ | refine bA ?_ _)); exact BK254.out) hb); have n3_ := aM (blk_below (g := gb273) (o := .cells #[.bool t266, .int .i64 t267, .bool t268, .int .i64 t269, .slice Ao22 t270.length co22] 25 (0, 0)) (by (with_reducible repeat (first | refine bN ?_ _ | refine bW ?_ | refine bA ?_ _)); exact BK273.out) hb); have n4_ := aM (lT (by repeat (first | (with_reducible first | exact HB.out | apply lA | apply lN | apply lW | refine lS ?_ GE254.out | refine lS ?_ GE273.out) | exact HB.out)) hb); clear HO265; clear HO272; clear BK254; clear BK273; clear HB; have HO265 := n0_; have HO272 := n1_; have BK254 := n2_; have BK273 := n3_; have HB := n4_; clear n0_ n1_ n2_ n3_ n4_; (try clear hb); (try clear hb2); (try clear hk); (try clear hi)) | (go_at_call 14; (with_reducible refine (route_Loopless.calls k _ _ y263 a1 t276 _ ?side1 ?side2 A29.out).mono ?_); (case side1 => repeat (first | exact (Kd.R_reads' HO265.out).2.2 | (with_reducible refine Kd.C_alloc ?_ _) | (with_reducible refine Kd.C_drewN ?_ _) | (with_reducible refine Kd.C_drew ?_))); (case side2 => exact (Kd.R_reads' HO265.out).2.1); rintro e w34 ⟨rfl, hb⟩; have n0_ := aM (Kd.R_below (by (with_reducible repeat (first | apply rA | apply rN | apply rW)); exact HO265.out) hb); have n1_ := aM (Kd.R_below (by (with_reducible repeat (first | apply rA | apply rN | apply rW)); exact HO272.out) hb); have n2_ := aM (blk_below (g := gb254) (o := .cells #[.int .i64 a2_0, .bool a2_1, .int .i64 a2_2, .bool a2_3, .int .i64 a2_4, .slice A2_5 l2_5.length c2_5] 27 (0, 0)) (by (with_reducible repeat (first | refine bN ?_ _ | refine bW ?_ | refine bA ?_ _)); exact BK254.out) hb); have n3_ := aM (blk_below (g := gb273) (o := .cells #[.bool t266, .int .i64 t267, .bool t268, .int .i64 t269, .slice Ao22 t270.length co22] 25 (0, 0)) (by (with_reducible repeat (first | refine bN ?_ _ | refine bW ?_ | refine bA ?_ _)); exact BK273.out) hb); have n4_ := aM (lT (by repeat (first | (with_reducible first | exact HB.out | apply lA | apply lN | apply lW | refine lS ?_ GE254.out | refine lS ?_ GE273.out) | exact HB.out)) hb); clear HO265; clear HO272; clear BK254; clear BK273; clear HB; have HO265 := n0_; have HO272 := n1_; have BK254 := n2_; have BK273 := n3_; have HB := n4_; clear n0_ n1_ n2_ n3_ n4_; (try clear hb); (try clear hb2); (try clear hk); (try clear hi)) | (go_at_call 15; (with_reducible refine (phaetonref12_Loopless.calls k _ _ y263 a1 t277 _ ?side1 ?side2 A30.out).mono ?_); (case side1 => repeat (first | exact (Kd.R_reads' HO265.out).2.2 | (with_reducible refine Kd.C_alloc ?_ _) | (with_reducible refine Kd.C_drewN ?_ _) | (with_reducible refine Kd.C_drew ?_))); (case side2 => exact (Kd.R_reads' HO265.out).2.1); rintro e w35 ⟨rfl, hb⟩; have n0_ := aM (Kd.R_below (by (with_reducible repeat (first | apply rA | apply rN | apply rW)); exact HO265.out) hb); have n1_ := aM (Kd.R_below (by (with_reducible repeat (first | apply rA | apply rN | apply rW)); exact HO272.out) hb); have n2_ := aM (blk_below (g := gb254) (o := .cells #[.int .i64 a2_0, .bool a2_1, .int .i64 a2_2, .bool a2_3, .int .i64 a2_4, .slice A2_5 l2_5.length c2_5] 27 (0, 0)) (by (with_reducible repeat (first | refine bN ?_ _ | refine bW ?_ | refine bA ?_ _)); exact BK254.out) hb); have n3_ := aM (blk_below (g := gb273) (o := .cells #[.bool t266, .int .i64 t267, .bool t268, .int .i64 t269, .slice Ao22 t270.length co22] 25 (0, 0)) (by (with_reducible repeat (first | refine bN ?_ _ | refine bW ?_ | refine bA ?_ _)); exact BK273.out) hb); have n4_ := aM (lT (by repeat (first | (with_reducible first | exact HB.out | apply lA | apply lN | apply lW | refine lS ?_ GE254.out | refine lS ?_ GE273.out) | exact HB.out)) hb); clear HO265; clear HO272; clear BK254; clear BK273; clear HB; have HO265 := n0_; have HO272 := n1_; have BK254 := n2_; have BK273 := n3_; have HB := n4_; clear n0_ n1_ n2_ n3_ n4_; (try clear hb); (try clear hb2); (try clear hk); (try clear hi)))
      go_meet
      case rel => exact ⟨_, ((t276 != t277)), (by first | rfl | (simp; done) | (simp [*]; done)), H', ⟨by first | omega | exact Nat.le_refl _⟩, ⟨by (with_reducible repeat (first | apply rA | apply rN | apply rW)); exact HO265.out⟩, ⟨by (with_reducible repeat (first | apply rA | apply rN | apply rW)); exact HO272.out⟩, ⟨by (with_reducible repeat (first | refine bN ?_ _ | refine bW ?_ | refine bA ?_ _)); exact BK254.out⟩, ⟨by (with_reducible repeat (first | refine bN ?_ _ | refine bW ?_ | refine bA ?_ _)); exact BK273.out⟩, ⟨by repeat (first | (with_reducible first | exact HB.out | apply lA | apply lN | apply lW | refine lS ?_ GE254.out | refine lS ?_ GE273.out) | exact HB.out)⟩⟩
    case rest =>
     clear HC10
     try clear c1
     try clear q1
     try clear c2
     try clear p2
     try clear c3
     try clear c6
     try clear c6b0
     try clear c6b1
     try clear c7
     try clear c7b0
     try clear c7b1
     try clear c8
     try clear c10
     try clear c11
     try clear c12
     try clear c13
     try clear q15
     try clear c20
     try clear c25
     try clear c25b0
     try clear c25b1
     try clear c25b2
     try clear hcz17_0
     try clear hcz17_1
     try clear hcz17_2
     try clear hcz17_3
     try clear hcz17_4
     try clear hcz17_5
     try clear hcz21_0
     try clear hcz21_1
     try clear hcz21_2
     try clear hcz21_3
     try clear hcz21_4
     try clear hfz17_0
     try clear hfz17_1
     try clear hfz17_2
     try clear hfz17_3
     try clear hfz17_4
     try clear hfz17_5
     try clear hfz21_0
     try clear hfz21_1
     try clear hfz21_2
     try clear hfz21_3
     try clear hfz21_4
     try clear q15
     obtain ⟨kq, x36_9, rfl, HA, HJ9, HO_0, HO_274004, BK254, BK273, HB⟩ := hcut
     cases kq with
     | zero => exact absurd HA.out (by simp [phaetonlaw12_RouteTells.j0])
     | succ kj9 =>
      have H := HA.out
      clear HA
      simp only [phaetonlaw12_RouteTells.j0] at H
      by_cases c36 : x36_9 = true
      ·subst c36
       have H1 : (none) = some r := by rw [if_pos rfl] at H; exact H
       clear H
       have H := H1
       clear H1
       exact absurd H (by simp)
      ·replace c36 := Bool.eq_false_iff.mpr c36
       subst c36
       have H1 : ((phaetonlaw12_Cut.f kj9 y263 10).bind fun t278 => ((route_Hops.f kj9 t278 a2_0 t266 t267 t268 t269 t270).bind fun t281 => ((phaetonref12_Hops.f kj9 t278 a2_0 t266 t267 t268 t269 t270).bind fun t284 => ((phaetonref12_Same.f t281 t284).bind fun t287 => (if t287 = true then ((route_Loopless.f kj9 t278 4).bind fun t288 => ((phaetonref12_Loopless.f kj9 t278 4).bind fun t289 => (phaetonlaw12_RouteTells.j1 kj9 t255 t278 (t288 != t289) a2_0 a2_1 a2_2 a2_3 a2_4 l2_5 t266 t267 t268 t269 t270))) else (phaetonlaw12_RouteTells.j1 kj9 t255 t278 true a2_0 a2_1 a2_2 a2_3 a2_4 l2_5 t266 t267 t268 t269 t270)))))) = some r := by rw [if_neg (show ¬ (false = true) by decide)] at H; exact H
       clear H
       have H := H1
       clear H1
       replace H := Option.bind_eq_some_iff.mp H
       obtain ⟨t278, A370, H⟩ := H
       replace H : ((route_Hops.f kj9 t278 a2_0 t266 t267 t268 t269 t270).bind fun t281 => ((phaetonref12_Hops.f kj9 t278 a2_0 t266 t267 t268 t269 t270).bind fun t284 => ((phaetonref12_Same.f t281 t284).bind fun t287 => (if t287 = true then ((route_Loopless.f kj9 t278 4).bind fun t288 => ((phaetonref12_Loopless.f kj9 t278 4).bind fun t289 => (phaetonlaw12_RouteTells.j1 kj9 t255 t278 (t288 != t289) a2_0 a2_1 a2_2 a2_3 a2_4 l2_5 t266 t267 t268 t269 t270))) else (phaetonlaw12_RouteTells.j1 kj9 t255 t278 true a2_0 a2_1 a2_2 a2_3 a2_4 l2_5 t266 t267 t268 t269 t270))))) = some r := H
       have A37 := aM A370
       clear A370
       have HC38 := aM H
       clear H
       obtain ⟨Ao39, co39, eo39⟩ := Kd.R_slice HO_0.out
       subst eo39
       go_upto_region 7 with (first | ((with_reducible refine gate_callee (f := 16) rfl ?_); refine goesL_ (some 38) rfl rfl Try.func16 (by kernel_rfl) rfl #[.slice Ao39 y263.length co39, .int .i64 10] rfl (by (try simp only [List.map_toArray, List.map_cons, List.map_nil]); first | done | rfl | (simp only [List.length_drop, List.length_take]; rfl)) ?_; (with_reducible refine (phaetonlaw12_Cut.calls kj9 _ _ y263 10 t278 _ ?side1 ?side2 A37.out).mono ?_); (case side1 => repeat (first | exact (Kd.R_reads' HO_0.out).2.2 | (with_reducible refine Kd.C_alloc ?_ _) | (with_reducible refine Kd.C_drewN ?_ _) | (with_reducible refine Kd.C_drew ?_))); (case side2 => exact (Kd.R_reads' HO_0.out).2.1); rintro e w40 ⟨v279, rfl, ho0, hb⟩; refine ⟨_, rfl, ?_⟩; have n0_ := aM (Kd.R_elder' (by (with_reducible repeat (first | apply rA | apply rN | apply rW)); exact HO_0.out) (Kd.R_base ho0) hb); have n1_ := aM (Kd.R_below (by (with_reducible repeat (first | apply rA | apply rN | apply rW)); exact HO_274004.out) hb); have n2_ := aM (Kd.R_lower (Kd.R_new' ho0 (Kd.R_lt (by (with_reducible repeat (first | apply rA | apply rN | apply rW)); exact HO_0.out))) (lZ (by repeat (first | (with_reducible first | exact HB.out | apply lA | apply lN | apply lW | refine lS ?_ GE254.out | refine lS ?_ GE273.out) | exact HB.out)))); have n3_ := aM (blk_below (g := gb254) (o := .cells #[.int .i64 a2_0, .bool a2_1, .int .i64 a2_2, .bool a2_3, .int .i64 a2_4, .slice A2_5 l2_5.length c2_5] 27 (0, 0)) (by (with_reducible repeat (first | refine bN ?_ _ | refine bW ?_ | refine bA ?_ _)); exact BK254.out) hb); have n4_ := aM (blk_below (g := gb273) (o := .cells #[.bool t266, .int .i64 t267, .bool t268, .int .i64 t269, .slice Ao22 t270.length co22] 25 (0, 0)) (by (with_reducible repeat (first | refine bN ?_ _ | refine bW ?_ | refine bA ?_ _)); exact BK273.out) hb); have n5_ := aM (lT (by repeat (first | (with_reducible first | exact HB.out | apply lA | apply lN | apply lW | refine lS ?_ GE254.out | refine lS ?_ GE273.out) | exact HB.out)) hb); clear HO_0; clear HO_274004; clear BK254; clear BK273; clear HB; have HO_0 := n0_; have HO_274004 := n1_; have HO280 := n2_; have BK254 := n3_; have BK273 := n4_; have HB := n5_; clear n0_ n1_ n2_ n3_ n4_ n5_; (try clear hb); (try clear hb2); (try clear hk); (try clear hi); (try clear ho0)))
       (try simp only [Act.put, sT, sZ, sS])
       go_cut [57] (fun v57 wc => ∃ (kq : Nat) (x57_37 : Bool), v57 = .bool x57_37 ∧ Aside0 (phaetonlaw12_RouteTells.j1 kq t255 t278 x57_37 a2_0 a2_1 a2_2 a2_3 a2_4 l2_5 t266 t267 t268 t269 t270 = some r) ∧ Aside0 (kq ≤ kj9) ∧ Aside0 (Kd.R k45 45 wc w.heap.size (fun _ => True) v279 t278) ∧ Aside0 (Kd.R (Kd.int .u8) 5 wc w.heap.size (fun _ => True) (.slice Ao22 t270.length co22) t270) ∧ Aside0 (wc.heap[gb254]? = some (.cells #[.int .i64 a2_0, .bool a2_1, .int .i64 a2_2, .bool a2_3, .int .i64 a2_4, (.slice A2_5 l2_5.length c2_5)] 27 (0, 0))) ∧ Aside0 (wc.heap[gb273]? = some (.cells #[.bool t266, .int .i64 t267, .bool t268, .int .i64 t269, (.slice Ao22 t270.length co22)] 25 (0, 0))) ∧ Aside0 (Below w.heap.size w wc))
       case first =>
        have H := HC38.out
        clear HC38
        replace H := Option.bind_eq_some_iff.mp H
        obtain ⟨t281, A410, H⟩ := H
        replace H : ((phaetonref12_Hops.f kj9 t278 a2_0 t266 t267 t268 t269 t270).bind fun t284 => ((phaetonref12_Same.f t281 t284).bind fun t287 => (if t287 = true then ((route_Loopless.f kj9 t278 4).bind fun t288 => ((phaetonref12_Loopless.f kj9 t278 4).bind fun t289 => (phaetonlaw12_RouteTells.j1 kj9 t255 t278 (t288 != t289) a2_0 a2_1 a2_2 a2_3 a2_4 l2_5 t266 t267 t268 t269 t270))) else (phaetonlaw12_RouteTells.j1 kj9 t255 t278 true a2_0 a2_1 a2_2 a2_3 a2_4 l2_5 t266 t267 t268 t269 t270)))) = some r := H
        have A41 := aM A410
        clear A410
        replace H := Option.bind_eq_some_iff.mp H
        obtain ⟨t284, A420, H⟩ := H
        replace H : ((phaetonref12_Same.f t281 t284).bind fun t287 => (if t287 = true then ((route_Loopless.f kj9 t278 4).bind fun t288 => ((phaetonref12_Loopless.f kj9 t278 4).bind fun t289 => (phaetonlaw12_RouteTells.j1 kj9 t255 t278 (t288 != t289) a2_0 a2_1 a2_2 a2_3 a2_4 l2_5 t266 t267 t268 t269 t270))) else (phaetonlaw12_RouteTells.j1 kj9 t255 t278 true a2_0 a2_1 a2_2 a2_3 a2_4 l2_5 t266 t267 t268 t269 t270))) = some r := H
        have A42 := aM A420
        clear A420
        replace H := Option.bind_eq_some_iff.mp H
        obtain ⟨t287, A430, H⟩ := H
        replace H : (if t287 = true then ((route_Loopless.f kj9 t278 4).bind fun t288 => ((phaetonref12_Loopless.f kj9 t278 4).bind fun t289 => (phaetonlaw12_RouteTells.j1 kj9 t255 t278 (t288 != t289) a2_0 a2_1 a2_2 a2_3 a2_4 l2_5 t266 t267 t268 t269 t270))) else (phaetonlaw12_RouteTells.j1 kj9 t255 t278 true a2_0 a2_1 a2_2 a2_3 a2_4 l2_5 t266 t267 t268 t269 t270)) = some r := H
        have A43 := aM A430
        clear A430
        by_cases c44 : t287 = true
        ·subst c44
         have H1 : ((route_Loopless.f kj9 t278 4).bind fun t288 => ((phaetonref12_Loopless.f kj9 t278 4).bind fun t289 => (phaetonlaw12_RouteTells.j1 kj9 t255 t278 (t288 != t289) a2_0 a2_1 a2_2 a2_3 a2_4 l2_5 t266 t267 t268 t269 t270))) = some r := by rw [if_pos rfl] at H; exact H
         clear H
         have H := H1
         clear H1
         replace H := Option.bind_eq_some_iff.mp H
         obtain ⟨t288, A450, H⟩ := H
         replace H : ((phaetonref12_Loopless.f kj9 t278 4).bind fun t289 => (phaetonlaw12_RouteTells.j1 kj9 t255 t278 (t288 != t289) a2_0 a2_1 a2_2 a2_3 a2_4 l2_5 t266 t267 t268 t269 t270)) = some r := H
         have A45 := aM A450
         clear A450
         replace H := Option.bind_eq_some_iff.mp H
         obtain ⟨t289, A460, H⟩ := H
         replace H : (phaetonlaw12_RouteTells.j1 kj9 t255 t278 (t288 != t289) a2_0 a2_1 a2_2 a2_3 a2_4 l2_5 t266 t267 t268 t269 t270) = some r := H
         have A46 := aM A460
         clear A460
         have H' := aM H
         clear H
         try go_wp2
         have n0_ := aM (rW HO_0.out)
         have n1_ := aM (rW HO_274004.out)
         have n2_ := aM (rW HO280.out)
         have n3_ := aM (bW BK254.out)
         have n4_ := aM (bW BK273.out)
         have n5_ := aM (lW HB.out)
         clear HO_0
         clear HO_274004
         clear HO280
         clear BK254
         clear BK273
         clear HB
         have HO_0 := n0_
         have HO_274004 := n1_
         have HO280 := n2_
         have BK254 := n3_
         have BK273 := n4_
         have HB := n5_
         clear n0_ n1_ n2_ n3_ n4_ n5_
         obtain ⟨Ao48, co48, eo48⟩ := Kd.R_slice HO280.out
         (first | subst eo48 | (injection eo48 with f1_ f2_ f3_; have f4_ := f1_.symm; have f5_ := f3_.symm; clear f1_ f2_ f3_; subst f4_; subst f5_))
         refine start_ (n := 19) (S := fun w' => w'.cell? ⟨gb254, 0, none⟩ = some (.int .i64 a2_0) ∧ w'.cell? ⟨gb254, 1, none⟩ = some (.bool a2_1) ∧ w'.cell? ⟨gb254, 2, none⟩ = some (.int .i64 a2_2) ∧ w'.cell? ⟨gb254, 3, none⟩ = some (.bool a2_3) ∧ w'.cell? ⟨gb254, 4, none⟩ = some (.int .i64 a2_4) ∧ w'.cell? ⟨gb254, 5, none⟩ = some (.slice A2_5 l2_5.length c2_5) ∧ w'.cell? ⟨gb273, 0, none⟩ = some (.bool t266) ∧ w'.cell? ⟨gb273, 1, none⟩ = some (.int .i64 t267) ∧ w'.cell? ⟨gb273, 2, none⟩ = some (.bool t268) ∧ w'.cell? ⟨gb273, 3, none⟩ = some (.int .i64 t269) ∧ w'.cell? ⟨gb273, 4, none⟩ = some (.slice Ao22 t270.length co22)) (ds := []) #[false, false, false, false, false, false, false, false, false, false, false, false, false, false, false, false, false, false, false] (by kernel_rfl) rfl rfl ⟨(bC BK254.out 0).trans rfl, (bC BK254.out 1).trans rfl, (bC BK254.out 2).trans rfl, (bC BK254.out 3).trans rfl, (bC BK254.out 4).trans rfl, (bC BK254.out 5).trans rfl, (bC BK273.out 0).trans rfl, (bC BK273.out 1).trans rfl, (bC BK273.out 2).trans rfl, (bC BK273.out 3).trans rfl, (bC BK273.out 4).trans rfl⟩ (fun hHeld => ?_); refine with_tabW phaetonlaw12_RouteTells.tab7 phaetonlaw12_RouteTells.bits7 (fun HT_ HW_ => ?_)
         generalize w40.drew = w47 at HO_0 HO_274004 HO280 BK254 BK273 HB hHeld ⊢
         refine pure_ (i := 0) (N := some 39) (v := ?_) (a' := ?_) #[true, false, false, false, false, false, false, false, false, false, false, false, false, false, false, false, false, false, false] rfl rfl (any_of HT_.out (by kernel_rfl)) (fun _ _ _ h => h) (Or.inl ⟨by rfl, ?_⟩) ?_ ?_
         rotate_left
         ·intro w'
          go_simp
          with_reducible rfl
         rotate_left
         ·simp only [Act.put, sT, sZ, sS, i64_w, i32_w]
          rfl
         refine pure_ (i := 1) (N := some 40) (v := ?_) (a' := ?_) #[true, true, false, false, false, false, false, false, false, false, false, false, false, false, false, false, false, false, false] rfl rfl (any_of HT_.out (by kernel_rfl)) (fun _ _ _ h => h) (Or.inl ⟨by rfl, ?_⟩) ?_ ?_
         rotate_left
         ·intro w'
          go_simp
          with_reducible rfl
         rotate_left
         ·simp only [Act.put, sT, sZ, sS, i64_w, i32_w]
          rfl
         refine pure_ (i := 5) (N := some 44) (v := ?_) (a' := ?_) #[true, true, false, false, false, true, false, false, false, false, false, false, false, false, false, false, false, false, false] rfl rfl (any_of HT_.out (by kernel_rfl)) (fun _ _ _ h => h) (Or.inl ⟨by rfl, ?_⟩) ?_ ?_
         rotate_left
         ·intro w'
          go_simp
          with_reducible rfl
         rotate_left
         ·simp only [Act.put, sT, sZ, sS, i64_w, i32_w]
          rfl
         refine pure_ (i := 6) (N := some 45) (v := ?_) (a' := ?_) #[true, true, false, false, false, true, true, false, false, false, false, false, false, false, false, false, false, false, false] rfl rfl (any_of HT_.out (by kernel_rfl)) (fun _ _ _ h => h) (Or.inl ⟨by rfl, ?_⟩) ?_ ?_
         rotate_left
         ·intro w'
          go_simp
          with_reducible rfl
         rotate_left
         ·simp only [Act.put, sT, sZ, sS, i64_w, i32_w]
          rfl
         refine take_ (i := 2) (N := some 41) (v := ?_) (a' := ?_) #[true, true, true, false, false, true, true, false, false, false, false, false, false, false, false, false, false, false, false] rfl rfl (take_ofW HT_.out HW_.out (by kernel_rfl)) (fun _ _ _ h => h) (Or.inl ⟨by rfl, ?_⟩) hHeld ?_ ?_
         rotate_left
         ·rintro w' ⟨s0, s1, s2, s3, s4, s5, s6, s7, s8, s9, s10⟩
          go_simp
          with_reducible rfl
         rotate_left
         ·simp only [Act.put, sT, sZ, sS, i64_w, i32_w]
          rfl
         refine take_ (i := 3) (N := some 42) (v := ?_) (a' := ?_) #[true, true, true, true, false, true, true, false, false, false, false, false, false, false, false, false, false, false, false] rfl rfl (take_ofW HT_.out HW_.out (by kernel_rfl)) (fun _ _ _ h => h) (Or.inl ⟨by rfl, ?_⟩) hHeld ?_ ?_
         rotate_left
         ·rintro w' ⟨s0, s1, s2, s3, s4, s5, s6, s7, s8, s9, s10⟩
          go_simp
          with_reducible rfl
         rotate_left
         ·simp only [Act.put, sT, sZ, sS, i64_w, i32_w]
          rfl
         refine take_ (i := 7) (N := some 46) (v := ?_) (a' := ?_) #[true, true, true, true, false, true, true, true, false, false, false, false, false, false, false, false, false, false, false] rfl rfl (take_ofW HT_.out HW_.out (by kernel_rfl)) (fun _ _ _ h => h) (Or.inl ⟨by rfl, ?_⟩) hHeld ?_ ?_
         rotate_left
         ·rintro w' ⟨s0, s1, s2, s3, s4, s5, s6, s7, s8, s9, s10⟩
          go_simp
          with_reducible rfl
         rotate_left
         ·simp only [Act.put, sT, sZ, sS, i64_w, i32_w]
          rfl
         refine take_ (i := 8) (N := some 47) (v := ?_) (a' := ?_) #[true, true, true, true, false, true, true, true, true, false, false, false, false, false, false, false, false, false, false] rfl rfl (take_ofW HT_.out HW_.out (by kernel_rfl)) (fun _ _ _ h => h) (Or.inl ⟨by rfl, ?_⟩) hHeld ?_ ?_
         rotate_left
         ·rintro w' ⟨s0, s1, s2, s3, s4, s5, s6, s7, s8, s9, s10⟩
          go_simp
          with_reducible rfl
         rotate_left
         ·simp only [Act.put, sT, sZ, sS, i64_w, i32_w]
          rfl
         refine one_ (i := 4) (N := some 43) #[true, true, true, true, true, true, true, true, true, false, false, false, false, false, false, false, false, false, false] rfl rfl (one_of HT_.out (by kernel_rfl)) (by decide) (fun K hK => ?_)
         refine goes_ Try.func18 (by kernel_rfl) rfl #[.slice Ao48 t278.length co48, .int .i64 a2_0, .agg #[.bool t266, .int .i64 t267, .bool t268, .int .i64 t269, .slice Ao22 t270.length co22]] (by rfl) rfl rfl (by (try simp only [List.map_toArray, List.map_cons, List.map_nil]); first | done | rfl | (simp only [List.length_drop, List.length_take]; rfl)) ?_
         with_reducible refine (route_Hops.calls kj9 _ _ t278 a2_0 t266 t267 t268 t269 (fun k_ => some k_ = (.slice Ao22 t270.length co22 : Value).ownBlock) _ _ t270 t281 _ ?side1 ?side2 ?side3 A41.out).mono ?_
         (case side1 => repeat (first | exact (Kd.R_reads' HO280.out).2.2 | (with_reducible refine Kd.C_alloc ?_ _) | (with_reducible refine Kd.C_drewN ?_ _) | (with_reducible refine Kd.C_drew ?_)))
         (case side2 => exact (Kd.R_reads' HO280.out).2.1)
         (case side3 => exact Kd.R_V (Kd.R_tight rfl (Kd.R_types (Kd.R_types (Kd.R_apart' (Kd.R_apart' (HO_274004.out) (Kd.R_typed HO_0.out) (by decide)) (Kd.R_typed HO280.out) (by decide)) BK254.out (by decide)) BK273.out (by decide))))
         rintro e w49 ⟨v282, rfl, ho0, hb⟩
         refine ⟨_, rfl, ?_⟩
         have n0_ := aM (Kd.R_below (by (with_reducible repeat (first | apply rA | apply rN | apply rW)); exact HO_0.out) hb)
         have n1_ := aM (Kd.R_below (by (with_reducible repeat (first | apply rA | apply rN | apply rW)); exact HO_274004.out) hb)
         have n2_ := aM (Kd.R_below (by (with_reducible repeat (first | apply rA | apply rN | apply rW)); exact HO280.out) hb)
         have n3_ := aM (Kd.N_lower (Kd.N_mono (ok' := fun k_ => some k_ ≠ (.slice Ao39 y263.length co39 : Value).ownBlock ∧ some k_ ≠ (.slice Ao48 t278.length co48 : Value).ownBlock ∧ k_ ≠ gb254 ∧ k_ ≠ gb273) ho0 (fun k_ hk_ => ⟨Or.elim hk_ (fun hs_ => ((Kd.R_types (Kd.R_types (Kd.R_apart' (Kd.R_apart' (HO_274004.out) (Kd.R_typed HO_0.out) (by decide)) (Kd.R_typed HO280.out) (by decide)) BK254.out (by decide)) BK273.out (by decide)).1 k_ hs_.symm).1.1.1.2) (fun hn_ => (Kd.fresh' (Kd.R_lt (by (with_reducible repeat (first | apply rA | apply rN | apply rW)); exact HO_0.out)) k_ hn_)), Or.elim hk_ (fun hs_ => ((Kd.R_types (Kd.R_types (Kd.R_apart' (Kd.R_apart' (HO_274004.out) (Kd.R_typed HO_0.out) (by decide)) (Kd.R_typed HO280.out) (by decide)) BK254.out (by decide)) BK273.out (by decide)).1 k_ hs_.symm).1.1.2) (fun hn_ => (Kd.fresh' (Kd.R_lt (by (with_reducible repeat (first | apply rA | apply rN | apply rW)); exact HO280.out)) k_ hn_)), Or.elim hk_ (fun hs_ => ((Kd.R_types (Kd.R_types (Kd.R_apart' (Kd.R_apart' (HO_274004.out) (Kd.R_typed HO_0.out) (by decide)) (Kd.R_typed HO280.out) (by decide)) BK254.out (by decide)) BK273.out (by decide)).1 k_ hs_.symm).1.2) (fun hn_ => (Kd.freshB (g := gb254) (o := .cells #[.int .i64 a2_0, .bool a2_1, .int .i64 a2_2, .bool a2_3, .int .i64 a2_4, .slice A2_5 l2_5.length c2_5] 27 (0, 0)) (by (with_reducible repeat (first | refine bN ?_ _ | refine bW ?_ | refine bA ?_ _)); exact BK254.out) k_ hn_)), Or.elim hk_ (fun hs_ => ((Kd.R_types (Kd.R_types (Kd.R_apart' (Kd.R_apart' (HO_274004.out) (Kd.R_typed HO_0.out) (by decide)) (Kd.R_typed HO280.out) (by decide)) BK254.out (by decide)) BK273.out (by decide)).1 k_ hs_.symm).2) (fun hn_ => (Kd.freshB (g := gb273) (o := .cells #[.bool t266, .int .i64 t267, .bool t268, .int .i64 t269, .slice Ao22 t270.length co22] 25 (0, 0)) (by (with_reducible repeat (first | refine bN ?_ _ | refine bW ?_ | refine bA ?_ _)); exact BK273.out) k_ hn_))⟩)) (lZ (by repeat (first | (with_reducible first | exact HB.out | apply lA | apply lN | apply lW | refine lS ?_ GE254.out | refine lS ?_ GE273.out) | exact HB.out))))
         have n4_ := aM (blk_below (g := gb254) (o := .cells #[.int .i64 a2_0, .bool a2_1, .int .i64 a2_2, .bool a2_3, .int .i64 a2_4, .slice A2_5 l2_5.length c2_5] 27 (0, 0)) (by (with_reducible repeat (first | refine bN ?_ _ | refine bW ?_ | refine bA ?_ _)); exact BK254.out) hb)
         have n5_ := aM (blk_below (g := gb273) (o := .cells #[.bool t266, .int .i64 t267, .bool t268, .int .i64 t269, .slice Ao22 t270.length co22] 25 (0, 0)) (by (with_reducible repeat (first | refine bN ?_ _ | refine bW ?_ | refine bA ?_ _)); exact BK273.out) hb)
         have n6_ := aM (lT (by repeat (first | (with_reducible first | exact HB.out | apply lA | apply lN | apply lW | refine lS ?_ GE254.out | refine lS ?_ GE273.out) | exact HB.out)) hb)
         clear HO_0
         clear HO_274004
         clear HO280
         clear BK254
         clear BK273
         clear HB
         have HO_0 := n0_
         have HO_274004 := n1_
         have HO280 := n2_
         have HO283 := n3_
         have BK254 := n4_
         have BK273 := n5_
         have HB := n6_
         clear n0_ n1_ n2_ n3_ n4_ n5_ n6_
         (try clear hb)
         (try clear hb2)
         (try clear hk)
         (try clear hi)
         (try clear ho0)
         refine hK.out _ _ ⟨(bC BK254.out 0).trans rfl, (bC BK254.out 1).trans rfl, (bC BK254.out 2).trans rfl, (bC BK254.out 3).trans rfl, (bC BK254.out 4).trans rfl, (bC BK254.out 5).trans rfl, (bC BK273.out 0).trans rfl, (bC BK273.out 1).trans rfl, (bC BK273.out 2).trans rfl, (bC BK273.out 3).trans rfl, (bC BK273.out 4).trans rfl⟩ (fun hHeld => ?_)
         clear hK K
         refine norm_ (a' := ?_) ?_ ?_
         rotate_left
         ·show Act.put _ (some 43) _ = _
          simp only [Act.put, sT, sZ, sS, i64_w, i32_w]
          rfl
         refine one_ (i := 9) (N := some 48) #[true, true, true, true, true, true, true, true, true, true, false, false, false, false, false, false, false, false, false] rfl rfl (one_of HT_.out (by kernel_rfl)) (by decide) (fun K hK => ?_)
         refine goes_ Try.func19 (by kernel_rfl) rfl #[.slice Ao48 t278.length co48, .int .i64 a2_0, .agg #[.bool t266, .int .i64 t267, .bool t268, .int .i64 t269, .slice Ao22 t270.length co22]] (by rfl) rfl rfl (by (try simp only [List.map_toArray, List.map_cons, List.map_nil]); first | done | rfl | (simp only [List.length_drop, List.length_take]; rfl)) ?_
         with_reducible refine (phaetonref12_Hops.calls kj9 _ _ t278 a2_0 t266 t267 t268 t269 (fun k_ => some k_ = (.slice Ao22 t270.length co22 : Value).ownBlock) _ _ t270 t284 _ ?side1 ?side2 ?side3 A42.out).mono ?_
         (case side1 => repeat (first | exact (Kd.R_reads' HO280.out).2.2 | (with_reducible refine Kd.C_alloc ?_ _) | (with_reducible refine Kd.C_drewN ?_ _) | (with_reducible refine Kd.C_drew ?_)))
         (case side2 => exact (Kd.R_reads' HO280.out).2.1)
         (case side3 => exact Kd.R_V (Kd.R_tight rfl (Kd.R_types (Kd.R_types (Kd.R_apart' (Kd.R_apart' (Kd.R_apart' (HO_274004.out) (Kd.R_typed HO_0.out) (by decide)) (Kd.R_typed HO280.out) (by decide)) (Kd.N_typed HO283.out) (by decide)) BK254.out (by decide)) BK273.out (by decide))))
         rintro e w50 ⟨v285, rfl, ho0, hb⟩
         refine ⟨_, rfl, ?_⟩
         have n0_ := aM (Kd.R_below (by (with_reducible repeat (first | apply rA | apply rN | apply rW)); exact HO_0.out) hb)
         have n1_ := aM (Kd.R_below (by (with_reducible repeat (first | apply rA | apply rN | apply rW)); exact HO_274004.out) hb)
         have n2_ := aM (Kd.R_below (by (with_reducible repeat (first | apply rA | apply rN | apply rW)); exact HO280.out) hb)
         have n3_ := aM (Kd.N_elder' (by (with_reducible repeat (first | apply Kd.N_alloc | apply Kd.N_drewN | apply Kd.N_drew)); exact HO283.out) (Kd.N_base ho0) hb)
         have n4_ := aM (Kd.N_lower (Kd.N_mono (ok' := fun k_ => some k_ ≠ (.slice Ao39 y263.length co39 : Value).ownBlock ∧ some k_ ≠ (.slice Ao48 t278.length co48 : Value).ownBlock ∧ some k_ ≠ (v282 : Value).ownBlock ∧ k_ ≠ gb254 ∧ k_ ≠ gb273) ho0 (fun k_ hk_ => ⟨Or.elim hk_ (fun hs_ => ((Kd.R_types (Kd.R_types (Kd.R_apart' (Kd.R_apart' (Kd.R_apart' (HO_274004.out) (Kd.R_typed HO_0.out) (by decide)) (Kd.R_typed HO280.out) (by decide)) (Kd.N_typed HO283.out) (by decide)) BK254.out (by decide)) BK273.out (by decide)).1 k_ hs_.symm).1.1.1.1.2) (fun hn_ => (Kd.fresh' (Kd.R_lt (by (with_reducible repeat (first | apply rA | apply rN | apply rW)); exact HO_0.out)) k_ hn_)), Or.elim hk_ (fun hs_ => ((Kd.R_types (Kd.R_types (Kd.R_apart' (Kd.R_apart' (Kd.R_apart' (HO_274004.out) (Kd.R_typed HO_0.out) (by decide)) (Kd.R_typed HO280.out) (by decide)) (Kd.N_typed HO283.out) (by decide)) BK254.out (by decide)) BK273.out (by decide)).1 k_ hs_.symm).1.1.1.2) (fun hn_ => (Kd.fresh' (Kd.R_lt (by (with_reducible repeat (first | apply rA | apply rN | apply rW)); exact HO280.out)) k_ hn_)), Or.elim hk_ (fun hs_ => ((Kd.R_types (Kd.R_types (Kd.R_apart' (Kd.R_apart' (Kd.R_apart' (HO_274004.out) (Kd.R_typed HO_0.out) (by decide)) (Kd.R_typed HO280.out) (by decide)) (Kd.N_typed HO283.out) (by decide)) BK254.out (by decide)) BK273.out (by decide)).1 k_ hs_.symm).1.1.2) (fun hn_ => (Kd.fresh' (Kd.N_lt (by (with_reducible repeat (first | apply Kd.N_alloc | apply Kd.N_drewN | apply Kd.N_drew)); exact HO283.out)) k_ hn_)), Or.elim hk_ (fun hs_ => ((Kd.R_types (Kd.R_types (Kd.R_apart' (Kd.R_apart' (Kd.R_apart' (HO_274004.out) (Kd.R_typed HO_0.out) (by decide)) (Kd.R_typed HO280.out) (by decide)) (Kd.N_typed HO283.out) (by decide)) BK254.out (by decide)) BK273.out (by decide)).1 k_ hs_.symm).1.2) (fun hn_ => (Kd.freshB (g := gb254) (o := .cells #[.int .i64 a2_0, .bool a2_1, .int .i64 a2_2, .bool a2_3, .int .i64 a2_4, .slice A2_5 l2_5.length c2_5] 27 (0, 0)) (by (with_reducible repeat (first | refine bN ?_ _ | refine bW ?_ | refine bA ?_ _)); exact BK254.out) k_ hn_)), Or.elim hk_ (fun hs_ => ((Kd.R_types (Kd.R_types (Kd.R_apart' (Kd.R_apart' (Kd.R_apart' (HO_274004.out) (Kd.R_typed HO_0.out) (by decide)) (Kd.R_typed HO280.out) (by decide)) (Kd.N_typed HO283.out) (by decide)) BK254.out (by decide)) BK273.out (by decide)).1 k_ hs_.symm).2) (fun hn_ => (Kd.freshB (g := gb273) (o := .cells #[.bool t266, .int .i64 t267, .bool t268, .int .i64 t269, .slice Ao22 t270.length co22] 25 (0, 0)) (by (with_reducible repeat (first | refine bN ?_ _ | refine bW ?_ | refine bA ?_ _)); exact BK273.out) k_ hn_))⟩)) (lZ (by repeat (first | (with_reducible first | exact HB.out | apply lA | apply lN | apply lW | refine lS ?_ GE254.out | refine lS ?_ GE273.out) | exact HB.out))))
         have n5_ := aM (blk_below (g := gb254) (o := .cells #[.int .i64 a2_0, .bool a2_1, .int .i64 a2_2, .bool a2_3, .int .i64 a2_4, .slice A2_5 l2_5.length c2_5] 27 (0, 0)) (by (with_reducible repeat (first | refine bN ?_ _ | refine bW ?_ | refine bA ?_ _)); exact BK254.out) hb)
         have n6_ := aM (blk_below (g := gb273) (o := .cells #[.bool t266, .int .i64 t267, .bool t268, .int .i64 t269, .slice Ao22 t270.length co22] 25 (0, 0)) (by (with_reducible repeat (first | refine bN ?_ _ | refine bW ?_ | refine bA ?_ _)); exact BK273.out) hb)
         have n7_ := aM (lT (by repeat (first | (with_reducible first | exact HB.out | apply lA | apply lN | apply lW | refine lS ?_ GE254.out | refine lS ?_ GE273.out) | exact HB.out)) hb)
         clear HO_0
         clear HO_274004
         clear HO280
         clear HO283
         clear BK254
         clear BK273
         clear HB
         have HO_0 := n0_
         have HO_274004 := n1_
         have HO280 := n2_
         have HO283 := n3_
         have HO286 := n4_
         have BK254 := n5_
         have BK273 := n6_
         have HB := n7_
         clear n0_ n1_ n2_ n3_ n4_ n5_ n6_ n7_
         (try clear hb)
         (try clear hb2)
         (try clear hk)
         (try clear hi)
         (try clear ho0)
         obtain ⟨Ao51, co51, eo51⟩ := Kd.N_slice HO283.out
         (first | subst eo51 | (injection eo51 with f1_ f2_ f3_; have f4_ := f1_.symm; have f5_ := f3_.symm; clear f1_ f2_ f3_; subst f4_; subst f5_))
         obtain ⟨Ao52, co52, eo52⟩ := Kd.N_slice HO286.out
         (first | subst eo52 | (injection eo52 with f1_ f2_ f3_; have f4_ := f1_.symm; have f5_ := f3_.symm; clear f1_ f2_ f3_; subst f4_; subst f5_))
         refine hK.out _ _ ⟨(bC BK254.out 0).trans rfl, (bC BK254.out 1).trans rfl, (bC BK254.out 2).trans rfl, (bC BK254.out 3).trans rfl, (bC BK254.out 4).trans rfl, (bC BK254.out 5).trans rfl, (bC BK273.out 0).trans rfl, (bC BK273.out 1).trans rfl, (bC BK273.out 2).trans rfl, (bC BK273.out 3).trans rfl, (bC BK273.out 4).trans rfl⟩ (fun hHeld => ?_)
         clear hK K
         refine norm_ (a' := ?_) ?_ ?_
         rotate_left
         ·show Act.put _ (some 48) _ = _
          simp only [Act.put, sT, sZ, sS, i64_w, i32_w]
          rfl
         refine one_ (i := 10) (N := some 49) #[true, true, true, true, true, true, true, true, true, true, true, false, false, false, false, false, false, false, false] rfl rfl (one_of HT_.out (by kernel_rfl)) (by decide) (fun K hK => ?_)
         refine goes_ Try.func17 (by kernel_rfl) rfl #[.slice Ao51 t281.length co51, .slice Ao52 t284.length co52] (by rfl) rfl rfl (by (try simp only [List.map_toArray, List.map_cons, List.map_nil]); first | done | rfl | (simp only [List.length_drop, List.length_take]; rfl)) ?_
         with_reducible refine (phaetonref12_Same.calls _ _ t281 _ _ t284 true _ ?side1 ?side2 ?side3 ?side4 A43.out).mono ?_
         (case side1 => repeat (first | exact (Kd.N_reads' HO283.out).2.2 | (with_reducible refine Kd.C_alloc ?_ _) | (with_reducible refine Kd.C_drewN ?_ _) | (with_reducible refine Kd.C_drew ?_)))
         (case side2 => exact (Kd.N_reads' HO283.out).2.1)
         (case side3 => repeat (first | exact (Kd.N_reads' HO286.out).2.2 | (with_reducible refine Kd.C_alloc ?_ _) | (with_reducible refine Kd.C_drewN ?_ _) | (with_reducible refine Kd.C_drew ?_)))
         (case side4 => exact (Kd.N_reads' HO286.out).2.1)
         rintro e w53 ⟨rfl, hb⟩
         refine ⟨_, rfl, ?_⟩
         have n0_ := aM (Kd.R_below (by (with_reducible repeat (first | apply rA | apply rN | apply rW)); exact HO_0.out) hb)
         have n1_ := aM (Kd.R_below (by (with_reducible repeat (first | apply rA | apply rN | apply rW)); exact HO_274004.out) hb)
         have n2_ := aM (Kd.R_below (by (with_reducible repeat (first | apply rA | apply rN | apply rW)); exact HO280.out) hb)
         have n3_ := aM (Kd.N_below (by (with_reducible repeat (first | apply Kd.N_alloc | apply Kd.N_drewN | apply Kd.N_drew)); exact HO283.out) hb)
         have n4_ := aM (Kd.N_below (by (with_reducible repeat (first | apply Kd.N_alloc | apply Kd.N_drewN | apply Kd.N_drew)); exact HO286.out) hb)
         have n5_ := aM (blk_below (g := gb254) (o := .cells #[.int .i64 a2_0, .bool a2_1, .int .i64 a2_2, .bool a2_3, .int .i64 a2_4, .slice A2_5 l2_5.length c2_5] 27 (0, 0)) (by (with_reducible repeat (first | refine bN ?_ _ | refine bW ?_ | refine bA ?_ _)); exact BK254.out) hb)
         have n6_ := aM (blk_below (g := gb273) (o := .cells #[.bool t266, .int .i64 t267, .bool t268, .int .i64 t269, .slice Ao22 t270.length co22] 25 (0, 0)) (by (with_reducible repeat (first | refine bN ?_ _ | refine bW ?_ | refine bA ?_ _)); exact BK273.out) hb)
         have n7_ := aM (lT (by repeat (first | (with_reducible first | exact HB.out | apply lA | apply lN | apply lW | refine lS ?_ GE254.out | refine lS ?_ GE273.out) | exact HB.out)) hb)
         clear HO_0
         clear HO_274004
         clear HO280
         clear HO283
         clear HO286
         clear BK254
         clear BK273
         clear HB
         have HO_0 := n0_
         have HO_274004 := n1_
         have HO280 := n2_
         have HO283 := n3_
         have HO286 := n4_
         have BK254 := n5_
         have BK273 := n6_
         have HB := n7_
         clear n0_ n1_ n2_ n3_ n4_ n5_ n6_ n7_
         (try clear hb)
         (try clear hb2)
         (try clear hk)
         (try clear hi)
         refine hK.out _ _ ⟨(bC BK254.out 0).trans rfl, (bC BK254.out 1).trans rfl, (bC BK254.out 2).trans rfl, (bC BK254.out 3).trans rfl, (bC BK254.out 4).trans rfl, (bC BK254.out 5).trans rfl, (bC BK273.out 0).trans rfl, (bC BK273.out 1).trans rfl, (bC BK273.out 2).trans rfl, (bC BK273.out 3).trans rfl, (bC BK273.out 4).trans rfl⟩ (fun hHeld => ?_)
         clear hK K
         refine norm_ (a' := ?_) ?_ ?_
         rotate_left
         ·show Act.put _ (some 49) _ = _
          simp only [Act.put, sT, sZ, sS, i64_w, i32_w]
          rfl
         refine pure_ (i := 11) (N := some 50) (v := ?_) (a' := ?_) #[true, true, true, true, true, true, true, true, true, true, true, true, false, false, false, false, false, false, false] rfl rfl (any_of HT_.out (by kernel_rfl)) (fun _ _ _ h => h) (Or.inl ⟨by rfl, ?_⟩) ?_ ?_
         rotate_left
         ·intro w'
          go_simp
          with_reducible rfl
         rotate_left
         ·simp only [Act.put, sT, sZ, sS, i64_w, i32_w]
          rfl
         refine pure_ (i := 12) (N := some 51) (v := ?_) (a' := ?_) #[true, true, true, true, true, true, true, true, true, true, true, true, true, false, false, false, false, false, false] rfl rfl (any_of HT_.out (by kernel_rfl)) (fun _ _ _ h => h) (Or.inl ⟨by rfl, ?_⟩) ?_ ?_
         rotate_left
         ·intro w'
          go_simp
          with_reducible rfl
         rotate_left
         ·simp only [Act.put, sT, sZ, sS, i64_w, i32_w]
          rfl
         refine pure_ (i := 13) (N := some 52) (v := ?_) (a' := ?_) #[true, true, true, true, true, true, true, true, true, true, true, true, true, true, false, false, false, false, false] rfl rfl (any_of HT_.out (by kernel_rfl)) (fun _ _ _ h => h) (Or.inl ⟨by rfl, ?_⟩) ?_ ?_
         rotate_left
         ·intro w'
          go_simp
          with_reducible rfl
         rotate_left
         ·simp only [Act.put, sT, sZ, sS, i64_w, i32_w]
          rfl
         refine pure_ (i := 15) (N := some 54) (v := ?_) (a' := ?_) #[true, true, true, true, true, true, true, true, true, true, true, true, true, true, false, true, false, false, false] rfl rfl (any_of HT_.out (by kernel_rfl)) (fun _ _ _ h => h) (Or.inl ⟨by rfl, ?_⟩) ?_ ?_
         rotate_left
         ·intro w'
          go_simp
          with_reducible rfl
         rotate_left
         ·simp only [Act.put, sT, sZ, sS, i64_w, i32_w]
          rfl
         refine one_ (i := 14) (N := some 53) #[true, true, true, true, true, true, true, true, true, true, true, true, true, true, true, true, false, false, false] rfl rfl (one_of HT_.out (by kernel_rfl)) (by decide) (fun K hK => ?_)
         refine goes_ Try.func14 (by kernel_rfl) rfl #[.slice Ao48 t278.length co48, .int .i64 4] (by rfl) rfl rfl (by (try simp only [List.map_toArray, List.map_cons, List.map_nil]); first | done | rfl | (simp only [List.length_drop, List.length_take]; rfl)) ?_
         with_reducible refine (route_Loopless.calls kj9 _ _ t278 4 t288 _ ?side1 ?side2 A45.out).mono ?_
         (case side1 => repeat (first | exact (Kd.R_reads' HO280.out).2.2 | (with_reducible refine Kd.C_alloc ?_ _) | (with_reducible refine Kd.C_drewN ?_ _) | (with_reducible refine Kd.C_drew ?_)))
         (case side2 => exact (Kd.R_reads' HO280.out).2.1)
         rintro e w54 ⟨rfl, hb⟩
         refine ⟨_, rfl, ?_⟩
         have n0_ := aM (Kd.R_below (by (with_reducible repeat (first | apply rA | apply rN | apply rW)); exact HO_0.out) hb)
         have n1_ := aM (Kd.R_below (by (with_reducible repeat (first | apply rA | apply rN | apply rW)); exact HO_274004.out) hb)
         have n2_ := aM (Kd.R_below (by (with_reducible repeat (first | apply rA | apply rN | apply rW)); exact HO280.out) hb)
         have n3_ := aM (Kd.N_below (by (with_reducible repeat (first | apply Kd.N_alloc | apply Kd.N_drewN | apply Kd.N_drew)); exact HO283.out) hb)
         have n4_ := aM (Kd.N_below (by (with_reducible repeat (first | apply Kd.N_alloc | apply Kd.N_drewN | apply Kd.N_drew)); exact HO286.out) hb)
         have n5_ := aM (blk_below (g := gb254) (o := .cells #[.int .i64 a2_0, .bool a2_1, .int .i64 a2_2, .bool a2_3, .int .i64 a2_4, .slice A2_5 l2_5.length c2_5] 27 (0, 0)) (by (with_reducible repeat (first | refine bN ?_ _ | refine bW ?_ | refine bA ?_ _)); exact BK254.out) hb)
         have n6_ := aM (blk_below (g := gb273) (o := .cells #[.bool t266, .int .i64 t267, .bool t268, .int .i64 t269, .slice Ao22 t270.length co22] 25 (0, 0)) (by (with_reducible repeat (first | refine bN ?_ _ | refine bW ?_ | refine bA ?_ _)); exact BK273.out) hb)
         have n7_ := aM (lT (by repeat (first | (with_reducible first | exact HB.out | apply lA | apply lN | apply lW | refine lS ?_ GE254.out | refine lS ?_ GE273.out) | exact HB.out)) hb)
         clear HO_0
         clear HO_274004
         clear HO280
         clear HO283
         clear HO286
         clear BK254
         clear BK273
         clear HB
         have HO_0 := n0_
         have HO_274004 := n1_
         have HO280 := n2_
         have HO283 := n3_
         have HO286 := n4_
         have BK254 := n5_
         have BK273 := n6_
         have HB := n7_
         clear n0_ n1_ n2_ n3_ n4_ n5_ n6_ n7_
         (try clear hb)
         (try clear hb2)
         (try clear hk)
         (try clear hi)
         refine hK.out _ _ ⟨(bC BK254.out 0).trans rfl, (bC BK254.out 1).trans rfl, (bC BK254.out 2).trans rfl, (bC BK254.out 3).trans rfl, (bC BK254.out 4).trans rfl, (bC BK254.out 5).trans rfl, (bC BK273.out 0).trans rfl, (bC BK273.out 1).trans rfl, (bC BK273.out 2).trans rfl, (bC BK273.out 3).trans rfl, (bC BK273.out 4).trans rfl⟩ (fun hHeld => ?_)
         clear hK K
         refine norm_ (a' := ?_) ?_ ?_
         rotate_left
         ·show Act.put _ (some 53) _ = _
          simp only [Act.put, sT, sZ, sS, i64_w, i32_w]
          rfl
         refine one_ (i := 16) (N := some 55) #[true, true, true, true, true, true, true, true, true, true, true, true, true, true, true, true, true, false, false] rfl rfl (one_of HT_.out (by kernel_rfl)) (by decide) (fun K hK => ?_)
         refine goes_ Try.func15 (by kernel_rfl) rfl #[.slice Ao48 t278.length co48, .int .i64 4] (by rfl) rfl rfl (by (try simp only [List.map_toArray, List.map_cons, List.map_nil]); first | done | rfl | (simp only [List.length_drop, List.length_take]; rfl)) ?_
         with_reducible refine (phaetonref12_Loopless.calls kj9 _ _ t278 4 t289 _ ?side1 ?side2 A46.out).mono ?_
         (case side1 => repeat (first | exact (Kd.R_reads' HO280.out).2.2 | (with_reducible refine Kd.C_alloc ?_ _) | (with_reducible refine Kd.C_drewN ?_ _) | (with_reducible refine Kd.C_drew ?_)))
         (case side2 => exact (Kd.R_reads' HO280.out).2.1)
         rintro e w55 ⟨rfl, hb⟩
         refine ⟨_, rfl, ?_⟩
         have n0_ := aM (Kd.R_below (by (with_reducible repeat (first | apply rA | apply rN | apply rW)); exact HO_0.out) hb)
         have n1_ := aM (Kd.R_below (by (with_reducible repeat (first | apply rA | apply rN | apply rW)); exact HO_274004.out) hb)
         have n2_ := aM (Kd.R_below (by (with_reducible repeat (first | apply rA | apply rN | apply rW)); exact HO280.out) hb)
         have n3_ := aM (Kd.N_below (by (with_reducible repeat (first | apply Kd.N_alloc | apply Kd.N_drewN | apply Kd.N_drew)); exact HO283.out) hb)
         have n4_ := aM (Kd.N_below (by (with_reducible repeat (first | apply Kd.N_alloc | apply Kd.N_drewN | apply Kd.N_drew)); exact HO286.out) hb)
         have n5_ := aM (blk_below (g := gb254) (o := .cells #[.int .i64 a2_0, .bool a2_1, .int .i64 a2_2, .bool a2_3, .int .i64 a2_4, .slice A2_5 l2_5.length c2_5] 27 (0, 0)) (by (with_reducible repeat (first | refine bN ?_ _ | refine bW ?_ | refine bA ?_ _)); exact BK254.out) hb)
         have n6_ := aM (blk_below (g := gb273) (o := .cells #[.bool t266, .int .i64 t267, .bool t268, .int .i64 t269, .slice Ao22 t270.length co22] 25 (0, 0)) (by (with_reducible repeat (first | refine bN ?_ _ | refine bW ?_ | refine bA ?_ _)); exact BK273.out) hb)
         have n7_ := aM (lT (by repeat (first | (with_reducible first | exact HB.out | apply lA | apply lN | apply lW | refine lS ?_ GE254.out | refine lS ?_ GE273.out) | exact HB.out)) hb)
         clear HO_0
         clear HO_274004
         clear HO280
         clear HO283
         clear HO286
         clear BK254
         clear BK273
         clear HB
         have HO_0 := n0_
         have HO_274004 := n1_
         have HO280 := n2_
         have HO283 := n3_
         have HO286 := n4_
         have BK254 := n5_
         have BK273 := n6_
         have HB := n7_
         clear n0_ n1_ n2_ n3_ n4_ n5_ n6_ n7_
         (try clear hb)
         (try clear hb2)
         (try clear hk)
         (try clear hi)
         refine hK.out _ _ ⟨(bC BK254.out 0).trans rfl, (bC BK254.out 1).trans rfl, (bC BK254.out 2).trans rfl, (bC BK254.out 3).trans rfl, (bC BK254.out 4).trans rfl, (bC BK254.out 5).trans rfl, (bC BK273.out 0).trans rfl, (bC BK273.out 1).trans rfl, (bC BK273.out 2).trans rfl, (bC BK273.out 3).trans rfl, (bC BK273.out 4).trans rfl⟩ (fun hHeld => ?_)
         clear hK K
         refine norm_ (a' := ?_) ?_ ?_
         rotate_left
         ·show Act.put _ (some 55) _ = _
          simp only [Act.put, sT, sZ, sS, i64_w, i32_w]
          rfl
         refine pure_ (i := 17) (N := some 56) (v := ?_) (a' := ?_) #[true, true, true, true, true, true, true, true, true, true, true, true, true, true, true, true, true, true, false] rfl rfl (any_of HT_.out (by kernel_rfl)) (fun _ _ _ h => h) (Or.inl ⟨by rfl, ?_⟩) ?_ ?_
         rotate_left
         ·intro w'
          go_simp
          with_reducible rfl
         rotate_left
         ·simp only [Act.put, sT, sZ, sS, i64_w, i32_w]
          rfl
         refine pure_ (i := 18) (N := some 57) (v := ?_) (a' := ?_) #[true, true, true, true, true, true, true, true, true, true, true, true, true, true, true, true, true, true, true] rfl rfl (any_of HT_.out (by kernel_rfl)) (fun _ _ _ h => h) (Or.inl ⟨by rfl, ?_⟩) ?_ ?_
         rotate_left
         ·intro w'
          go_simp
          with_reducible rfl
         rotate_left
         ·simp only [Act.put, sT, sZ, sS, i64_w, i32_w]
          rfl
         refine done_ (done_of HT_.out (by kernel_rfl)) ?_
         try go_wp2
         go_meet
         case rel => exact ⟨_, ((t288 != t289)), (by first | rfl | (simp; done) | (simp [*]; done)), H', ⟨by have := HJ9.out; first | omega | exact Nat.le_refl _⟩, ⟨by (with_reducible repeat (first | apply rA | apply rN | apply rW)); exact Kd.R_mono HO280.out (fun _ hk => trivial)⟩, ⟨by (with_reducible repeat (first | apply rA | apply rN | apply rW)); exact HO_274004.out⟩, ⟨by (with_reducible repeat (first | refine bN ?_ _ | refine bW ?_ | refine bA ?_ _)); exact BK254.out⟩, ⟨by (with_reducible repeat (first | refine bN ?_ _ | refine bW ?_ | refine bA ?_ _)); exact BK273.out⟩, ⟨by repeat (first | (with_reducible first | exact HB.out | apply lA | apply lN | apply lW | refine lS ?_ GE254.out | refine lS ?_ GE273.out) | exact HB.out)⟩⟩
        ·replace c44 := Bool.eq_false_iff.mpr c44
         subst c44
         have H1 : (phaetonlaw12_RouteTells.j1 kj9 t255 t278 true a2_0 a2_1 a2_2 a2_3 a2_4 l2_5 t266 t267 t268 t269 t270) = some r := by rw [if_neg (show ¬ (false = true) by decide)] at H; exact H
         clear H
         have H := H1
         clear H1
         have H' := aM H
         clear H
         try go_wp2
         have n0_ := aM (rW HO_0.out)
         have n1_ := aM (rW HO_274004.out)
         have n2_ := aM (rW HO280.out)
         have n3_ := aM (bW BK254.out)
         have n4_ := aM (bW BK273.out)
         have n5_ := aM (lW HB.out)
         clear HO_0
         clear HO_274004
         clear HO280
         clear BK254
         clear BK273
         clear HB
         have HO_0 := n0_
         have HO_274004 := n1_
         have HO280 := n2_
         have BK254 := n3_
         have BK273 := n4_
         have HB := n5_
         clear n0_ n1_ n2_ n3_ n4_ n5_
         obtain ⟨Ao57, co57, eo57⟩ := Kd.R_slice HO280.out
         (first | subst eo57 | (injection eo57 with f1_ f2_ f3_; have f4_ := f1_.symm; have f5_ := f3_.symm; clear f1_ f2_ f3_; subst f4_; subst f5_))
         refine start_ (n := 19) (S := fun w' => w'.cell? ⟨gb254, 0, none⟩ = some (.int .i64 a2_0) ∧ w'.cell? ⟨gb254, 1, none⟩ = some (.bool a2_1) ∧ w'.cell? ⟨gb254, 2, none⟩ = some (.int .i64 a2_2) ∧ w'.cell? ⟨gb254, 3, none⟩ = some (.bool a2_3) ∧ w'.cell? ⟨gb254, 4, none⟩ = some (.int .i64 a2_4) ∧ w'.cell? ⟨gb254, 5, none⟩ = some (.slice A2_5 l2_5.length c2_5) ∧ w'.cell? ⟨gb273, 0, none⟩ = some (.bool t266) ∧ w'.cell? ⟨gb273, 1, none⟩ = some (.int .i64 t267) ∧ w'.cell? ⟨gb273, 2, none⟩ = some (.bool t268) ∧ w'.cell? ⟨gb273, 3, none⟩ = some (.int .i64 t269) ∧ w'.cell? ⟨gb273, 4, none⟩ = some (.slice Ao22 t270.length co22)) (ds := []) #[false, false, false, false, false, false, false, false, false, false, false, false, false, false, false, false, false, false, false] (by kernel_rfl) rfl rfl ⟨(bC BK254.out 0).trans rfl, (bC BK254.out 1).trans rfl, (bC BK254.out 2).trans rfl, (bC BK254.out 3).trans rfl, (bC BK254.out 4).trans rfl, (bC BK254.out 5).trans rfl, (bC BK273.out 0).trans rfl, (bC BK273.out 1).trans rfl, (bC BK273.out 2).trans rfl, (bC BK273.out 3).trans rfl, (bC BK273.out 4).trans rfl⟩ (fun hHeld => ?_); refine with_tabW phaetonlaw12_RouteTells.tab7 phaetonlaw12_RouteTells.bits7 (fun HT_ HW_ => ?_)
         generalize w40.drew = w56 at HO_0 HO_274004 HO280 BK254 BK273 HB hHeld ⊢
         refine pure_ (i := 0) (N := some 39) (v := ?_) (a' := ?_) #[true, false, false, false, false, false, false, false, false, false, false, false, false, false, false, false, false, false, false] rfl rfl (any_of HT_.out (by kernel_rfl)) (fun _ _ _ h => h) (Or.inl ⟨by rfl, ?_⟩) ?_ ?_
         rotate_left
         ·intro w'
          go_simp
          with_reducible rfl
         rotate_left
         ·simp only [Act.put, sT, sZ, sS, i64_w, i32_w]
          rfl
         refine pure_ (i := 1) (N := some 40) (v := ?_) (a' := ?_) #[true, true, false, false, false, false, false, false, false, false, false, false, false, false, false, false, false, false, false] rfl rfl (any_of HT_.out (by kernel_rfl)) (fun _ _ _ h => h) (Or.inl ⟨by rfl, ?_⟩) ?_ ?_
         rotate_left
         ·intro w'
          go_simp
          with_reducible rfl
         rotate_left
         ·simp only [Act.put, sT, sZ, sS, i64_w, i32_w]
          rfl
         refine pure_ (i := 5) (N := some 44) (v := ?_) (a' := ?_) #[true, true, false, false, false, true, false, false, false, false, false, false, false, false, false, false, false, false, false] rfl rfl (any_of HT_.out (by kernel_rfl)) (fun _ _ _ h => h) (Or.inl ⟨by rfl, ?_⟩) ?_ ?_
         rotate_left
         ·intro w'
          go_simp
          with_reducible rfl
         rotate_left
         ·simp only [Act.put, sT, sZ, sS, i64_w, i32_w]
          rfl
         refine pure_ (i := 6) (N := some 45) (v := ?_) (a' := ?_) #[true, true, false, false, false, true, true, false, false, false, false, false, false, false, false, false, false, false, false] rfl rfl (any_of HT_.out (by kernel_rfl)) (fun _ _ _ h => h) (Or.inl ⟨by rfl, ?_⟩) ?_ ?_
         rotate_left
         ·intro w'
          go_simp
          with_reducible rfl
         rotate_left
         ·simp only [Act.put, sT, sZ, sS, i64_w, i32_w]
          rfl
         refine take_ (i := 2) (N := some 41) (v := ?_) (a' := ?_) #[true, true, true, false, false, true, true, false, false, false, false, false, false, false, false, false, false, false, false] rfl rfl (take_ofW HT_.out HW_.out (by kernel_rfl)) (fun _ _ _ h => h) (Or.inl ⟨by rfl, ?_⟩) hHeld ?_ ?_
         rotate_left
         ·rintro w' ⟨s0, s1, s2, s3, s4, s5, s6, s7, s8, s9, s10⟩
          go_simp
          with_reducible rfl
         rotate_left
         ·simp only [Act.put, sT, sZ, sS, i64_w, i32_w]
          rfl
         refine take_ (i := 3) (N := some 42) (v := ?_) (a' := ?_) #[true, true, true, true, false, true, true, false, false, false, false, false, false, false, false, false, false, false, false] rfl rfl (take_ofW HT_.out HW_.out (by kernel_rfl)) (fun _ _ _ h => h) (Or.inl ⟨by rfl, ?_⟩) hHeld ?_ ?_
         rotate_left
         ·rintro w' ⟨s0, s1, s2, s3, s4, s5, s6, s7, s8, s9, s10⟩
          go_simp
          with_reducible rfl
         rotate_left
         ·simp only [Act.put, sT, sZ, sS, i64_w, i32_w]
          rfl
         refine take_ (i := 7) (N := some 46) (v := ?_) (a' := ?_) #[true, true, true, true, false, true, true, true, false, false, false, false, false, false, false, false, false, false, false] rfl rfl (take_ofW HT_.out HW_.out (by kernel_rfl)) (fun _ _ _ h => h) (Or.inl ⟨by rfl, ?_⟩) hHeld ?_ ?_
         rotate_left
         ·rintro w' ⟨s0, s1, s2, s3, s4, s5, s6, s7, s8, s9, s10⟩
          go_simp
          with_reducible rfl
         rotate_left
         ·simp only [Act.put, sT, sZ, sS, i64_w, i32_w]
          rfl
         refine take_ (i := 8) (N := some 47) (v := ?_) (a' := ?_) #[true, true, true, true, false, true, true, true, true, false, false, false, false, false, false, false, false, false, false] rfl rfl (take_ofW HT_.out HW_.out (by kernel_rfl)) (fun _ _ _ h => h) (Or.inl ⟨by rfl, ?_⟩) hHeld ?_ ?_
         rotate_left
         ·rintro w' ⟨s0, s1, s2, s3, s4, s5, s6, s7, s8, s9, s10⟩
          go_simp
          with_reducible rfl
         rotate_left
         ·simp only [Act.put, sT, sZ, sS, i64_w, i32_w]
          rfl
         refine one_ (i := 4) (N := some 43) #[true, true, true, true, true, true, true, true, true, false, false, false, false, false, false, false, false, false, false] rfl rfl (one_of HT_.out (by kernel_rfl)) (by decide) (fun K hK => ?_)
         refine goes_ Try.func18 (by kernel_rfl) rfl #[.slice Ao57 t278.length co57, .int .i64 a2_0, .agg #[.bool t266, .int .i64 t267, .bool t268, .int .i64 t269, .slice Ao22 t270.length co22]] (by rfl) rfl rfl (by (try simp only [List.map_toArray, List.map_cons, List.map_nil]); first | done | rfl | (simp only [List.length_drop, List.length_take]; rfl)) ?_
         with_reducible refine (route_Hops.calls kj9 _ _ t278 a2_0 t266 t267 t268 t269 (fun k_ => some k_ = (.slice Ao22 t270.length co22 : Value).ownBlock) _ _ t270 t281 _ ?side1 ?side2 ?side3 A41.out).mono ?_
         (case side1 => repeat (first | exact (Kd.R_reads' HO280.out).2.2 | (with_reducible refine Kd.C_alloc ?_ _) | (with_reducible refine Kd.C_drewN ?_ _) | (with_reducible refine Kd.C_drew ?_)))
         (case side2 => exact (Kd.R_reads' HO280.out).2.1)
         (case side3 => exact Kd.R_V (Kd.R_tight rfl (Kd.R_types (Kd.R_types (Kd.R_apart' (Kd.R_apart' (HO_274004.out) (Kd.R_typed HO_0.out) (by decide)) (Kd.R_typed HO280.out) (by decide)) BK254.out (by decide)) BK273.out (by decide))))
         rintro e w58 ⟨v282, rfl, ho0, hb⟩
         refine ⟨_, rfl, ?_⟩
         have n0_ := aM (Kd.R_below (by (with_reducible repeat (first | apply rA | apply rN | apply rW)); exact HO_0.out) hb)
         have n1_ := aM (Kd.R_below (by (with_reducible repeat (first | apply rA | apply rN | apply rW)); exact HO_274004.out) hb)
         have n2_ := aM (Kd.R_below (by (with_reducible repeat (first | apply rA | apply rN | apply rW)); exact HO280.out) hb)
         have n3_ := aM (Kd.N_lower (Kd.N_mono (ok' := fun k_ => some k_ ≠ (.slice Ao39 y263.length co39 : Value).ownBlock ∧ some k_ ≠ (.slice Ao57 t278.length co57 : Value).ownBlock ∧ k_ ≠ gb254 ∧ k_ ≠ gb273) ho0 (fun k_ hk_ => ⟨Or.elim hk_ (fun hs_ => ((Kd.R_types (Kd.R_types (Kd.R_apart' (Kd.R_apart' (HO_274004.out) (Kd.R_typed HO_0.out) (by decide)) (Kd.R_typed HO280.out) (by decide)) BK254.out (by decide)) BK273.out (by decide)).1 k_ hs_.symm).1.1.1.2) (fun hn_ => (Kd.fresh' (Kd.R_lt (by (with_reducible repeat (first | apply rA | apply rN | apply rW)); exact HO_0.out)) k_ hn_)), Or.elim hk_ (fun hs_ => ((Kd.R_types (Kd.R_types (Kd.R_apart' (Kd.R_apart' (HO_274004.out) (Kd.R_typed HO_0.out) (by decide)) (Kd.R_typed HO280.out) (by decide)) BK254.out (by decide)) BK273.out (by decide)).1 k_ hs_.symm).1.1.2) (fun hn_ => (Kd.fresh' (Kd.R_lt (by (with_reducible repeat (first | apply rA | apply rN | apply rW)); exact HO280.out)) k_ hn_)), Or.elim hk_ (fun hs_ => ((Kd.R_types (Kd.R_types (Kd.R_apart' (Kd.R_apart' (HO_274004.out) (Kd.R_typed HO_0.out) (by decide)) (Kd.R_typed HO280.out) (by decide)) BK254.out (by decide)) BK273.out (by decide)).1 k_ hs_.symm).1.2) (fun hn_ => (Kd.freshB (g := gb254) (o := .cells #[.int .i64 a2_0, .bool a2_1, .int .i64 a2_2, .bool a2_3, .int .i64 a2_4, .slice A2_5 l2_5.length c2_5] 27 (0, 0)) (by (with_reducible repeat (first | refine bN ?_ _ | refine bW ?_ | refine bA ?_ _)); exact BK254.out) k_ hn_)), Or.elim hk_ (fun hs_ => ((Kd.R_types (Kd.R_types (Kd.R_apart' (Kd.R_apart' (HO_274004.out) (Kd.R_typed HO_0.out) (by decide)) (Kd.R_typed HO280.out) (by decide)) BK254.out (by decide)) BK273.out (by decide)).1 k_ hs_.symm).2) (fun hn_ => (Kd.freshB (g := gb273) (o := .cells #[.bool t266, .int .i64 t267, .bool t268, .int .i64 t269, .slice Ao22 t270.length co22] 25 (0, 0)) (by (with_reducible repeat (first | refine bN ?_ _ | refine bW ?_ | refine bA ?_ _)); exact BK273.out) k_ hn_))⟩)) (lZ (by repeat (first | (with_reducible first | exact HB.out | apply lA | apply lN | apply lW | refine lS ?_ GE254.out | refine lS ?_ GE273.out) | exact HB.out))))
         have n4_ := aM (blk_below (g := gb254) (o := .cells #[.int .i64 a2_0, .bool a2_1, .int .i64 a2_2, .bool a2_3, .int .i64 a2_4, .slice A2_5 l2_5.length c2_5] 27 (0, 0)) (by (with_reducible repeat (first | refine bN ?_ _ | refine bW ?_ | refine bA ?_ _)); exact BK254.out) hb)
         have n5_ := aM (blk_below (g := gb273) (o := .cells #[.bool t266, .int .i64 t267, .bool t268, .int .i64 t269, .slice Ao22 t270.length co22] 25 (0, 0)) (by (with_reducible repeat (first | refine bN ?_ _ | refine bW ?_ | refine bA ?_ _)); exact BK273.out) hb)
         have n6_ := aM (lT (by repeat (first | (with_reducible first | exact HB.out | apply lA | apply lN | apply lW | refine lS ?_ GE254.out | refine lS ?_ GE273.out) | exact HB.out)) hb)
         clear HO_0
         clear HO_274004
         clear HO280
         clear BK254
         clear BK273
         clear HB
         have HO_0 := n0_
         have HO_274004 := n1_
         have HO280 := n2_
         have HO283 := n3_
         have BK254 := n4_
         have BK273 := n5_
         have HB := n6_
         clear n0_ n1_ n2_ n3_ n4_ n5_ n6_
         (try clear hb)
         (try clear hb2)
         (try clear hk)
         (try clear hi)
         (try clear ho0)
         refine hK.out _ _ ⟨(bC BK254.out 0).trans rfl, (bC BK254.out 1).trans rfl, (bC BK254.out 2).trans rfl, (bC BK254.out 3).trans rfl, (bC BK254.out 4).trans rfl, (bC BK254.out 5).trans rfl, (bC BK273.out 0).trans rfl, (bC BK273.out 1).trans rfl, (bC BK273.out 2).trans rfl, (bC BK273.out 3).trans rfl, (bC BK273.out 4).trans rfl⟩ (fun hHeld => ?_)
         clear hK K
         refine norm_ (a' := ?_) ?_ ?_
         rotate_left
         ·show Act.put _ (some 43) _ = _
          simp only [Act.put, sT, sZ, sS, i64_w, i32_w]
          rfl
         refine one_ (i := 9) (N := some 48) #[true, true, true, true, true, true, true, true, true, true, false, false, false, false, false, false, false, false, false] rfl rfl (one_of HT_.out (by kernel_rfl)) (by decide) (fun K hK => ?_)
         refine goes_ Try.func19 (by kernel_rfl) rfl #[.slice Ao57 t278.length co57, .int .i64 a2_0, .agg #[.bool t266, .int .i64 t267, .bool t268, .int .i64 t269, .slice Ao22 t270.length co22]] (by rfl) rfl rfl (by (try simp only [List.map_toArray, List.map_cons, List.map_nil]); first | done | rfl | (simp only [List.length_drop, List.length_take]; rfl)) ?_
         with_reducible refine (phaetonref12_Hops.calls kj9 _ _ t278 a2_0 t266 t267 t268 t269 (fun k_ => some k_ = (.slice Ao22 t270.length co22 : Value).ownBlock) _ _ t270 t284 _ ?side1 ?side2 ?side3 A42.out).mono ?_
         (case side1 => repeat (first | exact (Kd.R_reads' HO280.out).2.2 | (with_reducible refine Kd.C_alloc ?_ _) | (with_reducible refine Kd.C_drewN ?_ _) | (with_reducible refine Kd.C_drew ?_)))
         (case side2 => exact (Kd.R_reads' HO280.out).2.1)
         (case side3 => exact Kd.R_V (Kd.R_tight rfl (Kd.R_types (Kd.R_types (Kd.R_apart' (Kd.R_apart' (Kd.R_apart' (HO_274004.out) (Kd.R_typed HO_0.out) (by decide)) (Kd.R_typed HO280.out) (by decide)) (Kd.N_typed HO283.out) (by decide)) BK254.out (by decide)) BK273.out (by decide))))
         rintro e w59 ⟨v285, rfl, ho0, hb⟩
         refine ⟨_, rfl, ?_⟩
         have n0_ := aM (Kd.R_below (by (with_reducible repeat (first | apply rA | apply rN | apply rW)); exact HO_0.out) hb)
         have n1_ := aM (Kd.R_below (by (with_reducible repeat (first | apply rA | apply rN | apply rW)); exact HO_274004.out) hb)
         have n2_ := aM (Kd.R_below (by (with_reducible repeat (first | apply rA | apply rN | apply rW)); exact HO280.out) hb)
         have n3_ := aM (Kd.N_elder' (by (with_reducible repeat (first | apply Kd.N_alloc | apply Kd.N_drewN | apply Kd.N_drew)); exact HO283.out) (Kd.N_base ho0) hb)
         have n4_ := aM (Kd.N_lower (Kd.N_mono (ok' := fun k_ => some k_ ≠ (.slice Ao39 y263.length co39 : Value).ownBlock ∧ some k_ ≠ (.slice Ao57 t278.length co57 : Value).ownBlock ∧ some k_ ≠ (v282 : Value).ownBlock ∧ k_ ≠ gb254 ∧ k_ ≠ gb273) ho0 (fun k_ hk_ => ⟨Or.elim hk_ (fun hs_ => ((Kd.R_types (Kd.R_types (Kd.R_apart' (Kd.R_apart' (Kd.R_apart' (HO_274004.out) (Kd.R_typed HO_0.out) (by decide)) (Kd.R_typed HO280.out) (by decide)) (Kd.N_typed HO283.out) (by decide)) BK254.out (by decide)) BK273.out (by decide)).1 k_ hs_.symm).1.1.1.1.2) (fun hn_ => (Kd.fresh' (Kd.R_lt (by (with_reducible repeat (first | apply rA | apply rN | apply rW)); exact HO_0.out)) k_ hn_)), Or.elim hk_ (fun hs_ => ((Kd.R_types (Kd.R_types (Kd.R_apart' (Kd.R_apart' (Kd.R_apart' (HO_274004.out) (Kd.R_typed HO_0.out) (by decide)) (Kd.R_typed HO280.out) (by decide)) (Kd.N_typed HO283.out) (by decide)) BK254.out (by decide)) BK273.out (by decide)).1 k_ hs_.symm).1.1.1.2) (fun hn_ => (Kd.fresh' (Kd.R_lt (by (with_reducible repeat (first | apply rA | apply rN | apply rW)); exact HO280.out)) k_ hn_)), Or.elim hk_ (fun hs_ => ((Kd.R_types (Kd.R_types (Kd.R_apart' (Kd.R_apart' (Kd.R_apart' (HO_274004.out) (Kd.R_typed HO_0.out) (by decide)) (Kd.R_typed HO280.out) (by decide)) (Kd.N_typed HO283.out) (by decide)) BK254.out (by decide)) BK273.out (by decide)).1 k_ hs_.symm).1.1.2) (fun hn_ => (Kd.fresh' (Kd.N_lt (by (with_reducible repeat (first | apply Kd.N_alloc | apply Kd.N_drewN | apply Kd.N_drew)); exact HO283.out)) k_ hn_)), Or.elim hk_ (fun hs_ => ((Kd.R_types (Kd.R_types (Kd.R_apart' (Kd.R_apart' (Kd.R_apart' (HO_274004.out) (Kd.R_typed HO_0.out) (by decide)) (Kd.R_typed HO280.out) (by decide)) (Kd.N_typed HO283.out) (by decide)) BK254.out (by decide)) BK273.out (by decide)).1 k_ hs_.symm).1.2) (fun hn_ => (Kd.freshB (g := gb254) (o := .cells #[.int .i64 a2_0, .bool a2_1, .int .i64 a2_2, .bool a2_3, .int .i64 a2_4, .slice A2_5 l2_5.length c2_5] 27 (0, 0)) (by (with_reducible repeat (first | refine bN ?_ _ | refine bW ?_ | refine bA ?_ _)); exact BK254.out) k_ hn_)), Or.elim hk_ (fun hs_ => ((Kd.R_types (Kd.R_types (Kd.R_apart' (Kd.R_apart' (Kd.R_apart' (HO_274004.out) (Kd.R_typed HO_0.out) (by decide)) (Kd.R_typed HO280.out) (by decide)) (Kd.N_typed HO283.out) (by decide)) BK254.out (by decide)) BK273.out (by decide)).1 k_ hs_.symm).2) (fun hn_ => (Kd.freshB (g := gb273) (o := .cells #[.bool t266, .int .i64 t267, .bool t268, .int .i64 t269, .slice Ao22 t270.length co22] 25 (0, 0)) (by (with_reducible repeat (first | refine bN ?_ _ | refine bW ?_ | refine bA ?_ _)); exact BK273.out) k_ hn_))⟩)) (lZ (by repeat (first | (with_reducible first | exact HB.out | apply lA | apply lN | apply lW | refine lS ?_ GE254.out | refine lS ?_ GE273.out) | exact HB.out))))
         have n5_ := aM (blk_below (g := gb254) (o := .cells #[.int .i64 a2_0, .bool a2_1, .int .i64 a2_2, .bool a2_3, .int .i64 a2_4, .slice A2_5 l2_5.length c2_5] 27 (0, 0)) (by (with_reducible repeat (first | refine bN ?_ _ | refine bW ?_ | refine bA ?_ _)); exact BK254.out) hb)
         have n6_ := aM (blk_below (g := gb273) (o := .cells #[.bool t266, .int .i64 t267, .bool t268, .int .i64 t269, .slice Ao22 t270.length co22] 25 (0, 0)) (by (with_reducible repeat (first | refine bN ?_ _ | refine bW ?_ | refine bA ?_ _)); exact BK273.out) hb)
         have n7_ := aM (lT (by repeat (first | (with_reducible first | exact HB.out | apply lA | apply lN | apply lW | refine lS ?_ GE254.out | refine lS ?_ GE273.out) | exact HB.out)) hb)
         clear HO_0
         clear HO_274004
         clear HO280
         clear HO283
         clear BK254
         clear BK273
         clear HB
         have HO_0 := n0_
         have HO_274004 := n1_
         have HO280 := n2_
         have HO283 := n3_
         have HO286 := n4_
         have BK254 := n5_
         have BK273 := n6_
         have HB := n7_
         clear n0_ n1_ n2_ n3_ n4_ n5_ n6_ n7_
         (try clear hb)
         (try clear hb2)
         (try clear hk)
         (try clear hi)
         (try clear ho0)
         obtain ⟨Ao60, co60, eo60⟩ := Kd.N_slice HO283.out
         (first | subst eo60 | (injection eo60 with f1_ f2_ f3_; have f4_ := f1_.symm; have f5_ := f3_.symm; clear f1_ f2_ f3_; subst f4_; subst f5_))
         obtain ⟨Ao61, co61, eo61⟩ := Kd.N_slice HO286.out
         (first | subst eo61 | (injection eo61 with f1_ f2_ f3_; have f4_ := f1_.symm; have f5_ := f3_.symm; clear f1_ f2_ f3_; subst f4_; subst f5_))
         refine hK.out _ _ ⟨(bC BK254.out 0).trans rfl, (bC BK254.out 1).trans rfl, (bC BK254.out 2).trans rfl, (bC BK254.out 3).trans rfl, (bC BK254.out 4).trans rfl, (bC BK254.out 5).trans rfl, (bC BK273.out 0).trans rfl, (bC BK273.out 1).trans rfl, (bC BK273.out 2).trans rfl, (bC BK273.out 3).trans rfl, (bC BK273.out 4).trans rfl⟩ (fun hHeld => ?_)
         clear hK K
         refine norm_ (a' := ?_) ?_ ?_
         rotate_left
         ·show Act.put _ (some 48) _ = _
          simp only [Act.put, sT, sZ, sS, i64_w, i32_w]
          rfl
         refine one_ (i := 10) (N := some 49) #[true, true, true, true, true, true, true, true, true, true, true, false, false, false, false, false, false, false, false] rfl rfl (one_of HT_.out (by kernel_rfl)) (by decide) (fun K hK => ?_)
         refine goes_ Try.func17 (by kernel_rfl) rfl #[.slice Ao60 t281.length co60, .slice Ao61 t284.length co61] (by rfl) rfl rfl (by (try simp only [List.map_toArray, List.map_cons, List.map_nil]); first | done | rfl | (simp only [List.length_drop, List.length_take]; rfl)) ?_
         with_reducible refine (phaetonref12_Same.calls _ _ t281 _ _ t284 false _ ?side1 ?side2 ?side3 ?side4 A43.out).mono ?_
         (case side1 => repeat (first | exact (Kd.N_reads' HO283.out).2.2 | (with_reducible refine Kd.C_alloc ?_ _) | (with_reducible refine Kd.C_drewN ?_ _) | (with_reducible refine Kd.C_drew ?_)))
         (case side2 => exact (Kd.N_reads' HO283.out).2.1)
         (case side3 => repeat (first | exact (Kd.N_reads' HO286.out).2.2 | (with_reducible refine Kd.C_alloc ?_ _) | (with_reducible refine Kd.C_drewN ?_ _) | (with_reducible refine Kd.C_drew ?_)))
         (case side4 => exact (Kd.N_reads' HO286.out).2.1)
         rintro e w62 ⟨rfl, hb⟩
         refine ⟨_, rfl, ?_⟩
         have n0_ := aM (Kd.R_below (by (with_reducible repeat (first | apply rA | apply rN | apply rW)); exact HO_0.out) hb)
         have n1_ := aM (Kd.R_below (by (with_reducible repeat (first | apply rA | apply rN | apply rW)); exact HO_274004.out) hb)
         have n2_ := aM (Kd.R_below (by (with_reducible repeat (first | apply rA | apply rN | apply rW)); exact HO280.out) hb)
         have n3_ := aM (Kd.N_below (by (with_reducible repeat (first | apply Kd.N_alloc | apply Kd.N_drewN | apply Kd.N_drew)); exact HO283.out) hb)
         have n4_ := aM (Kd.N_below (by (with_reducible repeat (first | apply Kd.N_alloc | apply Kd.N_drewN | apply Kd.N_drew)); exact HO286.out) hb)
         have n5_ := aM (blk_below (g := gb254) (o := .cells #[.int .i64 a2_0, .bool a2_1, .int .i64 a2_2, .bool a2_3, .int .i64 a2_4, .slice A2_5 l2_5.length c2_5] 27 (0, 0)) (by (with_reducible repeat (first | refine bN ?_ _ | refine bW ?_ | refine bA ?_ _)); exact BK254.out) hb)
         have n6_ := aM (blk_below (g := gb273) (o := .cells #[.bool t266, .int .i64 t267, .bool t268, .int .i64 t269, .slice Ao22 t270.length co22] 25 (0, 0)) (by (with_reducible repeat (first | refine bN ?_ _ | refine bW ?_ | refine bA ?_ _)); exact BK273.out) hb)
         have n7_ := aM (lT (by repeat (first | (with_reducible first | exact HB.out | apply lA | apply lN | apply lW | refine lS ?_ GE254.out | refine lS ?_ GE273.out) | exact HB.out)) hb)
         clear HO_0
         clear HO_274004
         clear HO280
         clear HO283
         clear HO286
         clear BK254
         clear BK273
         clear HB
         have HO_0 := n0_
         have HO_274004 := n1_
         have HO280 := n2_
         have HO283 := n3_
         have HO286 := n4_
         have BK254 := n5_
         have BK273 := n6_
         have HB := n7_
         clear n0_ n1_ n2_ n3_ n4_ n5_ n6_ n7_
         (try clear hb)
         (try clear hb2)
         (try clear hk)
         (try clear hi)
         refine hK.out _ _ ⟨(bC BK254.out 0).trans rfl, (bC BK254.out 1).trans rfl, (bC BK254.out 2).trans rfl, (bC BK254.out 3).trans rfl, (bC BK254.out 4).trans rfl, (bC BK254.out 5).trans rfl, (bC BK273.out 0).trans rfl, (bC BK273.out 1).trans rfl, (bC BK273.out 2).trans rfl, (bC BK273.out 3).trans rfl, (bC BK273.out 4).trans rfl⟩ (fun hHeld => ?_)
         clear hK K
         refine norm_ (a' := ?_) ?_ ?_
         rotate_left
         ·show Act.put _ (some 49) _ = _
          simp only [Act.put, sT, sZ, sS, i64_w, i32_w]
          rfl
         refine pure_ (i := 11) (N := some 50) (v := ?_) (a' := ?_) #[true, true, true, true, true, true, true, true, true, true, true, true, false, false, false, false, false, false, false] rfl rfl (any_of HT_.out (by kernel_rfl)) (fun _ _ _ h => h) (Or.inl ⟨by rfl, ?_⟩) ?_ ?_
         rotate_left
         ·intro w'
          go_simp
          with_reducible rfl
         rotate_left
         ·simp only [Act.put, sT, sZ, sS, i64_w, i32_w]
          rfl
         refine pure_ (i := 12) (N := some 51) (v := ?_) (a' := ?_) #[true, true, true, true, true, true, true, true, true, true, true, true, true, false, false, false, false, false, false] rfl rfl (any_of HT_.out (by kernel_rfl)) (fun _ _ _ h => h) (Or.inl ⟨by rfl, ?_⟩) ?_ ?_
         rotate_left
         ·intro w'
          go_simp
          with_reducible rfl
         rotate_left
         ·simp only [Act.put, sT, sZ, sS, i64_w, i32_w]
          rfl
         refine pure_ (i := 13) (N := some 52) (v := undef) (a' := ?_) #[true, true, true, true, true, true, true, true, true, true, true, true, true, true, false, false, false, false, false] rfl rfl (any_of HT_.out (by kernel_rfl)) (fun _ _ _ h => h) (Or.inr ⟨by rfl, rfl⟩) ?_ ?_
         rotate_left
         ·simp only [Act.put, sT, sZ, sS, i64_w, i32_w]
          rfl
         refine pure_ (i := 14) (N := some 53) (v := undef) (a' := ?_) #[true, true, true, true, true, true, true, true, true, true, true, true, true, true, true, false, false, false, false] rfl rfl (any_of HT_.out (by kernel_rfl)) (fun _ _ _ h => h) (Or.inr ⟨by rfl, rfl⟩) ?_ ?_
         rotate_left
         ·simp only [Act.put, sT, sZ, sS, i64_w, i32_w]
          rfl
         refine pure_ (i := 15) (N := some 54) (v := undef) (a' := ?_) #[true, true, true, true, true, true, true, true, true, true, true, true, true, true, true, true, false, false, false] rfl rfl (any_of HT_.out (by kernel_rfl)) (fun _ _ _ h => h) (Or.inr ⟨by rfl, rfl⟩) ?_ ?_
         rotate_left
         ·simp only [Act.put, sT, sZ, sS, i64_w, i32_w]
          rfl
         refine pure_ (i := 16) (N := some 55) (v := undef) (a' := ?_) #[true, true, true, true, true, true, true, true, true, true, true, true, true, true, true, true, true, false, false] rfl rfl (any_of HT_.out (by kernel_rfl)) (fun _ _ _ h => h) (Or.inr ⟨by rfl, rfl⟩) ?_ ?_
         rotate_left
         ·simp only [Act.put, sT, sZ, sS, i64_w, i32_w]
          rfl
         refine pure_ (i := 17) (N := some 56) (v := undef) (a' := ?_) #[true, true, true, true, true, true, true, true, true, true, true, true, true, true, true, true, true, true, false] rfl rfl (any_of HT_.out (by kernel_rfl)) (fun _ _ _ h => h) (Or.inr ⟨by rfl, rfl⟩) ?_ ?_
         rotate_left
         ·simp only [Act.put, sT, sZ, sS, i64_w, i32_w]
          rfl
         refine pure_ (i := 18) (N := some 57) (v := ?_) (a' := ?_) #[true, true, true, true, true, true, true, true, true, true, true, true, true, true, true, true, true, true, true] rfl rfl (any_of HT_.out (by kernel_rfl)) (fun _ _ _ h => h) (Or.inl ⟨by rfl, ?_⟩) ?_ ?_
         rotate_left
         ·intro w'
          go_simp
          with_reducible rfl
         rotate_left
         ·simp only [Act.put, sT, sZ, sS, i64_w, i32_w]
          rfl
         refine done_ (done_of HT_.out (by kernel_rfl)) ?_
         try go_wp2
         go_meet
         case rel => exact ⟨_, (true), (by first | rfl | (simp; done) | (simp [*]; done)), H', ⟨by have := HJ9.out; first | omega | exact Nat.le_refl _⟩, ⟨by (with_reducible repeat (first | apply rA | apply rN | apply rW)); exact Kd.R_mono HO280.out (fun _ hk => trivial)⟩, ⟨by (with_reducible repeat (first | apply rA | apply rN | apply rW)); exact HO_274004.out⟩, ⟨by (with_reducible repeat (first | refine bN ?_ _ | refine bW ?_ | refine bA ?_ _)); exact BK254.out⟩, ⟨by (with_reducible repeat (first | refine bN ?_ _ | refine bW ?_ | refine bA ?_ _)); exact BK273.out⟩, ⟨by repeat (first | (with_reducible first | exact HB.out | apply lA | apply lN | apply lW | refine lS ?_ GE254.out | refine lS ?_ GE273.out) | exact HB.out)⟩⟩
       case rest =>
        clear HC38
        try clear c1
        try clear c2
        try clear p2
        try clear c4
        try clear c14
        try clear c15
        try clear c17
        try clear c18
        try clear c19
        try clear c44
        obtain ⟨kq, x57_37, rfl, HA, HJ37, HO_9, HO_274004, BK254, BK273, HB⟩ := hcut
        cases kq with
        | zero => exact absurd HA.out (by simp [phaetonlaw12_RouteTells.j1])
        | succ kj37 =>
         have H := HA.out
         clear HA
         simp only [phaetonlaw12_RouteTells.j1] at H
         by_cases c63 : x57_37 = true
         ·subst c63
          have H1 : (none) = some r := by rw [if_pos rfl] at H; exact H
          clear H
          have H := H1
          clear H1
          exact absurd H (by simp)
         ·replace c63 := Bool.eq_false_iff.mpr c63
          subst c63
          have H1 : ((route_Reach.f kj37 t278 4 a2_0 t266 t267 t268 t269 t270).bind fun t290 => ((phaetonref12_Reach.f kj37 t278 4 a2_0 t266 t267 t268 t269 t270).bind fun t293 => ((phaetonref12_Same.f t290 t293).bind fun t296 => (if t296 = true then (some t255) else (none))))) = some r := by rw [if_neg (show ¬ (false = true) by decide)] at H; exact H
          clear H
          have H := H1
          clear H1
          replace H := Option.bind_eq_some_iff.mp H
          obtain ⟨t290, A640, H⟩ := H
          replace H : ((phaetonref12_Reach.f kj37 t278 4 a2_0 t266 t267 t268 t269 t270).bind fun t293 => ((phaetonref12_Same.f t290 t293).bind fun t296 => (if t296 = true then (some t255) else (none)))) = some r := H
          have A64 := aM A640
          clear A640
          replace H := Option.bind_eq_some_iff.mp H
          obtain ⟨t293, A650, H⟩ := H
          replace H : ((phaetonref12_Same.f t290 t293).bind fun t296 => (if t296 = true then (some t255) else (none))) = some r := H
          have A65 := aM A650
          clear A650
          replace H := Option.bind_eq_some_iff.mp H
          obtain ⟨t296, A660, H⟩ := H
          replace H : (if t296 = true then (some t255) else (none)) = some r := H
          have A66 := aM A660
          clear A660
          by_cases c67 : t296 = true
          ·subst c67
           have H1 : (some t255) = some r := by rw [if_pos rfl] at H; exact H
           clear H
           have H := H1
           clear H1
           obtain rfl := Option.some.inj H
           try go_wp2
           have n0_ := aM (rW HO_9.out)
           have n1_ := aM (rW HO_274004.out)
           have n2_ := aM (bW BK254.out)
           have n3_ := aM (bW BK273.out)
           have n4_ := aM (lW HB.out)
           clear HO_9
           clear HO_274004
           clear BK254
           clear BK273
           clear HB
           have HO_9 := n0_
           have HO_274004 := n1_
           have BK254 := n2_
           have BK273 := n3_
           have HB := n4_
           clear n0_ n1_ n2_ n3_ n4_
           obtain ⟨Ao69, co69, eo69⟩ := Kd.R_slice HO_9.out
           (first | subst eo69 | (injection eo69 with f1_ f2_ f3_; have f4_ := f1_.symm; have f5_ := f3_.symm; clear f1_ f2_ f3_; subst f4_; subst f5_))
           refine start_ (n := 15) (S := fun w' => w'.cell? ⟨gb254, 0, none⟩ = some (.int .i64 a2_0) ∧ w'.cell? ⟨gb254, 1, none⟩ = some (.bool a2_1) ∧ w'.cell? ⟨gb254, 2, none⟩ = some (.int .i64 a2_2) ∧ w'.cell? ⟨gb254, 3, none⟩ = some (.bool a2_3) ∧ w'.cell? ⟨gb254, 4, none⟩ = some (.int .i64 a2_4) ∧ w'.cell? ⟨gb254, 5, none⟩ = some (.slice A2_5 l2_5.length c2_5) ∧ w'.cell? ⟨gb273, 0, none⟩ = some (.bool t266) ∧ w'.cell? ⟨gb273, 1, none⟩ = some (.int .i64 t267) ∧ w'.cell? ⟨gb273, 2, none⟩ = some (.bool t268) ∧ w'.cell? ⟨gb273, 3, none⟩ = some (.int .i64 t269) ∧ w'.cell? ⟨gb273, 4, none⟩ = some (.slice Ao22 t270.length co22)) (ds := []) #[false, false, false, false, false, false, false, false, false, false, false, false, false, false, false] (by kernel_rfl) rfl rfl ⟨(bC BK254.out 0).trans rfl, (bC BK254.out 1).trans rfl, (bC BK254.out 2).trans rfl, (bC BK254.out 3).trans rfl, (bC BK254.out 4).trans rfl, (bC BK254.out 5).trans rfl, (bC BK273.out 0).trans rfl, (bC BK273.out 1).trans rfl, (bC BK273.out 2).trans rfl, (bC BK273.out 3).trans rfl, (bC BK273.out 4).trans rfl⟩ (fun hHeld => ?_); refine with_tabW phaetonlaw12_RouteTells.tab9 phaetonlaw12_RouteTells.bits9 (fun HT_ HW_ => ?_)
           generalize wc.drew = w68 at HO_9 HO_274004 BK254 BK273 HB hHeld ⊢
           refine pure_ (i := 0) (N := some 58) (v := ?_) (a' := ?_) #[true, false, false, false, false, false, false, false, false, false, false, false, false, false, false] rfl rfl (any_of HT_.out (by kernel_rfl)) (fun _ _ _ h => h) (Or.inl ⟨by rfl, ?_⟩) ?_ ?_
           rotate_left
           ·intro w'
            go_simp
            with_reducible rfl
           rotate_left
           ·simp only [Act.put, sT, sZ, sS, i64_w, i32_w]
            rfl
           refine pure_ (i := 1) (N := some 59) (v := ?_) (a' := ?_) #[true, true, false, false, false, false, false, false, false, false, false, false, false, false, false] rfl rfl (any_of HT_.out (by kernel_rfl)) (fun _ _ _ h => h) (Or.inl ⟨by rfl, ?_⟩) ?_ ?_
           rotate_left
           ·intro w'
            go_simp
            with_reducible rfl
           rotate_left
           ·simp only [Act.put, sT, sZ, sS, i64_w, i32_w]
            rfl
           refine pure_ (i := 5) (N := some 63) (v := ?_) (a' := ?_) #[true, true, false, false, false, true, false, false, false, false, false, false, false, false, false] rfl rfl (any_of HT_.out (by kernel_rfl)) (fun _ _ _ h => h) (Or.inl ⟨by rfl, ?_⟩) ?_ ?_
           rotate_left
           ·intro w'
            go_simp
            with_reducible rfl
           rotate_left
           ·simp only [Act.put, sT, sZ, sS, i64_w, i32_w]
            rfl
           refine pure_ (i := 6) (N := some 64) (v := ?_) (a' := ?_) #[true, true, false, false, false, true, true, false, false, false, false, false, false, false, false] rfl rfl (any_of HT_.out (by kernel_rfl)) (fun _ _ _ h => h) (Or.inl ⟨by rfl, ?_⟩) ?_ ?_
           rotate_left
           ·intro w'
            go_simp
            with_reducible rfl
           rotate_left
           ·simp only [Act.put, sT, sZ, sS, i64_w, i32_w]
            rfl
           refine take_ (i := 2) (N := some 60) (v := ?_) (a' := ?_) #[true, true, true, false, false, true, true, false, false, false, false, false, false, false, false] rfl rfl (take_ofW HT_.out HW_.out (by kernel_rfl)) (fun _ _ _ h => h) (Or.inl ⟨by rfl, ?_⟩) hHeld ?_ ?_
           rotate_left
           ·rintro w' ⟨s0, s1, s2, s3, s4, s5, s6, s7, s8, s9, s10⟩
            go_simp
            with_reducible rfl
           rotate_left
           ·simp only [Act.put, sT, sZ, sS, i64_w, i32_w]
            rfl
           refine take_ (i := 3) (N := some 61) (v := ?_) (a' := ?_) #[true, true, true, true, false, true, true, false, false, false, false, false, false, false, false] rfl rfl (take_ofW HT_.out HW_.out (by kernel_rfl)) (fun _ _ _ h => h) (Or.inl ⟨by rfl, ?_⟩) hHeld ?_ ?_
           rotate_left
           ·rintro w' ⟨s0, s1, s2, s3, s4, s5, s6, s7, s8, s9, s10⟩
            go_simp
            with_reducible rfl
           rotate_left
           ·simp only [Act.put, sT, sZ, sS, i64_w, i32_w]
            rfl
           refine take_ (i := 7) (N := some 65) (v := ?_) (a' := ?_) #[true, true, true, true, false, true, true, true, false, false, false, false, false, false, false] rfl rfl (take_ofW HT_.out HW_.out (by kernel_rfl)) (fun _ _ _ h => h) (Or.inl ⟨by rfl, ?_⟩) hHeld ?_ ?_
           rotate_left
           ·rintro w' ⟨s0, s1, s2, s3, s4, s5, s6, s7, s8, s9, s10⟩
            go_simp
            with_reducible rfl
           rotate_left
           ·simp only [Act.put, sT, sZ, sS, i64_w, i32_w]
            rfl
           refine take_ (i := 8) (N := some 66) (v := ?_) (a' := ?_) #[true, true, true, true, false, true, true, true, true, false, false, false, false, false, false] rfl rfl (take_ofW HT_.out HW_.out (by kernel_rfl)) (fun _ _ _ h => h) (Or.inl ⟨by rfl, ?_⟩) hHeld ?_ ?_
           rotate_left
           ·rintro w' ⟨s0, s1, s2, s3, s4, s5, s6, s7, s8, s9, s10⟩
            go_simp
            with_reducible rfl
           rotate_left
           ·simp only [Act.put, sT, sZ, sS, i64_w, i32_w]
            rfl
           refine one_ (i := 4) (N := some 62) #[true, true, true, true, true, true, true, true, true, false, false, false, false, false, false] rfl rfl (one_of HT_.out (by kernel_rfl)) (by decide) (fun K hK => ?_)
           refine goes_ Try.func20 (by kernel_rfl) rfl #[.slice Ao69 t278.length co69, .int .i64 4, .int .i64 a2_0, .agg #[.bool t266, .int .i64 t267, .bool t268, .int .i64 t269, .slice Ao22 t270.length co22]] (by rfl) rfl rfl (by (try simp only [List.map_toArray, List.map_cons, List.map_nil]); first | done | rfl | (simp only [List.length_drop, List.length_take]; rfl)) ?_
           with_reducible refine (route_Reach.calls kj37 _ _ t278 4 a2_0 t266 t267 t268 t269 (fun k_ => some k_ = (.slice Ao22 t270.length co22 : Value).ownBlock) _ _ t270 t290 _ ?side1 ?side2 ?side3 A64.out).mono ?_
           (case side1 => repeat (first | exact (Kd.R_reads' HO_9.out).2.2 | (with_reducible refine Kd.C_alloc ?_ _) | (with_reducible refine Kd.C_drewN ?_ _) | (with_reducible refine Kd.C_drew ?_)))
           (case side2 => exact (Kd.R_reads' HO_9.out).2.1)
           (case side3 => exact Kd.R_V (Kd.R_tight rfl (Kd.R_types (Kd.R_types (Kd.R_apart' (HO_274004.out) (Kd.R_typed HO_9.out) (by decide)) BK254.out (by decide)) BK273.out (by decide))))
           rintro e w70 ⟨v291, rfl, ho0, hb⟩
           refine ⟨_, rfl, ?_⟩
           have n0_ := aM (Kd.R_below (by (with_reducible repeat (first | apply rA | apply rN | apply rW)); exact HO_9.out) hb)
           have n1_ := aM (Kd.R_below (by (with_reducible repeat (first | apply rA | apply rN | apply rW)); exact HO_274004.out) hb)
           have n2_ := aM (Kd.N_lower (Kd.N_mono (ok' := fun k_ => some k_ ≠ (.slice Ao69 t278.length co69 : Value).ownBlock ∧ k_ ≠ gb254 ∧ k_ ≠ gb273) ho0 (fun k_ hk_ => ⟨Or.elim hk_ (fun hs_ => ((Kd.R_types (Kd.R_types (Kd.R_apart' (HO_274004.out) (Kd.R_typed HO_9.out) (by decide)) BK254.out (by decide)) BK273.out (by decide)).1 k_ hs_.symm).1.1.2) (fun hn_ => (Kd.fresh' (Kd.R_lt (by (with_reducible repeat (first | apply rA | apply rN | apply rW)); exact HO_9.out)) k_ hn_)), Or.elim hk_ (fun hs_ => ((Kd.R_types (Kd.R_types (Kd.R_apart' (HO_274004.out) (Kd.R_typed HO_9.out) (by decide)) BK254.out (by decide)) BK273.out (by decide)).1 k_ hs_.symm).1.2) (fun hn_ => (Kd.freshB (g := gb254) (o := .cells #[.int .i64 a2_0, .bool a2_1, .int .i64 a2_2, .bool a2_3, .int .i64 a2_4, .slice A2_5 l2_5.length c2_5] 27 (0, 0)) (by (with_reducible repeat (first | refine bN ?_ _ | refine bW ?_ | refine bA ?_ _)); exact BK254.out) k_ hn_)), Or.elim hk_ (fun hs_ => ((Kd.R_types (Kd.R_types (Kd.R_apart' (HO_274004.out) (Kd.R_typed HO_9.out) (by decide)) BK254.out (by decide)) BK273.out (by decide)).1 k_ hs_.symm).2) (fun hn_ => (Kd.freshB (g := gb273) (o := .cells #[.bool t266, .int .i64 t267, .bool t268, .int .i64 t269, .slice Ao22 t270.length co22] 25 (0, 0)) (by (with_reducible repeat (first | refine bN ?_ _ | refine bW ?_ | refine bA ?_ _)); exact BK273.out) k_ hn_))⟩)) (lZ (by repeat (first | (with_reducible first | exact HB.out | apply lA | apply lN | apply lW | refine lS ?_ GE254.out | refine lS ?_ GE273.out) | exact HB.out))))
           have n3_ := aM (blk_below (g := gb254) (o := .cells #[.int .i64 a2_0, .bool a2_1, .int .i64 a2_2, .bool a2_3, .int .i64 a2_4, .slice A2_5 l2_5.length c2_5] 27 (0, 0)) (by (with_reducible repeat (first | refine bN ?_ _ | refine bW ?_ | refine bA ?_ _)); exact BK254.out) hb)
           have n4_ := aM (blk_below (g := gb273) (o := .cells #[.bool t266, .int .i64 t267, .bool t268, .int .i64 t269, .slice Ao22 t270.length co22] 25 (0, 0)) (by (with_reducible repeat (first | refine bN ?_ _ | refine bW ?_ | refine bA ?_ _)); exact BK273.out) hb)
           have n5_ := aM (lT (by repeat (first | (with_reducible first | exact HB.out | apply lA | apply lN | apply lW | refine lS ?_ GE254.out | refine lS ?_ GE273.out) | exact HB.out)) hb)
           clear HO_9
           clear HO_274004
           clear BK254
           clear BK273
           clear HB
           have HO_9 := n0_
           have HO_274004 := n1_
           have HO292 := n2_
           have BK254 := n3_
           have BK273 := n4_
           have HB := n5_
           clear n0_ n1_ n2_ n3_ n4_ n5_
           (try clear hb)
           (try clear hb2)
           (try clear hk)
           (try clear hi)
           (try clear ho0)
           refine hK.out _ _ ⟨(bC BK254.out 0).trans rfl, (bC BK254.out 1).trans rfl, (bC BK254.out 2).trans rfl, (bC BK254.out 3).trans rfl, (bC BK254.out 4).trans rfl, (bC BK254.out 5).trans rfl, (bC BK273.out 0).trans rfl, (bC BK273.out 1).trans rfl, (bC BK273.out 2).trans rfl, (bC BK273.out 3).trans rfl, (bC BK273.out 4).trans rfl⟩ (fun hHeld => ?_)
           clear hK K
           refine norm_ (a' := ?_) ?_ ?_
           rotate_left
           ·show Act.put _ (some 62) _ = _
            simp only [Act.put, sT, sZ, sS, i64_w, i32_w]
            rfl
           refine one_ (i := 9) (N := some 67) #[true, true, true, true, true, true, true, true, true, true, false, false, false, false, false] rfl rfl (one_of HT_.out (by kernel_rfl)) (by decide) (fun K hK => ?_)
           refine goes_ Try.func21 (by kernel_rfl) rfl #[.slice Ao69 t278.length co69, .int .i64 4, .int .i64 a2_0, .agg #[.bool t266, .int .i64 t267, .bool t268, .int .i64 t269, .slice Ao22 t270.length co22]] (by rfl) rfl rfl (by (try simp only [List.map_toArray, List.map_cons, List.map_nil]); first | done | rfl | (simp only [List.length_drop, List.length_take]; rfl)) ?_
           with_reducible refine (phaetonref12_Reach.calls kj37 _ _ t278 4 a2_0 t266 t267 t268 t269 (fun k_ => some k_ = (.slice Ao22 t270.length co22 : Value).ownBlock) _ _ t270 t293 _ ?side1 ?side2 ?side3 A65.out).mono ?_
           (case side1 => repeat (first | exact (Kd.R_reads' HO_9.out).2.2 | (with_reducible refine Kd.C_alloc ?_ _) | (with_reducible refine Kd.C_drewN ?_ _) | (with_reducible refine Kd.C_drew ?_)))
           (case side2 => exact (Kd.R_reads' HO_9.out).2.1)
           (case side3 => exact Kd.R_V (Kd.R_tight rfl (Kd.R_types (Kd.R_types (Kd.R_apart' (Kd.R_apart' (HO_274004.out) (Kd.R_typed HO_9.out) (by decide)) (Kd.N_typed HO292.out) (by decide)) BK254.out (by decide)) BK273.out (by decide))))
           rintro e w71 ⟨v294, rfl, ho0, hb⟩
           refine ⟨_, rfl, ?_⟩
           have n0_ := aM (Kd.R_below (by (with_reducible repeat (first | apply rA | apply rN | apply rW)); exact HO_9.out) hb)
           have n1_ := aM (Kd.R_below (by (with_reducible repeat (first | apply rA | apply rN | apply rW)); exact HO_274004.out) hb)
           have n2_ := aM (Kd.N_elder' (by (with_reducible repeat (first | apply Kd.N_alloc | apply Kd.N_drewN | apply Kd.N_drew)); exact HO292.out) (Kd.N_base ho0) hb)
           have n3_ := aM (Kd.N_lower (Kd.N_mono (ok' := fun k_ => some k_ ≠ (.slice Ao69 t278.length co69 : Value).ownBlock ∧ some k_ ≠ (v291 : Value).ownBlock ∧ k_ ≠ gb254 ∧ k_ ≠ gb273) ho0 (fun k_ hk_ => ⟨Or.elim hk_ (fun hs_ => ((Kd.R_types (Kd.R_types (Kd.R_apart' (Kd.R_apart' (HO_274004.out) (Kd.R_typed HO_9.out) (by decide)) (Kd.N_typed HO292.out) (by decide)) BK254.out (by decide)) BK273.out (by decide)).1 k_ hs_.symm).1.1.1.2) (fun hn_ => (Kd.fresh' (Kd.R_lt (by (with_reducible repeat (first | apply rA | apply rN | apply rW)); exact HO_9.out)) k_ hn_)), Or.elim hk_ (fun hs_ => ((Kd.R_types (Kd.R_types (Kd.R_apart' (Kd.R_apart' (HO_274004.out) (Kd.R_typed HO_9.out) (by decide)) (Kd.N_typed HO292.out) (by decide)) BK254.out (by decide)) BK273.out (by decide)).1 k_ hs_.symm).1.1.2) (fun hn_ => (Kd.fresh' (Kd.N_lt (by (with_reducible repeat (first | apply Kd.N_alloc | apply Kd.N_drewN | apply Kd.N_drew)); exact HO292.out)) k_ hn_)), Or.elim hk_ (fun hs_ => ((Kd.R_types (Kd.R_types (Kd.R_apart' (Kd.R_apart' (HO_274004.out) (Kd.R_typed HO_9.out) (by decide)) (Kd.N_typed HO292.out) (by decide)) BK254.out (by decide)) BK273.out (by decide)).1 k_ hs_.symm).1.2) (fun hn_ => (Kd.freshB (g := gb254) (o := .cells #[.int .i64 a2_0, .bool a2_1, .int .i64 a2_2, .bool a2_3, .int .i64 a2_4, .slice A2_5 l2_5.length c2_5] 27 (0, 0)) (by (with_reducible repeat (first | refine bN ?_ _ | refine bW ?_ | refine bA ?_ _)); exact BK254.out) k_ hn_)), Or.elim hk_ (fun hs_ => ((Kd.R_types (Kd.R_types (Kd.R_apart' (Kd.R_apart' (HO_274004.out) (Kd.R_typed HO_9.out) (by decide)) (Kd.N_typed HO292.out) (by decide)) BK254.out (by decide)) BK273.out (by decide)).1 k_ hs_.symm).2) (fun hn_ => (Kd.freshB (g := gb273) (o := .cells #[.bool t266, .int .i64 t267, .bool t268, .int .i64 t269, .slice Ao22 t270.length co22] 25 (0, 0)) (by (with_reducible repeat (first | refine bN ?_ _ | refine bW ?_ | refine bA ?_ _)); exact BK273.out) k_ hn_))⟩)) (lZ (by repeat (first | (with_reducible first | exact HB.out | apply lA | apply lN | apply lW | refine lS ?_ GE254.out | refine lS ?_ GE273.out) | exact HB.out))))
           have n4_ := aM (blk_below (g := gb254) (o := .cells #[.int .i64 a2_0, .bool a2_1, .int .i64 a2_2, .bool a2_3, .int .i64 a2_4, .slice A2_5 l2_5.length c2_5] 27 (0, 0)) (by (with_reducible repeat (first | refine bN ?_ _ | refine bW ?_ | refine bA ?_ _)); exact BK254.out) hb)
           have n5_ := aM (blk_below (g := gb273) (o := .cells #[.bool t266, .int .i64 t267, .bool t268, .int .i64 t269, .slice Ao22 t270.length co22] 25 (0, 0)) (by (with_reducible repeat (first | refine bN ?_ _ | refine bW ?_ | refine bA ?_ _)); exact BK273.out) hb)
           have n6_ := aM (lT (by repeat (first | (with_reducible first | exact HB.out | apply lA | apply lN | apply lW | refine lS ?_ GE254.out | refine lS ?_ GE273.out) | exact HB.out)) hb)
           clear HO_9
           clear HO_274004
           clear HO292
           clear BK254
           clear BK273
           clear HB
           have HO_9 := n0_
           have HO_274004 := n1_
           have HO292 := n2_
           have HO295 := n3_
           have BK254 := n4_
           have BK273 := n5_
           have HB := n6_
           clear n0_ n1_ n2_ n3_ n4_ n5_ n6_
           (try clear hb)
           (try clear hb2)
           (try clear hk)
           (try clear hi)
           (try clear ho0)
           obtain ⟨Ao72, co72, eo72⟩ := Kd.N_slice HO292.out
           (first | subst eo72 | (injection eo72 with f1_ f2_ f3_; have f4_ := f1_.symm; have f5_ := f3_.symm; clear f1_ f2_ f3_; subst f4_; subst f5_))
           obtain ⟨Ao73, co73, eo73⟩ := Kd.N_slice HO295.out
           (first | subst eo73 | (injection eo73 with f1_ f2_ f3_; have f4_ := f1_.symm; have f5_ := f3_.symm; clear f1_ f2_ f3_; subst f4_; subst f5_))
           refine hK.out _ _ ⟨(bC BK254.out 0).trans rfl, (bC BK254.out 1).trans rfl, (bC BK254.out 2).trans rfl, (bC BK254.out 3).trans rfl, (bC BK254.out 4).trans rfl, (bC BK254.out 5).trans rfl, (bC BK273.out 0).trans rfl, (bC BK273.out 1).trans rfl, (bC BK273.out 2).trans rfl, (bC BK273.out 3).trans rfl, (bC BK273.out 4).trans rfl⟩ (fun hHeld => ?_)
           clear hK K
           refine norm_ (a' := ?_) ?_ ?_
           rotate_left
           ·show Act.put _ (some 67) _ = _
            simp only [Act.put, sT, sZ, sS, i64_w, i32_w]
            rfl
           refine one_ (i := 10) (N := some 68) #[true, true, true, true, true, true, true, true, true, true, true, false, false, false, false] rfl rfl (one_of HT_.out (by kernel_rfl)) (by decide) (fun K hK => ?_)
           refine goes_ Try.func17 (by kernel_rfl) rfl #[.slice Ao72 t290.length co72, .slice Ao73 t293.length co73] (by rfl) rfl rfl (by (try simp only [List.map_toArray, List.map_cons, List.map_nil]); first | done | rfl | (simp only [List.length_drop, List.length_take]; rfl)) ?_
           with_reducible refine (phaetonref12_Same.calls _ _ t290 _ _ t293 true _ ?side1 ?side2 ?side3 ?side4 A66.out).mono ?_
           (case side1 => repeat (first | exact (Kd.N_reads' HO292.out).2.2 | (with_reducible refine Kd.C_alloc ?_ _) | (with_reducible refine Kd.C_drewN ?_ _) | (with_reducible refine Kd.C_drew ?_)))
           (case side2 => exact (Kd.N_reads' HO292.out).2.1)
           (case side3 => repeat (first | exact (Kd.N_reads' HO295.out).2.2 | (with_reducible refine Kd.C_alloc ?_ _) | (with_reducible refine Kd.C_drewN ?_ _) | (with_reducible refine Kd.C_drew ?_)))
           (case side4 => exact (Kd.N_reads' HO295.out).2.1)
           rintro e w74 ⟨rfl, hb⟩
           refine ⟨_, rfl, ?_⟩
           have n0_ := aM (Kd.R_below (by (with_reducible repeat (first | apply rA | apply rN | apply rW)); exact HO_9.out) hb)
           have n1_ := aM (Kd.R_below (by (with_reducible repeat (first | apply rA | apply rN | apply rW)); exact HO_274004.out) hb)
           have n2_ := aM (Kd.N_below (by (with_reducible repeat (first | apply Kd.N_alloc | apply Kd.N_drewN | apply Kd.N_drew)); exact HO292.out) hb)
           have n3_ := aM (Kd.N_below (by (with_reducible repeat (first | apply Kd.N_alloc | apply Kd.N_drewN | apply Kd.N_drew)); exact HO295.out) hb)
           have n4_ := aM (blk_below (g := gb254) (o := .cells #[.int .i64 a2_0, .bool a2_1, .int .i64 a2_2, .bool a2_3, .int .i64 a2_4, .slice A2_5 l2_5.length c2_5] 27 (0, 0)) (by (with_reducible repeat (first | refine bN ?_ _ | refine bW ?_ | refine bA ?_ _)); exact BK254.out) hb)
           have n5_ := aM (blk_below (g := gb273) (o := .cells #[.bool t266, .int .i64 t267, .bool t268, .int .i64 t269, .slice Ao22 t270.length co22] 25 (0, 0)) (by (with_reducible repeat (first | refine bN ?_ _ | refine bW ?_ | refine bA ?_ _)); exact BK273.out) hb)
           have n6_ := aM (lT (by repeat (first | (with_reducible first | exact HB.out | apply lA | apply lN | apply lW | refine lS ?_ GE254.out | refine lS ?_ GE273.out) | exact HB.out)) hb)
           clear HO_9
           clear HO_274004
           clear HO292
           clear HO295
           clear BK254
           clear BK273
           clear HB
           have HO_9 := n0_
           have HO_274004 := n1_
           have HO292 := n2_
           have HO295 := n3_
           have BK254 := n4_
           have BK273 := n5_
           have HB := n6_
           clear n0_ n1_ n2_ n3_ n4_ n5_ n6_
           (try clear hb)
           (try clear hb2)
           (try clear hk)
           (try clear hi)
           refine hK.out _ _ ⟨(bC BK254.out 0).trans rfl, (bC BK254.out 1).trans rfl, (bC BK254.out 2).trans rfl, (bC BK254.out 3).trans rfl, (bC BK254.out 4).trans rfl, (bC BK254.out 5).trans rfl, (bC BK273.out 0).trans rfl, (bC BK273.out 1).trans rfl, (bC BK273.out 2).trans rfl, (bC BK273.out 3).trans rfl, (bC BK273.out 4).trans rfl⟩ (fun hHeld => ?_)
           clear hK K
           refine norm_ (a' := ?_) ?_ ?_
           rotate_left
           ·show Act.put _ (some 68) _ = _
            simp only [Act.put, sT, sZ, sS, i64_w, i32_w]
            rfl
           refine pure_ (i := 11) (N := some 69) (v := ?_) (a' := ?_) #[true, true, true, true, true, true, true, true, true, true, true, true, false, false, false] rfl rfl (any_of HT_.out (by kernel_rfl)) (fun _ _ _ h => h) (Or.inl ⟨by rfl, ?_⟩) ?_ ?_
           rotate_left
           ·intro w'
            go_simp
            with_reducible rfl
           rotate_left
           ·simp only [Act.put, sT, sZ, sS, i64_w, i32_w]
            rfl
           refine pure_ (i := 12) (N := some 70) (v := ?_) (a' := ?_) #[true, true, true, true, true, true, true, true, true, true, true, true, true, false, false] rfl rfl (any_of HT_.out (by kernel_rfl)) (fun _ _ _ h => h) (Or.inl ⟨by rfl, ?_⟩) ?_ ?_
           rotate_left
           ·intro w'
            go_simp
            with_reducible rfl
           rotate_left
           ·simp only [Act.put, sT, sZ, sS, i64_w, i32_w]
            rfl
           refine pure_ (i := 13) (N := some 71) (v := ?_) (a' := ?_) #[true, true, true, true, true, true, true, true, true, true, true, true, true, true, false] rfl rfl (any_of HT_.out (by kernel_rfl)) (fun _ _ _ h => h) (Or.inl ⟨by rfl, ?_⟩) ?_ ?_
           rotate_left
           ·intro w'
            go_simp
            with_reducible rfl
           rotate_left
           ·simp only [Act.put, sT, sZ, sS, i64_w, i32_w]
            rfl
           refine pure_ (i := 14) (N := some 6) (v := ?_) (a' := ?_) #[true, true, true, true, true, true, true, true, true, true, true, true, true, true, true] rfl rfl (any_of HT_.out (by kernel_rfl)) (fun _ _ _ h => h) (Or.inl ⟨by rfl, ?_⟩) ?_ ?_
           rotate_left
           ·intro w'
            go_simp
            with_reducible rfl
           rotate_left
           ·simp only [Act.put, sT, sZ, sS, i64_w, i32_w]
            rfl
           refine done_ (done_of HT_.out (by kernel_rfl)) ?_
           try go_wp2
           go_ret
           exact ⟨by first | rfl | (simp [errW_none, errW_some] <;> rfl) | (simp only [← hji5]; first | rfl | (simp [errW_none, errW_some] <;> rfl)) | (simp [*, errW_none, errW_some] <;> rfl), by repeat (first | (with_reducible first | exact HB.out | apply lA | apply lN | apply lW | refine lS ?_ GE254.out | refine lS ?_ GE273.out) | exact HB.out)⟩
          ·replace c67 := Bool.eq_false_iff.mpr c67
           subst c67
           have H1 : (none) = some r := by rw [if_neg (show ¬ (false = true) by decide)] at H; exact H
           clear H
           have H := H1
           clear H1
           exact absurd H (by simp)
   ·rw [if_neg c8] at H
    exact absurd H (by simp)
  ·rw [if_neg c7] at H
   exact absurd H (by simp)
 ·rw [if_neg c6] at H
  exact absurd H (by simp)

end Go.Proofs.Ytpcabeefahldlaa.P

/- Go functions that the laws of this seat reach, each as a Lean function, and a proof that a call of the Go code comes to its answers; written by a program (the kit's print, turned in a few places). Conditions: each theorem's own premises. -/
import Derived.Test.YtpcabeefahldlaaPx0
import Derived.Test.YtpcabeefahldlaaPx11
import Derived.Test.YtpcabeefahldlaaPx12
import Derived.Test.YtpcabeefahldlaaPx13
namespace Go.Proofs.Ytpcabeefahldlaa.P
open Go.RowKit Go.Proofs.YtpcabeefahldlaaW.PrintWords Go.Proofs.YtpcabeefahldlaaW.PrintLast Go.Proofs.YtpcabeefahldlaaW.PrintMore
attribute [local go_sem] max2_int min2_int max_two min_two max_three min_three max_four min_four   -- for this text's walks alone
set_option linter.unusedVariables false
set_option linter.unusedSimpArgs false

/-! ### phaetonref12_Loopless: function 15 -/
mutual
def phaetonref12_Loopless.l0 : Nat → List (S45) → Int → Int → Option (Bool)
 | 0, _, _, _ => none
 | k + 1, x0, x1, x5 => if x5 < x1 then (phaetonref12_Loopless.l1 k x0 x1 x5 (([x5] : List Int)) 0) else (some true)
def phaetonref12_Loopless.l1 : Nat → List (S45) → Int → Int → List Int → Int → Option (Bool)
 | 0, _, _, _, _, _ => none
 | k + 1, x0, x1, x5, x6, x7 => if x7 < x1 then ((phaetonref12_On.f k x0 x6).bind fun t198 => ((phaetonref12_In.f k t198 x5).bind fun t201 => (if t201 = true then (some false) else (phaetonref12_Loopless.l1 k x0 x1 x5 t198 (wrap64 (x7 + 1)))))) else (phaetonref12_Loopless.l0 k x0 x1 (wrap64 (x5 + 1)))
end
def phaetonref12_Loopless.f (k : Nat) (l0 : List (S45)) (a1 : Int) : Option (Bool) := (phaetonref12_Right.f k l0 a1).bind fun t194 => (if t194 = true then (phaetonref12_Loopless.l0 k l0 a1 0) else (some false))
set_option maxHeartbeats 8000000 in
set_option maxRecDepth 100000 in
theorem phaetonref12_Loopless.calls (k : Nat) (A0 : Option Addr) (c0 : Nat) (l0 : List (S45)) (a1 : Int) (r : Bool) (w : World) (hr0 : Kd.C k45 w A0 l0.length l0) (hc0 : l0.length ≤ c0) (h : phaetonref12_Loopless.f k l0 a1 = some r) :
  Calls Try.prog 15 #[.slice A0 l0.length c0, .int .i64 a1] w fun e w' => e = .returned (.bool r) ∧ Below w.heap.size w w' := by
 have HR0 := aM hr0
 have HC0 := aM hc0
 clear hr0 hc0
 have HB := aM (Below.refl w.heap.size w)
 have H : ((phaetonref12_Right.f k l0 a1).bind fun t194 => (if t194 = true then (phaetonref12_Loopless.l0 k l0 a1 0) else (some false))) = some r := h
 clear h
 replace H := Option.bind_eq_some_iff.mp H
 obtain ⟨t194, A30, H⟩ := H
 replace H : (if t194 = true then (phaetonref12_Loopless.l0 k l0 a1 0) else (some false)) = some r := H
 have A3 := aM A30
 clear A30
 by_cases c4 : t194 = true
 ·subst c4
  have H1 : (phaetonref12_Loopless.l0 k l0 a1 0) = some r := by rw [if_pos rfl] at H; exact H
  clear H
  have H := H1
  clear H1
  have H' := aM H
  clear H
  go_enter Try.func15, Try.ntmps15
  go_wp2_with (first | ((with_reducible refine gate_callee (f := 13) rfl ?_); refine goesL_ (some 10) rfl rfl Try.func13 (by kernel_rfl) rfl #[.slice A0 l0.length c0, .int .i64 a1] rfl (by (try simp only [List.map_toArray, List.map_cons, List.map_nil]); first | done | rfl | (simp only [List.length_drop, List.length_take]; rfl)) ?_; (with_reducible refine (phaetonref12_Right.calls k _ _ l0 a1 true _ ?side1 ?side2 A3.out).mono ?_); (case side1 => repeat (first | exact HR0.out | (with_reducible refine Kd.C_alloc ?_ _) | (with_reducible refine Kd.C_drewN ?_ _) | (with_reducible refine Kd.C_drew ?_))); (case side2 => exact HC0.out); rintro e w5 ⟨rfl, hb⟩; refine ⟨_, rfl, ?_⟩; have n0_ := aM (lT (by repeat (first | (with_reducible first | exact HB.out | apply lA | apply lN | apply lW) | exact HB.out)) hb); clear HB; have HB := n0_; clear n0_; (try clear hb); (try clear hb2); (try clear hk); (try clear hi)))
  go_loopg [5] k (fun kq v5 w' => ∃ (x5_1 : Int), v5 = .int .i64 x5_1 ∧ Aside0 (phaetonref12_Loopless.l0 kq l0 a1 x5_1 = some r) ∧ Aside0 (kq ≤ k) ∧ Aside0 (Below w.heap.size w w'))
  case atStart => exact ⟨(0), (by first | rfl | (simp; done) | (simp [*]; done)), H', ⟨Nat.le_refl _⟩, ⟨by repeat (first | (with_reducible first | exact HB.out | apply lA | apply lN | apply lW) | exact HB.out)⟩⟩
  case round =>
   clear H'
   try clear c1
   try clear p2
   try clear c4
   obtain ⟨x5_1, rfl, HA, HK1, HB⟩ := hrel
   cases gk with
   | zero => exact absurd HA.out (by simp [phaetonref12_Loopless.l0])
   | succ k1 =>
    have H := HA.out
    clear HA
    simp only [phaetonref12_Loopless.l0] at H
    by_cases c6 : x5_1 < a1
    ·rw [if_pos c6] at H
     have c6b0 : decide (x5_1 < a1) = true := decide_eq_true c6
     clear c6
     obtain ⟨y195, hy195⟩ : ∃ y_ : List Int, y_ = (([x5_1] : List Int)) := ⟨_, rfl⟩
     replace H : (phaetonref12_Loopless.l1 k1 l0 a1 x5_1 y195 0) = some r := by first | (rw [hy195]; with_reducible exact H) | (have H2_ := (Option.bind_some _ _).symm.trans H; rw [hy195]; with_reducible exact H2_) | (have H2_ := (Option.bind_some _ _).symm.trans H; with_reducible exact H2_) | with_reducible exact H | (rw [hy195]; exact H) | exact H
     have Ny195 := aM hy195
     clear hy195
     have H' := aM H
     clear H
     go_wp2_with (first | ((with_reducible refine gate_dst (N := 18) rfl ?_); refine Kd.R_lit (Kd.int .i64) _ 3 ?hg (N := 18) ?hd (xs := ([x5_1] : List Int)) (inner := [.int .i64 x5_1]) (ok := fun _ => True) (okp := fun _ => True) ?hr ?hp (fun _ hk => hk) trivial (Below.refl _ _) (Nat.le_refl _) (by simp) ?_; (case hd => rfl); (case hg => rfl); (case hr => first | (go_simp; done) | (go_simp; rfl)); (case hp => exact (Reps.one (show Kd.M (Kd.int .i64) _ _ _ x5_1 [.int .i64 x5_1] from rfl) (Reps.none _ _))); intro v196 w7 ho8 hb hg_ hnew_; clear hg_ hnew_; (first | rw [← Ny195.out] at ho8 | (simp only [Int.reduceToNat] at ho8; rw [← Ny195.out] at ho8)); have n0_ := aM (Kd.R_lower ho8 (lZ (by repeat (first | (with_reducible first | exact HB.out | apply lA | apply lN | apply lW) | exact HB.out)))); have n1_ := aM (lT (by repeat (first | (with_reducible first | exact HB.out | apply lA | apply lN | apply lW) | exact HB.out)) hb); clear HB; have HO197 := n0_; have HB := n1_; clear n0_ n1_; clear hb ho8))
     go_loopg [6, 7] k1 (fun kq v6 v7 w' => ∃ (x6_2 : List Int) (x7_2 : Int), v7 = .int .i64 x7_2 ∧ Aside0 (phaetonref12_Loopless.l1 kq l0 a1 x5_1 x6_2 x7_2 = some r) ∧ Aside0 (kq ≤ k1) ∧ Aside0 (Kd.R (Kd.int .i64) 3 w' w.heap.size (fun _ => True) v6 x6_2) ∧ Aside0 (Below w.heap.size w w'))
     case atStart => exact ⟨(y195), (0), (by first | rfl | (simp; done) | (simp [*]; done)), H', ⟨Nat.le_refl _⟩, ⟨by (with_reducible repeat (first | apply rA | apply rN | apply rW)); exact HO197.out⟩, ⟨by repeat (first | (with_reducible first | exact HB.out | apply lA | apply lN | apply lW) | exact HB.out)⟩⟩
     case round =>
      clear H'
      try clear c1
      try clear p2
      try clear c4
      try clear c6
      try clear c6b0
      try clear p2
      obtain ⟨x6_2, x7_2, rfl, HA, HK2, HO_6, HB⟩ := hrel
      cases gk with
      | zero => exact absurd HA.out (by simp [phaetonref12_Loopless.l1])
      | succ k2 =>
       have H := HA.out
       clear HA
       simp only [phaetonref12_Loopless.l1] at H
       by_cases c9 : x7_2 < a1
       ·rw [if_pos c9] at H
        have c9b0 : decide (x7_2 < a1) = true := decide_eq_true c9
        clear c9
        replace H := Option.bind_eq_some_iff.mp H
        obtain ⟨t198, A100, H⟩ := H
        replace H : ((phaetonref12_In.f k2 t198 x5_1).bind fun t201 => (if t201 = true then (some false) else (phaetonref12_Loopless.l1 k2 l0 a1 x5_1 t198 (wrap64 (x7_2 + 1))))) = some r := H
        have A10 := aM A100
        clear A100
        replace H := Option.bind_eq_some_iff.mp H
        obtain ⟨t201, A110, H⟩ := H
        replace H : (if t201 = true then (some false) else (phaetonref12_Loopless.l1 k2 l0 a1 x5_1 t198 (wrap64 (x7_2 + 1)))) = some r := H
        have A11 := aM A110
        clear A110
        by_cases c12 : t201 = true
        ·subst c12
         have H1 : (some false) = some r := by rw [if_pos rfl] at H; exact H
         clear H
         have H := H1
         clear H1
         obtain rfl := Option.some.inj H
         obtain ⟨Ao13, co13, eo13⟩ := Kd.R_slice HO_6.out
         subst eo13
         go_wp2_with (first | ((with_reducible refine gate_callee (f := 27) rfl ?_); refine goesL_ (some 26) rfl rfl Try.func27 (by kernel_rfl) rfl #[.slice A0 l0.length c0, .slice Ao13 x6_2.length co13] rfl (by (try simp only [List.map_toArray, List.map_cons, List.map_nil]); first | done | rfl | (simp only [List.length_drop, List.length_take]; rfl)) ?_; (with_reducible refine (phaetonref12_On.calls k2 _ _ l0 _ _ x6_2 t198 _ ?side1 ?side2 ?side3 ?side4 A10.out).mono ?_); (case side1 => repeat (first | exact (Kd.C_below HR0.out HB.out) | (with_reducible refine Kd.C_alloc ?_ _) | (with_reducible refine Kd.C_drewN ?_ _) | (with_reducible refine Kd.C_drew ?_))); (case side2 => exact HC0.out); (case side3 => repeat (first | exact (Kd.R_reads' HO_6.out).2.2 | (with_reducible refine Kd.C_alloc ?_ _) | (with_reducible refine Kd.C_drewN ?_ _) | (with_reducible refine Kd.C_drew ?_))); (case side4 => exact (Kd.R_reads' HO_6.out).2.1); rintro e w14 ⟨v199, rfl, ho0, hb⟩; refine ⟨_, rfl, ?_⟩; have n0_ := aM (Kd.R_elder' (by (with_reducible repeat (first | apply rA | apply rN | apply rW)); exact HO_6.out) (Kd.R_base ho0) hb); have n1_ := aM (Kd.R_lower (Kd.R_new' ho0 (Kd.R_lt (by (with_reducible repeat (first | apply rA | apply rN | apply rW)); exact HO_6.out))) (lZ (by repeat (first | (with_reducible first | exact HB.out | apply lA | apply lN | apply lW) | exact HB.out)))); have n2_ := aM (lT (by repeat (first | (with_reducible first | exact HB.out | apply lA | apply lN | apply lW) | exact HB.out)) hb); clear HO_6; clear HB; have HO_6 := n0_; have HO200 := n1_; have HB := n2_; clear n0_ n1_ n2_; (try clear hb); (try clear hb2); (try clear hk); (try clear hi); (try clear ho0); obtain ⟨Ao15, co15, eo15⟩ := Kd.R_slice HO200.out; subst eo15) | ((with_reducible refine gate_callee (f := 28) rfl ?_); refine goesL_ (some 29) rfl rfl Try.func28 (by kernel_rfl) rfl #[.slice Ao15 t198.length co15, .int .i64 x5_1] rfl (by (try simp only [List.map_toArray, List.map_cons, List.map_nil]); first | done | rfl | (simp only [List.length_drop, List.length_take]; rfl)) ?_; (with_reducible refine (phaetonref12_In.calls k2 _ _ t198 x5_1 true _ ?side1 ?side2 A11.out).mono ?_); (case side1 => repeat (first | exact (Kd.R_reads' HO200.out).2.2 | (with_reducible refine Kd.C_alloc ?_ _) | (with_reducible refine Kd.C_drewN ?_ _) | (with_reducible refine Kd.C_drew ?_))); (case side2 => exact (Kd.R_reads' HO200.out).2.1); rintro e w' ⟨rfl, ⟨nd, rfl⟩⟩; refine ⟨_, rfl, ?_⟩))
         go_ret
         exact ⟨by first | rfl | (simp [errW_none, errW_some] <;> rfl) | (simp [*, errW_none, errW_some] <;> rfl), by repeat (first | (with_reducible first | exact HB.out | apply lA | apply lN | apply lW) | exact HB.out)⟩
        ·replace c12 := Bool.eq_false_iff.mpr c12
         subst c12
         have H1 : (phaetonref12_Loopless.l1 k2 l0 a1 x5_1 t198 (wrap64 (x7_2 + 1))) = some r := by rw [if_neg (show ¬ (false = true) by decide)] at H; exact H
         clear H
         have H := H1
         clear H1
         have H' := aM H
         clear H
         obtain ⟨Ao16, co16, eo16⟩ := Kd.R_slice HO_6.out
         subst eo16
         go_wp2_with (first | ((with_reducible refine gate_callee (f := 27) rfl ?_); refine goesL_ (some 26) rfl rfl Try.func27 (by kernel_rfl) rfl #[.slice A0 l0.length c0, .slice Ao16 x6_2.length co16] rfl (by (try simp only [List.map_toArray, List.map_cons, List.map_nil]); first | done | rfl | (simp only [List.length_drop, List.length_take]; rfl)) ?_; (with_reducible refine (phaetonref12_On.calls k2 _ _ l0 _ _ x6_2 t198 _ ?side1 ?side2 ?side3 ?side4 A10.out).mono ?_); (case side1 => repeat (first | exact (Kd.C_below HR0.out HB.out) | (with_reducible refine Kd.C_alloc ?_ _) | (with_reducible refine Kd.C_drewN ?_ _) | (with_reducible refine Kd.C_drew ?_))); (case side2 => exact HC0.out); (case side3 => repeat (first | exact (Kd.R_reads' HO_6.out).2.2 | (with_reducible refine Kd.C_alloc ?_ _) | (with_reducible refine Kd.C_drewN ?_ _) | (with_reducible refine Kd.C_drew ?_))); (case side4 => exact (Kd.R_reads' HO_6.out).2.1); rintro e w17 ⟨v199, rfl, ho0, hb⟩; refine ⟨_, rfl, ?_⟩; have n0_ := aM (Kd.R_elder' (by (with_reducible repeat (first | apply rA | apply rN | apply rW)); exact HO_6.out) (Kd.R_base ho0) hb); have n1_ := aM (Kd.R_lower (Kd.R_new' ho0 (Kd.R_lt (by (with_reducible repeat (first | apply rA | apply rN | apply rW)); exact HO_6.out))) (lZ (by repeat (first | (with_reducible first | exact HB.out | apply lA | apply lN | apply lW) | exact HB.out)))); have n2_ := aM (lT (by repeat (first | (with_reducible first | exact HB.out | apply lA | apply lN | apply lW) | exact HB.out)) hb); clear HO_6; clear HB; have HO_6 := n0_; have HO200 := n1_; have HB := n2_; clear n0_ n1_ n2_; (try clear hb); (try clear hb2); (try clear hk); (try clear hi); (try clear ho0); obtain ⟨Ao18, co18, eo18⟩ := Kd.R_slice HO200.out; subst eo18) | ((with_reducible refine gate_callee (f := 28) rfl ?_); refine goesL_ (some 29) rfl rfl Try.func28 (by kernel_rfl) rfl #[.slice Ao18 t198.length co18, .int .i64 x5_1] rfl (by (try simp only [List.map_toArray, List.map_cons, List.map_nil]); first | done | rfl | (simp only [List.length_drop, List.length_take]; rfl)) ?_; (with_reducible refine (phaetonref12_In.calls k2 _ _ t198 x5_1 false _ ?side1 ?side2 A11.out).mono ?_); (case side1 => repeat (first | exact (Kd.R_reads' HO200.out).2.2 | (with_reducible refine Kd.C_alloc ?_ _) | (with_reducible refine Kd.C_drewN ?_ _) | (with_reducible refine Kd.C_drew ?_))); (case side2 => exact (Kd.R_reads' HO200.out).2.1); rintro e w' ⟨rfl, ⟨nd, rfl⟩⟩; refine ⟨_, rfl, ?_⟩))
         go_roundg k2
         case measure => have := HK1.out; have := HK2.out; omega
         case rel => exact ⟨(t198), (wrap64 (x7_2 + 1)), (by first | rfl | (simp; done) | (simp [*]; done)), H', ⟨by have := HK1.out; have := HK2.out; omega⟩, ⟨by (with_reducible repeat (first | apply rA | apply rN | apply rW)); exact Kd.R_mono HO200.out (fun _ hk => trivial)⟩, ⟨by repeat (first | (with_reducible first | exact HB.out | apply lA | apply lN | apply lW) | exact HB.out)⟩⟩
       ·rw [if_neg c9] at H
        have c9b0 : decide (x7_2 < a1) = false := decide_eq_false c9
        clear c9
        have H' := aM H
        clear H
        go_wp2
        go_roundg k2
        case measure => have := HK1.out; have := HK2.out; omega
        case rel => exact ⟨(wrap64 (x5_1 + 1)), (by first | rfl | (simp; done) | (simp [*]; done)), H', ⟨by have := HK1.out; have := HK2.out; omega⟩, ⟨by repeat (first | (with_reducible first | exact HB.out | apply lA | apply lN | apply lW) | exact HB.out)⟩⟩
    ·rw [if_neg c6] at H
     have c6b0 : decide (x5_1 < a1) = false := decide_eq_false c6
     clear c6
     obtain rfl := Option.some.inj H
     go_wp2
     go_ret
     exact ⟨by first | rfl | (simp [errW_none, errW_some] <;> rfl) | (simp [*, errW_none, errW_some] <;> rfl), by repeat (first | (with_reducible first | exact HB.out | apply lA | apply lN | apply lW) | exact HB.out)⟩
 ·replace c4 := Bool.eq_false_iff.mpr c4
  subst c4
  have H1 : (some false) = some r := by rw [if_neg (show ¬ (false = true) by decide)] at H; exact H
  clear H
  have H := H1
  clear H1
  obtain rfl := Option.some.inj H
  go_enter Try.func15, Try.ntmps15
  go_wp2_with (first | ((with_reducible refine gate_callee (f := 13) rfl ?_); refine goesL_ (some 10) rfl rfl Try.func13 (by kernel_rfl) rfl #[.slice A0 l0.length c0, .int .i64 a1] rfl (by (try simp only [List.map_toArray, List.map_cons, List.map_nil]); first | done | rfl | (simp only [List.length_drop, List.length_take]; rfl)) ?_; (with_reducible refine (phaetonref12_Right.calls k _ _ l0 a1 false _ ?side1 ?side2 A3.out).mono ?_); (case side1 => repeat (first | exact HR0.out | (with_reducible refine Kd.C_alloc ?_ _) | (with_reducible refine Kd.C_drewN ?_ _) | (with_reducible refine Kd.C_drew ?_))); (case side2 => exact HC0.out); rintro e w19 ⟨rfl, hb⟩; refine ⟨_, rfl, ?_⟩; have n0_ := aM (lT (by repeat (first | (with_reducible first | exact HB.out | apply lA | apply lN | apply lW) | exact HB.out)) hb); clear HB; have HB := n0_; clear n0_; (try clear hb); (try clear hb2); (try clear hk); (try clear hi)))
  go_ret
  exact ⟨by first | rfl | (simp [errW_none, errW_some] <;> rfl) | (simp [*, errW_none, errW_some] <;> rfl), by repeat (first | (with_reducible first | exact HB.out | apply lA | apply lN | apply lW) | exact HB.out)⟩

end Go.Proofs.Ytpcabeefahldlaa.P

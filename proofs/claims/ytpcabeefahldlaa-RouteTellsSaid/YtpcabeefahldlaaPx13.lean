/- Go functions that the laws of this seat reach, each as a Lean function, and a proof that a call of the Go code comes to its answers; written by a program (the kit's print, turned in a few places). Conditions: each theorem's own premises. -/
import Derived.Test.YtpcabeefahldlaaPx0
import Derived.Test.YtpcabeefahldlaaPx12
namespace Go.Proofs.Ytpcabeefahldlaa.P
open Go.RowKit Go.Proofs.YtpcabeefahldlaaW.PrintWords Go.Proofs.YtpcabeefahldlaaW.PrintLast Go.Proofs.YtpcabeefahldlaaW.PrintMore
attribute [local go_sem] max2_int min2_int max_two min_two max_three min_three max_four min_four   -- for this text's walks alone
set_option linter.unusedVariables false
set_option linter.unusedSimpArgs false

/-! ### phaetonref12_On: function 27 -/
mutual
def phaetonref12_On.l0 : Nat → List (S45) → List Int → List Int → Int → Option (List Int)
 | 0, _, _, _, _ => none
 | k + 1, x0, x1, x5, x6 => if x6 < 4 then (phaetonref12_On.l1 k x0 x1 x5 x6 false 0) else (some x5)
def phaetonref12_On.l1 : Nat → List (S45) → List Int → List Int → Int → Bool → Int → Option (List Int)
 | 0, _, _, _, _, _, _ => none
 | k + 1, x0, x1, x5, x6, x7, x8 => if x8 < (x0.length : Int) then (if x7 = true then (phaetonref12_On.l1 k x0 x1 x5 x6 true (wrap64 (x8 + 1))) else (if 0 ≤ x8 then (if ((rd_T45 x0 x8).f1) = x6 then ((phaetonref12_In.f k x1 ((rd_T45 x0 x8).f0)).bind fun t190 => (phaetonref12_On.l1 k x0 x1 x5 x6 t190 (wrap64 (x8 + 1)))) else (phaetonref12_On.l1 k x0 x1 x5 x6 false (wrap64 (x8 + 1)))) else (none))) else (if x7 = true then (if x5.length < 17592186044416 then (phaetonref12_On.l0 k x0 x1 (x5 ++ [x6]) (wrap64 (x6 + 1))) else (none)) else (phaetonref12_On.l0 k x0 x1 x5 (wrap64 (x6 + 1))))
end
def phaetonref12_On.f (k : Nat) (l0 : List (S45)) (l1 : List Int) : Option (List Int) := phaetonref12_On.l0 k l0 l1 (([] : List Int)) 0
set_option maxHeartbeats 8000000 in
set_option maxRecDepth 100000 in
theorem phaetonref12_On.calls (k : Nat) (A0 : Option Addr) (c0 : Nat) (l0 : List (S45)) (A1 : Option Addr) (c1 : Nat) (l1 : List Int) (r : List Int) (w : World) (hr0 : Kd.C k45 w A0 l0.length l0) (hc0 : l0.length ≤ c0) (hr1 : Kd.C (Kd.int .i64) w A1 l1.length l1) (hc1 : l1.length ≤ c1) (h : phaetonref12_On.f k l0 l1 = some r) :
  Calls Try.prog 27 #[.slice A0 l0.length c0, .slice A1 l1.length c1] w fun e w' => ∃ v0_ : Value, e = .returned (v0_) ∧ Kd.R (Kd.int .i64) 3 w' w.heap.size (fun _ => True) v0_ r ∧ Below w.heap.size w w' := by
 have HR0 := aM hr0
 have HC0 := aM hc0
 clear hr0 hc0
 have HR1 := aM hr1
 have HC1 := aM hc1
 clear hr1 hc1
 have HB := aM (Below.refl w.heap.size w)
 have H : (phaetonref12_On.l0 k l0 l1 (([] : List Int)) 0) = some r := h
 clear h
 obtain ⟨y185, hy185⟩ : ∃ y_ : List Int, y_ = (([] : List Int)) := ⟨_, rfl⟩
 replace H : (phaetonref12_On.l0 k l0 l1 y185 0) = some r := by first | (rw [hy185]; with_reducible exact H) | (have H2_ := (Option.bind_some _ _).symm.trans H; rw [hy185]; with_reducible exact H2_) | (have H2_ := (Option.bind_some _ _).symm.trans H; with_reducible exact H2_) | with_reducible exact H | (rw [hy185]; exact H) | exact H
 have Ny185 := aM hy185
 clear hy185
 have H' := aM H
 clear H
 go_enter Try.func27, Try.ntmps27
 go_wp2_with (first | ((with_reducible refine gate_dst (N := 9) rfl ?_); refine Kd.R_lit (Kd.int .i64) _ 3 ?hg (N := 9) ?hd (xs := ([] : List Int)) (inner := []) (ok := fun _ => True) (okp := fun _ => True) ?hr ?hp (fun _ hk => hk) trivial (Below.refl _ _) (Nat.le_refl _) (by simp) ?_; (case hd => rfl); (case hg => rfl); (case hr => first | (go_simp; done) | (go_simp; rfl)); (case hp => exact (Reps.none _ _)); intro v186 w3 ho4 hb hg_ hnew_; clear hg_ hnew_; (first | rw [← Ny185.out] at ho4 | (simp only [Int.reduceToNat] at ho4; rw [← Ny185.out] at ho4)); have n0_ := aM (Kd.R_lower ho4 (lZ (by repeat (first | (with_reducible first | exact HB.out | apply lA | apply lN | apply lW) | exact HB.out)))); have n1_ := aM (lT (by repeat (first | (with_reducible first | exact HB.out | apply lA | apply lN | apply lW) | exact HB.out)) hb); clear HB; have HO187 := n0_; have HB := n1_; clear n0_ n1_; clear hb ho4))
 go_loopg [5, 6] k (fun kq v5 v6 w' => ∃ (x5_1 : List Int) (x6_1 : Int), v6 = .int .i64 x6_1 ∧ Aside0 (phaetonref12_On.l0 kq l0 l1 x5_1 x6_1 = some r) ∧ Aside0 (kq ≤ k) ∧ Aside0 (Kd.R (Kd.int .i64) 3 w' w.heap.size (fun _ => True) v5 x5_1) ∧ Aside0 (Below w.heap.size w w'))
 case atStart => exact ⟨(y185), (0), (by first | rfl | (simp; done) | (simp [*]; done)), H', ⟨Nat.le_refl _⟩, ⟨by (with_reducible repeat (first | apply rA | apply rN | apply rW)); exact HO187.out⟩, ⟨by repeat (first | (with_reducible first | exact HB.out | apply lA | apply lN | apply lW) | exact HB.out)⟩⟩
 case round =>
  clear H'
  try clear c1
  try clear c2
  try clear p2
  obtain ⟨x5_1, x6_1, rfl, HA, HK1, HO_5, HB⟩ := hrel
  cases gk with
  | zero => exact absurd HA.out (by simp [phaetonref12_On.l0])
  | succ k1 =>
   have H := HA.out
   clear HA
   simp only [phaetonref12_On.l0] at H
   by_cases c5 : x6_1 < 4
   ·rw [if_pos c5] at H
    have c5b0 : decide (x6_1 < 4) = true := decide_eq_true c5
    clear c5
    have H' := aM H
    clear H
    go_wp2
    go_loopg [7, 8] k1 (fun kq v7 v8 w' => ∃ (x7_2 : Bool) (x8_2 : Int), v7 = .bool x7_2 ∧ v8 = .int .i64 x8_2 ∧ Aside0 (phaetonref12_On.l1 kq l0 l1 x5_1 x6_1 x7_2 x8_2 = some r) ∧ Aside0 (kq ≤ k1) ∧ Aside0 (Kd.R (Kd.int .i64) 3 w' w.heap.size (fun _ => True) u5 x5_1) ∧ Aside0 (Below w.heap.size w w'))
    case atStart => exact ⟨(false), (0), (by first | rfl | (simp; done) | (simp [*]; done)), (by first | rfl | (simp; done) | (simp [*]; done)), H', ⟨Nat.le_refl _⟩, ⟨by (with_reducible repeat (first | apply rA | apply rN | apply rW)); exact HO_5.out⟩, ⟨by repeat (first | (with_reducible first | exact HB.out | apply lA | apply lN | apply lW) | exact HB.out)⟩⟩
    case round =>
     clear H'
     try clear c1
     try clear c2
     try clear p2
     try clear c5
     try clear c5b0
     try clear p2
     obtain ⟨x7_2, x8_2, rfl, rfl, HA, HK2, HO_5, HB⟩ := hrel
     cases gk with
     | zero => exact absurd HA.out (by simp [phaetonref12_On.l1])
     | succ k2 =>
      have H := HA.out
      clear HA
      simp only [phaetonref12_On.l1] at H
      by_cases c6 : x8_2 < (l0.length : Int)
      ·rw [if_pos c6] at H
       have c6b0 : decide (x8_2 < (l0.length : Int)) = true := decide_eq_true c6
       clear c6
       by_cases c7 : x7_2 = true
       ·subst c7
        have H1 : (phaetonref12_On.l1 k2 l0 l1 x5_1 x6_1 true (wrap64 (x8_2 + 1))) = some r := by rw [if_pos rfl] at H; exact H
        clear H
        have H := H1
        clear H1
        have H' := aM H
        clear H
        go_wp2
        go_roundg k2
        case measure => have := HK1.out; have := HK2.out; omega
        case rel => exact ⟨(true), (wrap64 (x8_2 + 1)), (by first | rfl | (simp; done) | (simp [*]; done)), (by first | rfl | (simp; done) | (simp [*]; done)), H', ⟨by have := HK1.out; have := HK2.out; omega⟩, ⟨by (with_reducible repeat (first | apply rA | apply rN | apply rW)); exact HO_5.out⟩, ⟨by repeat (first | (with_reducible first | exact HB.out | apply lA | apply lN | apply lW) | exact HB.out)⟩⟩
       ·replace c7 := Bool.eq_false_iff.mpr c7
        subst c7
        have H1 : (if 0 ≤ x8_2 then (if ((rd_T45 l0 x8_2).f1) = x6_1 then ((phaetonref12_In.f k2 l1 ((rd_T45 l0 x8_2).f0)).bind fun t190 => (phaetonref12_On.l1 k2 l0 l1 x5_1 x6_1 t190 (wrap64 (x8_2 + 1)))) else (phaetonref12_On.l1 k2 l0 l1 x5_1 x6_1 false (wrap64 (x8_2 + 1)))) else (none)) = some r := by rw [if_neg (show ¬ (false = true) by decide)] at H; exact H
        clear H
        have H := H1
        clear H1
        by_cases c8 : 0 ≤ x8_2
        ·rw [if_pos c8] at H
         have c8b0 : decide (0 ≤ x8_2) = true := decide_eq_true c8
         clear c8
         by_cases c9 : ((rd_T45 l0 x8_2).f1) = x6_1
         ·rw [if_pos c9] at H
          have c9b0 : (((rd_T45 l0 x8_2).f1) == x6_1) = true := beq_iff_eq.mpr c9
          have c9b1 : (((rd_T45 l0 x8_2).f1) != x6_1) = false := bne_eq_false_iff_eq.mpr c9
          clear c9
          replace H := Option.bind_eq_some_iff.mp H
          obtain ⟨t190, A100, H⟩ := H
          replace H : (phaetonref12_On.l1 k2 l0 l1 x5_1 x6_1 t190 (wrap64 (x8_2 + 1))) = some r := H
          have A10 := aM A100
          clear A100
          have H' := aM H
          clear H
          have p188 : 0 ≤ (x8_2 : Int) := oD (by first | (with_reducible assumption) | assumption)
          have q188 : x8_2 < (l0.length : Int) := oD (by first | (with_reducible assumption) | assumption)
          obtain ⟨ad188, e188, hx188_0, hx188_1, hx188_2, hx188_3, hx188_4, hx188_5⟩ := at_T45 HR0.out x8_2 p188 q188
          cases e188
          replace hx188_0 := (HB.out.cell (wl w _ hx188_0)).trans hx188_0
          replace hx188_1 := (HB.out.cell (wl w _ hx188_1)).trans hx188_1
          replace hx188_2 := (HB.out.cell (wl w _ hx188_2)).trans hx188_2
          replace hx188_3 := (HB.out.cell (wl w _ hx188_3)).trans hx188_3
          replace hx188_4 := (HB.out.cell (wl w _ hx188_4)).trans hx188_4
          replace hx188_5 := (HB.out.cell (wl w _ hx188_5)).trans hx188_5
          replace p188 := eq_true p188
          replace q188 := eq_true q188
          have p189 : 0 ≤ (x8_2 : Int) := oD (by first | (with_reducible assumption) | assumption)
          have q189 : x8_2 < (l0.length : Int) := oD (by first | (with_reducible assumption) | assumption)
          obtain ⟨ad189, e189, hx189_0, hx189_1, hx189_2, hx189_3, hx189_4, hx189_5⟩ := at_T45 HR0.out x8_2 p189 q189
          obtain rfl : ad188 = ad189 := (by injection e189)
          replace hx189_0 := (HB.out.cell (wl w _ hx189_0)).trans hx189_0
          replace hx189_1 := (HB.out.cell (wl w _ hx189_1)).trans hx189_1
          replace hx189_2 := (HB.out.cell (wl w _ hx189_2)).trans hx189_2
          replace hx189_3 := (HB.out.cell (wl w _ hx189_3)).trans hx189_3
          replace hx189_4 := (HB.out.cell (wl w _ hx189_4)).trans hx189_4
          replace hx189_5 := (HB.out.cell (wl w _ hx189_5)).trans hx189_5
          replace p189 := eq_true p189
          replace q189 := eq_true q189
          go_wp2_with (first | (go_at_call 28; (with_reducible refine (phaetonref12_In.calls k2 _ _ l1 ((rd_T45 l0 x8_2).f0) t190 _ ?side1 ?side2 A10.out).mono ?_); (case side1 => repeat (first | exact (Kd.C_below HR1.out HB.out) | (with_reducible refine Kd.C_alloc ?_ _) | (with_reducible refine Kd.C_drewN ?_ _) | (with_reducible refine Kd.C_drew ?_))); (case side2 => exact HC1.out); rintro e w' ⟨rfl, ⟨nd, rfl⟩⟩))
          go_roundg k2
          case measure => have := HK1.out; have := HK2.out; omega
          case rel => exact ⟨(t190), (wrap64 (x8_2 + 1)), (by first | rfl | (simp; done) | (simp [*]; done)), (by first | rfl | (simp; done) | (simp [*]; done)), H', ⟨by have := HK1.out; have := HK2.out; omega⟩, ⟨by (with_reducible repeat (first | apply rA | apply rN | apply rW)); exact HO_5.out⟩, ⟨by repeat (first | (with_reducible first | exact HB.out | apply lA | apply lN | apply lW) | exact HB.out)⟩⟩
         ·rw [if_neg c9] at H
          have c9b0 : (((rd_T45 l0 x8_2).f1) == x6_1) = false := nF c9
          have c9b1 : (((rd_T45 l0 x8_2).f1) != x6_1) = true := nT c9
          have H' := aM H
          clear H
          have p188 : 0 ≤ (x8_2 : Int) := oD (by first | (with_reducible assumption) | assumption)
          have q188 : x8_2 < (l0.length : Int) := oD (by first | (with_reducible assumption) | assumption)
          obtain ⟨ad188, e188, hx188_0, hx188_1, hx188_2, hx188_3, hx188_4, hx188_5⟩ := at_T45 HR0.out x8_2 p188 q188
          cases e188
          replace hx188_0 := (HB.out.cell (wl w _ hx188_0)).trans hx188_0
          replace hx188_1 := (HB.out.cell (wl w _ hx188_1)).trans hx188_1
          replace hx188_2 := (HB.out.cell (wl w _ hx188_2)).trans hx188_2
          replace hx188_3 := (HB.out.cell (wl w _ hx188_3)).trans hx188_3
          replace hx188_4 := (HB.out.cell (wl w _ hx188_4)).trans hx188_4
          replace hx188_5 := (HB.out.cell (wl w _ hx188_5)).trans hx188_5
          replace p188 := eq_true p188
          replace q188 := eq_true q188
          go_wp2
          go_roundg k2
          case measure => have := HK1.out; have := HK2.out; omega
          case rel => exact ⟨(false), (wrap64 (x8_2 + 1)), (by first | rfl | (simp; done) | (simp [*]; done)), (by first | rfl | (simp; done) | (simp [*]; done)), H', ⟨by have := HK1.out; have := HK2.out; omega⟩, ⟨by (with_reducible repeat (first | apply rA | apply rN | apply rW)); exact HO_5.out⟩, ⟨by repeat (first | (with_reducible first | exact HB.out | apply lA | apply lN | apply lW) | exact HB.out)⟩⟩
        ·rw [if_neg c8] at H
         exact absurd H (by simp)
      ·rw [if_neg c6] at H
       have c6b0 : decide (x8_2 < (l0.length : Int)) = false := decide_eq_false c6
       clear c6
       by_cases c11 : x7_2 = true
       ·subst c11
        have H1 : (if x5_1.length < 17592186044416 then (phaetonref12_On.l0 k2 l0 l1 (x5_1 ++ [x6_1]) (wrap64 (x6_1 + 1))) else (none)) = some r := by rw [if_pos rfl] at H; exact H
        clear H
        have H := H1
        clear H1
        by_cases c12 : x5_1.length < 17592186044416
        ·rw [if_pos c12] at H
         have LMc12 := aM c12
         clear c12
         obtain ⟨y191, hy191⟩ : ∃ y_ : List Int, y_ = (x5_1 ++ [x6_1]) := ⟨_, rfl⟩
         replace H : (phaetonref12_On.l0 k2 l0 l1 y191 (wrap64 (x6_1 + 1))) = some r := by first | (rw [hy191]; with_reducible exact H) | (have H2_ := (Option.bind_some _ _).symm.trans H; rw [hy191]; with_reducible exact H2_) | (have H2_ := (Option.bind_some _ _).symm.trans H; with_reducible exact H2_) | with_reducible exact H | (rw [hy191]; exact H) | exact H
         have Ny191 := aM hy191
         clear hy191
         have H' := aM H
         clear H
         go_wp2_with (first | ((with_reducible refine gate_builtin (b := .append) (xs := #[.tmp 40, .tmp 42]) rfl ?_); at_builtin; refine Kd.R_append (Kd.int .i64) (w0 := w) w.heap.size rfl (.tmp 40) (.tmp 42) 41 3 (.int .i64 0) 8 rfl Try.underlying41 info3 rfl (by decide) (by omega) u5 x5_1 x6_1 [.int .i64 x6_1] (fun _ => True) (fun _ => False) rfl (by first | rfl | (go_simp; done) | (go_simp; rfl)) ?aP (fun _ hk => hk.elim) ?aF ?aO ?aB ?aS ?aL ?_; (case aP => exact rfl); (case aB => exact (by repeat (first | (with_reducible first | exact HB.out | apply lA | apply lN | apply lW) | exact HB.out))); (case aF => exact (fun _ _ => trivial)); (case aO => exact (by (with_reducible repeat (first | apply rA | apply rN | apply rW)); exact HO_5.out)); (case aS => exact (lZ (by repeat (first | (with_reducible first | exact HB.out | apply lA | apply lN | apply lW) | exact HB.out)))); (case aL => have := LMc12.out; omega); intro v192 w13 ho hb hg hat; rw [← Ny191.out] at ho; have n0_ := aM (hb); have n1_ := aM (ho); clear HB; clear HO_5; have HB := n0_; have HO193 := n1_; clear n0_ n1_; clear ho hb hg hat))
         go_roundg k2
         case measure => have := HK1.out; have := HK2.out; omega
         case rel => exact ⟨(y191), (wrap64 (x6_1 + 1)), (by first | rfl | (simp; done) | (simp [*]; done)), H', ⟨by have := HK1.out; have := HK2.out; omega⟩, ⟨by (with_reducible repeat (first | apply rA | apply rN | apply rW)); exact HO193.out⟩, ⟨by repeat (first | (with_reducible first | exact HB.out | apply lA | apply lN | apply lW) | exact HB.out)⟩⟩
        ·rw [if_neg c12] at H
         exact absurd H (by simp)
       ·replace c11 := Bool.eq_false_iff.mpr c11
        subst c11
        have H1 : (phaetonref12_On.l0 k2 l0 l1 x5_1 (wrap64 (x6_1 + 1))) = some r := by rw [if_neg (show ¬ (false = true) by decide)] at H; exact H
        clear H
        have H := H1
        clear H1
        have H' := aM H
        clear H
        go_wp2
        go_roundg k2
        case measure => have := HK1.out; have := HK2.out; omega
        case rel => exact ⟨(x5_1), (wrap64 (x6_1 + 1)), (by first | rfl | (simp; done) | (simp [*]; done)), H', ⟨by have := HK1.out; have := HK2.out; omega⟩, ⟨by (with_reducible repeat (first | apply rA | apply rN | apply rW)); exact HO_5.out⟩, ⟨by repeat (first | (with_reducible first | exact HB.out | apply lA | apply lN | apply lW) | exact HB.out)⟩⟩
   ·rw [if_neg c5] at H
    have c5b0 : decide (x6_1 < 4) = false := decide_eq_false c5
    clear c5
    obtain rfl := Option.some.inj H
    go_wp2
    go_ret
    exact ⟨_, by first | rfl | (simp [errW_none, errW_some] <;> rfl) | (simp [*, errW_none, errW_some] <;> rfl), by (with_reducible repeat (first | apply rA | apply rN | apply rW)); exact HO_5.out, by repeat (first | (with_reducible first | exact HB.out | apply lA | apply lN | apply lW) | exact HB.out)⟩

end Go.Proofs.Ytpcabeefahldlaa.P

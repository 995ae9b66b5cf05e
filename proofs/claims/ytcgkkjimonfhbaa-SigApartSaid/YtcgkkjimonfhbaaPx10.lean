/- Go functions that the laws of this seat reach, each as a Lean function, and a proof that a call of the Go code comes to its answers; written by a program (the kit's print, turned in a few places). Conditions: each theorem's own premises. -/
import Derived.Test.YtcgkkjimonfhbaaPx0
namespace Go.Proofs.Ytcgkkjimonfhbaa.P
open Go.RowKit Go.Proofs.YtcgkkjimonfhbaaW.PrintWords Go.Proofs.YtcgkkjimonfhbaaW.PrintLast Go.Proofs.YtcgkkjimonfhbaaW.PrintMore
attribute [local go_sem] max2_int min2_int max_two min_two max_three min_three max_four min_four   -- for this text's walks alone
set_option linter.unusedVariables false
set_option linter.unusedSimpArgs false

/-! ### phaetonlaw15_data: function 24 -/
def phaetonlaw15_data.f (l0 : List Int) : Option (List Int) := (some (([] : List Int) : List Int)).bind fun y227 => (if 0 ≤ (mn (l0.length : Int) 8) then (if (mn (l0.length : Int) 8) ≤ (l0.length : Int) then (if y227.length + (l0.take ((mn (l0.length : Int) 8) : Int).toNat).length < 140737488355328 then (some (y227 ++ (l0.take ((mn (l0.length : Int) 8) : Int).toNat))) else (none)) else (none)) else (none))
set_option maxHeartbeats 8000000 in
set_option maxRecDepth 100000 in
theorem phaetonlaw15_data.calls (A0 : Option Addr) (c0 : Nat) (l0 : List Int) (r : List Int) (w : World) (hr0 : Kd.C (Kd.int .u8) w A0 l0.length l0) (hc0 : l0.length ≤ c0) (h : phaetonlaw15_data.f l0 = some r) :
  Calls Try.prog 24 #[.slice A0 l0.length c0] w fun e w' => ∃ v0_ : Value, e = .returned (v0_) ∧ Kd.R (Kd.int .u8) 5 w' w.heap.size (fun _ => True) v0_ r ∧ Below w.heap.size w w' := by
 have HR0 := aM hr0
 have HC0 := aM hc0
 clear hr0 hc0
 have HB := aM (Below.refl w.heap.size w)
 have H : ((some (([] : List Int) : List Int)).bind fun y227 => (if 0 ≤ (mn (l0.length : Int) 8) then (if (mn (l0.length : Int) 8) ≤ (l0.length : Int) then (if y227.length + (l0.take ((mn (l0.length : Int) 8) : Int).toNat).length < 140737488355328 then (some (y227 ++ (l0.take ((mn (l0.length : Int) 8) : Int).toNat))) else (none)) else (none)) else (none))) = some r := h
 clear h
 obtain ⟨y227, hy227⟩ : ∃ y_ : List Int, y_ = (([] : List Int)) := ⟨_, rfl⟩
 replace H : (if 0 ≤ (mn (l0.length : Int) 8) then (if (mn (l0.length : Int) 8) ≤ (l0.length : Int) then (if y227.length + (l0.take ((mn (l0.length : Int) 8) : Int).toNat).length < 140737488355328 then (some (y227 ++ (l0.take ((mn (l0.length : Int) 8) : Int).toNat))) else (none)) else (none)) else (none)) = some r := by first | (rw [hy227]; with_reducible exact H) | (have H2_ := (Option.bind_some _ _).symm.trans H; rw [hy227]; with_reducible exact H2_) | (have H2_ := (Option.bind_some _ _).symm.trans H; with_reducible exact H2_) | with_reducible exact H | (rw [hy227]; exact H) | exact H
 have Ny227 := aM hy227
 clear hy227
 obtain ⟨ji2, hji2⟩ : ∃ j_ : Int, (mn (l0.length : Int) 8) = j_ := ⟨_, rfl⟩
 replace H : (if 0 ≤ (ji2) then (if (ji2) ≤ (l0.length : Int) then (if y227.length + (l0.take ((ji2) : Int).toNat).length < 140737488355328 then (some (y227 ++ (l0.take ((ji2) : Int).toNat))) else (none)) else (none)) else (none)) = some r := by first | (rw [hji2] at H; exact H) | (simp only [hji2] at H ⊢; exact H)
 (try (have hji2h : ji2 ≤ 8 := by (rw [← hji2]; unfold mn; (repeat' split) <;> omega)))
 (try (have hji2g : ji2 ≤ 64 := by omega))
 (try (have hji2l : 0 ≤ ji2 := by (rw [← hji2]; unfold mn; (repeat' split) <;> omega)))
 (try (have hji2m : 0 ≤ ji2 := by omega))
 have hji2_ : (if 8 < (l0.length : Int) then 8 else (l0.length : Int)) = ji2 := hji2
 by_cases c3 : 0 ≤ (ji2)
 ·rw [if_pos c3] at H
  have c3b0 := eq_true c3
  have c3b1 : decide (0 ≤ (ji2)) = true := decide_eq_true c3
  clear c3
  by_cases c4 : (ji2) ≤ (l0.length : Int)
  ·rw [if_pos c4] at H
   have c4b0 := eq_true c4
   have c4b1 : decide ((ji2) ≤ (l0.length : Int)) = true := decide_eq_true c4
   clear c4
   by_cases c5 : y227.length + (l0.take ((ji2) : Int).toNat).length < 140737488355328
   ·rw [if_pos c5] at H
    have LMc5 := aM c5
    clear c5
    obtain ⟨y231, hy231⟩ : ∃ y_ : List Int, y_ = (y227 ++ (l0.take ((ji2) : Int).toNat)) := ⟨_, rfl⟩
    replace H : (some y231) = some r := by first | (rw [hy231]; with_reducible exact H) | (have H2_ := (Option.bind_some _ _).symm.trans H; rw [hy231]; with_reducible exact H2_) | (have H2_ := (Option.bind_some _ _).symm.trans H; with_reducible exact H2_) | with_reducible exact H | (rw [hy231]; exact H) | exact H
    have Ny231 := aM hy231
    clear hy231
    obtain rfl := Option.some.inj H
    go_enter Try.func24, Try.ntmps24
    go_wp2_with (first | ((with_reducible refine gate_dst (N := 3) rfl ?_); refine Kd.R_lit (Kd.int .u8) _ 5 ?hg (N := 3) ?hd (xs := ([] : List Int)) (inner := []) (ok := fun _ => True) (okp := fun _ => True) ?hr ?hp (fun _ hk => hk) trivial (Below.refl _ _) (Nat.le_refl _) (by simp) ?_; (case hd => rfl); (case hg => rfl); (case hr => first | (go_simp; done) | (go_simp; rfl)); (case hp => exact (Reps.none _ _)); intro v228 w6 ho7 hb hg_ hnew_; clear hg_ hnew_; (first | rw [← Ny227.out] at ho7 | (simp only [Int.reduceToNat] at ho7; rw [← Ny227.out] at ho7)); have n0_ := aM (Kd.R_lower ho7 (lZ (by repeat (first | (with_reducible first | exact HB.out | apply lA | apply lN | apply lW) | exact HB.out)))); have n1_ := aM (lT (by repeat (first | (with_reducible first | exact HB.out | apply lA | apply lN | apply lW) | exact HB.out)) hb); clear HB; have HO229 := n0_; have HB := n1_; clear n0_ n1_; clear hb ho7; obtain ⟨i08, hi08, _, hsz8, _⟩ := info_parts info5; obtain ⟨hcut8, hA8, hC8⟩ := print_take_of (P := Try.prog) (Value.int .u8) 0 24 5 .i64 Try.underlying24 hi08 hsz8 A0 c0 l0 (ji2) (oD (by first | (with_reducible assumption) | assumption)) (oD (by first | (with_reducible assumption) | assumption)) HC0.out; have HR230 := aM (Kd.C_of_reads (h1 := fun _ => rfl) (hA8 _ (Kd.reads_of_C HR0.out))); have HC230 := aM hC8; clear hA8 hC8 hi08 hsz8) | ((with_reducible refine gate_builtin (b := .append) (xs := #[.tmp 3, .tmp 8]) rfl ?_); at_builtin; refine Kd.R_append_rows (Kd.int .u8) (w0 := w) w.heap.size rfl (.tmp 3) (.tmp 8) 24 5 (.int .u8 0) 1 rfl Try.underlying24 info5 rfl (by decide) (by omega) v228 y227 (l0.take ((ji2) : Int).toNat) _ _ _ (fun _ => True) (fun _ => False) rfl rfl ?aO ?aR (fun _ _ h => h) (fun _ h => h.elim) ?aF ?aB ?aS ?aL ?_; (case aR => first | (have h2_ := (Kd.C_below HR230.out HB.out); rw [show (l0.take ((ji2) : Int).toNat).length = (ji2).toNat from (by rw [List.length_take]; have h_ : ((ji2) : Int) ≤ (l0.length : Int) := oD (by first | (with_reducible assumption) | assumption); omega)] at h2_; exact h2_) | (rw [← show (l0.take ((ji2) : Int).toNat).length = (ji2).toNat from (by rw [List.length_take]; have h_ : ((ji2) : Int) ≤ (l0.length : Int) := oD (by first | (with_reducible assumption) | assumption); omega)]; repeat (first | exact (Kd.C_below HR230.out HB.out) | (with_reducible refine Kd.C_alloc ?_ _) | (with_reducible refine Kd.C_drewN ?_ _) | (with_reducible refine Kd.C_drew ?_))) | (repeat (first | exact (Kd.C_below HR230.out HB.out) | (with_reducible refine Kd.C_alloc ?_ _) | (with_reducible refine Kd.C_drewN ?_ _) | (with_reducible refine Kd.C_drew ?_)))); (case aB => exact (by repeat (first | (with_reducible first | exact HB.out | apply lA | apply lN | apply lW) | exact HB.out))); (case aF => exact (fun _ _ => trivial)); (case aO => exact (by (with_reducible repeat (first | apply rA | apply rN | apply rW)); exact HO229.out)); (case aS => exact (lZ (by repeat (first | (with_reducible first | exact HB.out | apply lA | apply lN | apply lW) | exact HB.out)))); (case aL => have := LMc5.out; have hlx_ := (show (l0.take ((ji2) : Int).toNat).length = (ji2).toNat from (by rw [List.length_take]; have h_ : ((ji2) : Int) ≤ (l0.length : Int) := oD (by first | (with_reducible assumption) | assumption); omega)); omega); intro v232 w9 ho hb hg hat; rw [← Ny231.out] at ho; have n0_ := aM (hb); have n1_ := aM (ho); clear HB; clear HO229; have HB := n0_; have HO233 := n1_; clear n0_ n1_; clear ho hb hg hat))
    go_ret
    exact ⟨_, by first | rfl | (simp [errW_none, errW_some] <;> rfl) | (simp only [← hji2]; first | rfl | (simp [errW_none, errW_some] <;> rfl)) | (simp [*, errW_none, errW_some] <;> rfl), by (with_reducible repeat (first | apply rA | apply rN | apply rW)); exact HO233.out, by repeat (first | (with_reducible first | exact HB.out | apply lA | apply lN | apply lW) | exact HB.out)⟩
   ·rw [if_neg c5] at H
    exact absurd H (by simp)
  ·rw [if_neg c4] at H
   exact absurd H (by simp)
 ·rw [if_neg c3] at H
  exact absurd H (by simp)

end Go.Proofs.Ytcgkkjimonfhbaa.P

/-
  The pure statement of FilterCovers: what covers takes all that is taken; what does not misses one with the least or the most bits. Conditions: the numbers are ints.
-/
import Derived.Test.YtcbcgfeliainaaaPx8
import Derived.Test.YtcbcgfeliainaaaPlain
namespace Go.Proofs.Ytcbcgfeliainaaa.Pure
open Go.RowKit Go.Proofs.YtcbcgfeliainaaaOwn Go.Proofs.Ytcbcgfeliainaaa.P Go.Proofs.YtcbcgfeliainaaaW.PrintWords Go.Proofs.YtcbcgfeliainaaaW.PrintLast
set_option linter.unusedVariables false
set_option linter.unusedSimpArgs false

theorem FilterCovers : ∀ (y0 : S23) (y1 : S23) (y2 : Int), (ok23 y0) → (ok23 y1) → ((Lit.int .u32 y2).wf = true) → ∃ k, phaetonlaw07_FilterCovers.f k y0.f0 y0.f1 y0.f2 y1.f0 y1.f1 y1.f2 y2 = some true := by
  intro y0 y1 y2 h0 h1 h2
  obtain ⟨K0, M0, a1, a2⟩ := flt_of h0
  obtain ⟨K1, M1, b1, b2⟩ := flt_of h1
  obtain ⟨N, hN⟩ := toInt_of_wf (wrap64_wf y2)
  refine ⟨10, ?_⟩
  unfold phaetonlaw07_FilterCovers.f
  rw [head_true, a1, a2, b1, b2, rRight, rRight]
  simp only [Option.bind_some]
  have J1 : rightB y0.f0 K0 M0 = true → rightB y1.f0 K1 M1 = true → phaetonlaw07_FilterCovers.j1 8 y2 true (allOf y1.f0).toInt y0.f0 K0.toInt M0.toInt y1.f0 K1.toInt M1.toInt = some true := by
    intro r0 r1
    simp only [rightB, Bool.and_eq_true, beq_iff_eq] at r0 r1
    simp only [phaetonlaw07_FilterCovers.j1, phaetonlaw07_frame.f, Option.bind_some]
    rw [hN, andNot_toInt, and_toInt, or_toInt, or_toInt]
    simp only [fTakes, fCovers, Option.bind_some, if_true]
    have t1 : takesB y1.f0 K1 M1 y1.f0 (M1 ||| N &&& (allOf y1.f0 &&& ~~~K1)) = true := by
      simp only [takesB, Bool.and_eq_true, beq_iff_eq, beq_self_eq_true, true_and]
      apply bv_ext
      intro i hi
      have a := bv_get r1.2 i
      simp [hi] at a ⊢
      cases hM : M1.getLsbD i <;> cases hK : K1.getLsbD i <;> simp_all
    rw [t1, if_pos rfl]
    cases hc : coversB y0.f0 K0 M0 y1.f0 K1 M1 with
    | true =>
      rw [if_pos rfl]
      simp only [coversB, Bool.and_eq_true, beq_iff_eq] at hc
      obtain ⟨c1, c2, c3⟩ := hc
      have t2 : takesB y0.f0 K0 M0 y1.f0 (M1 ||| N &&& (allOf y1.f0 &&& ~~~K1)) = true := by
        simp only [takesB, Bool.and_eq_true, beq_iff_eq]
        refine ⟨c2, ?_⟩
        apply bv_ext
        intro i hi
        have a := bv_get c1 i
        have b := bv_get c3 i
        simp [hi] at a b ⊢
        cases hM : M1.getLsbD i <;> cases hK : K1.getLsbD i <;> cases hK0 : K0.getLsbD i <;> simp_all
      rw [t2]
    | false =>
      rw [if_neg (by decide)]
      cases ht : takesB y0.f0 K0 M0 y1.f0 M1 with
      | false => rw [if_neg (by decide)]
      | true =>
        rw [if_pos rfl]
        cases ht2 : takesB y0.f0 K0 M0 y1.f0 (M1 ||| (allOf y1.f0 &&& ~~~K1)) with
        | false => rfl
        | true =>
          exfalso
          simp only [takesB, Bool.and_eq_true, beq_iff_eq] at ht ht2
          have : coversB y0.f0 K0 M0 y1.f0 K1 M1 = true := by
            simp only [coversB, Bool.and_eq_true, beq_iff_eq]
            refine ⟨?_, ht.1, ht.2⟩
            have he := ht.1
            apply bv_ext
            intro i hi
            have a := bv_get r0.1 i
            have b := bv_get ht.2 i
            have c := bv_get ht2.2 i
            have d := bv_get r1.2 i
            rw [← he] at a
            simp [hi] at a b c d ⊢
            cases hM : M1.getLsbD i <;> cases hK : K1.getLsbD i <;> cases hK0 : K0.getLsbD i <;> cases hM0 : M0.getLsbD i <;> simp_all
          rw [hc] at this
          cases this
  have J0 : ∀ t, (t = false → rightB y0.f0 K0 M0 = true ∧ rightB y1.f0 K1 M1 = true) → phaetonlaw07_FilterCovers.j0 10 y2 true t y0.f0 K0.toInt M0.toInt y1.f0 K1.toInt M1.toInt = some true := by
    intro t ht
    cases t with
    | true => simp [phaetonlaw07_FilterCovers.j0]
    | false =>
      have hr := ht rfl
      have hj := J1 hr.1 hr.2
      have e1 : (allOf true).toInt = 536870911 := by decide
      have e2 : (allOf false).toInt = 2047 := by decide
      have mono : ∀ x, phaetonlaw07_FilterCovers.j1 8 y2 true x y0.f0 K0.toInt M0.toInt y1.f0 K1.toInt M1.toInt = some true → phaetonlaw07_FilterCovers.j1 9 y2 true x y0.f0 K0.toInt M0.toInt y1.f0 K1.toInt M1.toInt = some true := by
        intro x hx
        simpa only [phaetonlaw07_FilterCovers.j1] using hx
      have j0e : phaetonlaw07_FilterCovers.j0 10 y2 true false y0.f0 K0.toInt M0.toInt y1.f0 K1.toInt M1.toInt = phaetonlaw07_FilterCovers.j1 9 y2 true (allOf y1.f0).toInt y0.f0 K0.toInt M0.toInt y1.f0 K1.toInt M1.toInt := by
        rw [phaetonlaw07_FilterCovers.j0]
        rw [if_neg (by decide)]
        cases y1.f0
        · rw [e2, if_neg (by decide)]
        · rw [e1, if_pos rfl]
      rw [j0e]
      exact mono _ hj
  cases hr0 : rightB y0.f0 K0 M0 with
  | false => rw [if_neg (by decide)]; exact J0 true (by simp)
  | true =>
    rw [if_pos rfl]
    cases hr1 : rightB y1.f0 K1 M1 with
    | false => exact J0 true (by simp)
    | true => exact J0 false (fun _ => ⟨hr0, hr1⟩)

end Go.Proofs.Ytcbcgfeliainaaa.Pure

/-
  The pure statement of FilterMeets: filters that meet both take the frame of both matches; those that do not take no frame both. Conditions: the numbers are ints.
-/
import Derived.Test.YtcbcgfeliainaaaPx9
import Derived.Test.YtcbcgfeliainaaaPlain
namespace Go.Proofs.Ytcbcgfeliainaaa.Pure
open Go.RowKit Go.Proofs.YtcbcgfeliainaaaOwn Go.Proofs.Ytcbcgfeliainaaa.P Go.Proofs.YtcbcgfeliainaaaW.PrintWords Go.Proofs.YtcbcgfeliainaaaW.PrintLast
set_option linter.unusedVariables false
set_option linter.unusedSimpArgs false

theorem no_both {e e' : Bool} {K M K' M' : BV} {x : Bool} {Y : BV} (h : takesB e K M x Y = true) (h' : takesB e' K' M' x Y = true) : meetsB e K M e' K' M' = true := by
  simp only [takesB, Bool.and_eq_true, beq_iff_eq] at h h'
  simp only [meetsB, Bool.and_eq_true, beq_iff_eq]
  refine ⟨by rw [← h.1, ← h'.1], ?_⟩
  apply bv_ext
  intro i hi
  have a := bv_get h.2 i
  have b := bv_get h'.2 i
  simp [hi] at a b ⊢
  cases hK : K.getLsbD i <;> cases hK' : K'.getLsbD i <;> simp_all

theorem FilterMeets : ∀ (y0 : S23) (y1 : S23) (y2 : Int), (ok23 y0) → (ok23 y1) → ((Lit.int .u32 y2).wf = true) → ∃ k, phaetonlaw07_FilterMeets.f k y0.f0 y0.f1 y0.f2 y1.f0 y1.f1 y1.f2 y2 = some true := by
  intro y0 y1 y2 h0 h1 h2
  obtain ⟨K0, M0, a1, a2⟩ := flt_of h0
  obtain ⟨K1, M1, b1, b2⟩ := flt_of h1
  have hb : 0 ≤ y2 ∧ y2 ≤ 4294967295 := by simpa [Lit.wf, IntKind.min, IntKind.max, IntKind.signed, IntKind.bits] using h2
  have hm : ∀ w : Int, 0 < w → w ≤ 536870912 → (Lit.int .i64 (Int.tmod (wrap64 y2) w)).wf = true := by
    intro w hw hw2
    have e : wrap64 y2 = y2 := by unfold wrap64; omega
    have e2 : Int.tmod y2 w = y2 % w := Int.tmod_eq_emod_of_nonneg hb.1
    have e3 := Int.emod_nonneg y2 (show w ≠ 0 by omega)
    have e4 := Int.emod_lt_of_pos y2 hw
    rw [e, e2]
    simp only [Lit.wf, IntKind.min, IntKind.max, IntKind.signed, IntKind.bits, Bool.and_eq_true, decide_eq_true_eq, if_true]
    omega
  obtain ⟨N, hN⟩ := toInt_of_wf (hm 2048 (by decide) (by decide))
  obtain ⟨N2, hN2⟩ := toInt_of_wf (hm 536870912 (by decide) (by decide))
  refine ⟨10, ?_⟩
  unfold phaetonlaw07_FilterMeets.f
  rw [head_true, a1, a2, b1, b2, rRight, rRight]
  simp only [Option.bind_some]
  have J1 : meetsB y0.f0 K0 M0 y1.f0 K1 M1 = false → ∀ (x : Bool) (Y Z : BV), phaetonlaw07_FilterMeets.j1 9 true y0.f0 K0.toInt M0.toInt y1.f0 K1.toInt M1.toInt y0.f0 Z.toInt false 0 [] x Y.toInt false 0 [] = some true := by
    intro hn x Y Z
    simp only [phaetonlaw07_FilterMeets.j1, fTakes, Option.bind_some, if_true]
    have n1 : ∀ W v, takesB y0.f0 K0 M0 v W = true → takesB y1.f0 K1 M1 v W = false := by
      intro W v t
      cases h : takesB y1.f0 K1 M1 v W with
      | false => rfl
      | true => rw [no_both t h] at hn; cases hn
    have rest : (if (y0.f0 != y1.f0) = true then some true else if takesB y0.f0 K0 M0 y0.f0 Z = true then some (!takesB y1.f0 K1 M1 y0.f0 Z) else some (!false)) = some true := by
      cases y0.f0 != y1.f0 with
      | true => simp
      | false =>
        simp only [Bool.false_eq_true, if_false]
        cases ht : takesB y0.f0 K0 M0 y0.f0 Z with
        | false => simp
        | true => rw [n1 _ _ ht]; simp
    cases ht : takesB y0.f0 K0 M0 x Y with
    | true =>
      rw [if_pos rfl, n1 _ _ ht, if_neg (by decide)]
      exact rest
    | false =>
      rw [if_neg (by decide)]
      exact rest
  have J0 : ∀ t, (t = false → rightB y0.f0 K0 M0 = true ∧ rightB y1.f0 K1 M1 = true) → phaetonlaw07_FilterMeets.j0 10 y2 true t y0.f0 K0.toInt M0.toInt y1.f0 K1.toInt M1.toInt = some true := by
    intro t ht
    rw [phaetonlaw07_FilterMeets.j0]
    cases t with
    | true => simp
    | false =>
      obtain ⟨r0, r1⟩ := ht rfl
      rw [if_neg (by decide), or_toInt, fMeets, fMeets, hN, hN2]
      simp only [phaetonlaw07_frame.f, Option.bind_some]
      have sym : meetsB y1.f0 K1 M1 y0.f0 K0 M0 = meetsB y0.f0 K0 M0 y1.f0 K1 M1 := by
        unfold meetsB
        rw [Bool.beq_comm (a := y1.f0), Bool.eq_iff_iff]
        simp only [Bool.and_eq_true, beq_iff_eq]
        constructor <;> rintro ⟨p, q⟩ <;> exact ⟨p, q.symm⟩
      rw [sym, if_neg (by simp)]
      cases hm : meetsB y0.f0 K0 M0 y1.f0 K1 M1 with
      | true =>
        rw [if_pos rfl, if_pos trivial, fTakes, fTakes]
        simp only [Option.bind_some]
        simp only [meetsB, Bool.and_eq_true, beq_iff_eq] at hm
        simp only [rightB, Bool.and_eq_true, beq_iff_eq] at r0 r1
        have t0 : takesB y0.f0 K0 M0 y0.f0 (M0 ||| M1) = true := by
          simp only [takesB, Bool.and_eq_true, beq_iff_eq, beq_self_eq_true, true_and]
          apply bv_ext
          intro i hi
          have a := bv_get r0.2 i
          have b := bv_get hm.2 i
          simp [hi] at a b ⊢
          cases hM : M1.getLsbD i <;> cases hK : K0.getLsbD i <;> cases hM0 : M0.getLsbD i <;> simp_all
        have t1 : takesB y1.f0 K1 M1 y0.f0 (M0 ||| M1) = true := by
          simp only [takesB, Bool.and_eq_true, beq_iff_eq]
          refine ⟨hm.1, ?_⟩
          apply bv_ext
          intro i hi
          have a := bv_get r1.2 i
          have b := bv_get hm.2 i
          simp [hi] at a b ⊢
          cases hM : M1.getLsbD i <;> cases hK : K1.getLsbD i <;> cases hM0 : M0.getLsbD i <;> simp_all
        rw [t0, if_pos rfl, t1]
      | false =>
        rw [if_neg (by decide)]
        cases hx : y0.f0 with
        | true =>
          rw [if_pos rfl]
          have hj := J1 hm true N2 (M0 ||| M1)
          rw [hx] at hj
          exact hj
        | false =>
          rw [if_neg (by decide)]
          have hj := J1 hm false N (M0 ||| M1)
          rw [hx] at hj
          exact hj
  cases hr0 : rightB y0.f0 K0 M0 with
  | false => rw [if_neg (by decide)]; exact J0 true (by simp)
  | true =>
    rw [if_pos rfl]
    cases hr1 : rightB y1.f0 K1 M1 with
    | false => exact J0 true (by simp)
    | true => exact J0 false (fun _ => ⟨hr0, hr1⟩)

end Go.Proofs.Ytcbcgfeliainaaa.Pure

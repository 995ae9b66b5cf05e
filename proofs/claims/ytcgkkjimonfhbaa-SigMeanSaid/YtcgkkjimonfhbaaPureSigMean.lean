/-
  The plain law of SigMean: what the printed text answers is true. Conditions: the numbers are ints, the rows read.
-/
import Derived.Test.YtcgkkjimonfhbaaPx25
import Derived.Test.YtcgkkjimonfhbaaPlainF
namespace Go.Proofs.Ytcgkkjimonfhbaa.Pure
open Go.RowKit Go.Proofs.YtcgkkjimonfhbaaOwn Go.Proofs.Ytcgkkjimonfhbaa.P Go.Proofs.YtcgkkjimonfhbaaW.PrintWords Go.Proofs.YtcgkkjimonfhbaaW.PrintLast Go.Proofs.YtcgkkjimonfhbaaW.PrintMore
set_option linter.unusedVariables false
set_option linter.unusedSimpArgs false

theorem mean_lt {m a b c : Int} (hm : 0 < m) : (m * a + c < m * b + c) ↔ a < b := by
  constructor
  · intro h
    have : m * a < m * b := by omega
    exact Int.lt_of_mul_lt_mul_left this (by omega)
  · intro h
    have := Int.mul_lt_mul_of_pos_left h hm
    omega
theorem mean_lt_neg {m a b c : Int} (hm : m < 0) : (m * a + c < m * b + c) ↔ b < a := by
  have := mean_lt (m := -m) (a := b) (b := a) (c := c) (by omega)
  rw [← this, Int.neg_mul, Int.neg_mul]
  omega
theorem mean_eq {m a b c : Int} (hm : m ≠ 0) : (m * a + c = m * b + c) ↔ a = b :=
  ⟨fun h => Int.eq_of_mul_eq_mul_left hm (by omega), fun h => by rw [h]⟩
theorem SigMean : ∀ (y0 : S23) (y1 : Int) (y2 : Int), (ok23 y0) → ((Lit.int .i64 y1).wf = true) → ((Lit.int .i64 y2).wf = true) → ∃ k, phaetonlaw15_SigMean.f k y0.f0 y0.f1 y0.f2 y0.f3 y0.f4 y0.f5 y1 y2 = some true := by
  intro y0 y1 y2 h0 h1 h2
  obtain ⟨st, ln, big, sgn, mul, add⟩ := y0
  dsimp only
  refine ⟨200, ?_⟩
  unfold phaetonlaw15_SigMean.f
  rw [head_true _ (by omega), Option.bind_some]
  simp only [sig_Right.f, Option.bind_some]
  cases h : rightS st ln big sgn mul add 8 with
  | false => rw [if_neg (by decide), phaetonlaw15_SigMean.j0, if_pos rfl]
  | true =>
    have hR := rightS_iff.1 h
    have hln : 1 ≤ ln ∧ ln ≤ 32 := ⟨hR.l1, hR.l32⟩
    rw [if_pos rfl, fRFits _ _ _ _ _ _ _ _ hln (by omega), Option.bind_some]
    cases ha : fitsS ln sgn y1 with
    | false => rw [if_neg (by decide), phaetonlaw15_SigMean.j0, if_pos rfl]
    | true =>
      rw [if_pos rfl, fRFits _ _ _ _ _ _ _ _ hln (by omega), Option.bind_some]
      cases hb : fitsS ln sgn y2 with
      | false => rw [phaetonlaw15_SigMean.j0, if_pos (by decide)]
      | true =>
        have z : fitsS ln sgn 0 = true := by
          unfold fitsS
          have p1 := two_pos (ln.toNat - 1)
          have p2 := two_pos ln.toNat
          cases sgn <;> simp <;> omega
        have hm : ∀ n, fitsS ln sgn n = true → meanS st ln big sgn mul add n = mul * n + add := fun n hn => by unfold meanS; rw [if_pos h, if_pos hn]
        have bd := fits_bd hln ha
        have hj1 : phaetonlaw15_SigMean.j1 199 y1 true (mul * y1 + add) false st ln big sgn mul add = some true := by
          rw [phaetonlaw15_SigMean.j1, if_neg (by decide), wr (y1 + 1) (by omega), fRFits _ _ _ _ _ _ _ _ hln (by omega), Option.bind_some]
          cases hc : fitsS ln sgn (y1 + 1) with
          | false => rw [if_neg (by decide)]
          | true =>
            have hmb := mul_bd hR.m1 bd
            have hm1 := hR.m1
            have ha1 := hR.a1
            rw [if_pos rfl, fMean, Option.bind_some, hm _ hc, wr _ (by omega), if_pos (by rw [Int.mul_add]; omega)]
        rw [phaetonlaw15_SigMean.j0, if_neg (by decide), fMean, fMean, fMean, Option.bind_some, Option.bind_some, hm y1 ha, hm y2 hb, hm 0 z, Int.mul_zero, Int.zero_add]
        have e1 : ((mul * y1 + add == mul * y2 + add) != (y1 == y2)) = false := by
          have : (mul * y1 + add == mul * y2 + add) = (y1 == y2) := by
            rw [Bool.eq_iff_iff, beq_iff_eq, beq_iff_eq]; exact mean_eq hR.m0
          rw [this]; simp
        rw [e1, if_neg (by decide)]
        have e3 : (add != add) = false := by simp
        by_cases c : y1 < y2
        · have e2 : ((decide (mul * y1 + add < mul * y2 + add)) != (decide (mul > 0))) = false := by
            have : decide (mul * y1 + add < mul * y2 + add) = decide (mul > 0) := by
              rw [decide_eq_decide]
              by_cases hp : 0 < mul
              · rw [mean_lt hp]; exact ⟨fun _ => hp, fun _ => c⟩
              · have := hR.m0
                rw [mean_lt_neg (by omega)]; omega
            rw [this]; simp
          rw [if_pos c, e2, if_neg (by decide), Option.bind_some, e3, hj1]
        · rw [if_neg c, Option.bind_some, e3, hj1]

end Go.Proofs.Ytcgkkjimonfhbaa.Pure

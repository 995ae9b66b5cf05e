/-
  The plain law of CountRight: a right counter stays right.
-/
import Derived.Test.YtlbhokkifdjlaaaPx9
import Derived.Test.YtlbhokkifdjlaaaPlain
namespace Go.Proofs.Ytlbhokkifdjlaaa.Pure
open Go.RowKit Go.Proofs.Ytlbhokkifdjlaaa.P Go.Proofs.YtlbhokkifdjlaaaW.PrintWords Go.Proofs.YtlbhokkifdjlaaaW.PrintLast Go.Proofs.YtlbhokkifdjlaaaW.PrintMore
set_option linter.unusedVariables false
set_option linter.unusedSimpArgs false

theorem CountRight : ∀ (y0 : S23) (y1 : Int) (y2 : List Int), (ok23 y0) → ((Lit.int .i64 y1).wf = true) → ((y2.length * 8 ≤ 140737488351232 ∧ y2.length ≤ maxLen ∧ ∀ z0 ∈ y2, (Lit.int .i64 z0).wf = true)) → ∃ k, phaetonlaw08_CountRight.f k y0.f0 y0.f1 y0.f2 y0.f3 y1 y2 = some true := by
  intro y0 y1 y2 h0 h1 h2
  obtain ⟨t, r, s, q⟩ := y0
  dsimp only
  have hl : y2.length < 17592186044416 := by omega
  obtain ⟨k, hk⟩ : ∃ k, k = y2.length + 300 := ⟨_, rfl⟩
  refine ⟨k + 1, ?_⟩
  unfold phaetonlaw08_CountRight.f
  rw [head_true _ (by omega), Option.bind_some]
  have J : phaetonlaw08_CountRight.j0 (k + 1) y1 y2 true true t r s q = some true := by
    rw [phaetonlaw08_CountRight.j0]
    rw [if_pos rfl]
  by_cases c : (y2.length : Int) > 2000
  · rw [if_pos c, J]
  · rw [if_neg c]
    simp only [count_Right.f, Option.bind_some]
    rcases hr : rightC t r s q with _ | _
    · exact J
    · rw [phaetonlaw08_CountRight.j0]
      have e1 : rightC (stepC t r s q y1).1 (stepC t r s q y1).2.1 (stepC t r s q y1).2.2.1 (stepC t r s q y1).2.2.2 = true := step_ok t r s q y1 hr
      have e2 : rightC (stps (t, r, s, q) y2).1 (stps (t, r, s, q) y2).2.1 (stps (t, r, s, q) y2).2.2.1 (stps (t, r, s, q) y2).2.2.2 = true := stps_ok y2 (t, r, s, q) hr
      have e3 : rightC 0 0 1 0 = true := by decide +kernel
      rw [fSteps _ _ _ _ _ _ hl (by omega)]
      simp only [Bool.not_true, Bool.false_eq_true, if_false, if_true, count_Step.f, Option.bind_some, e1, e2, count_New.f, e3, count_Right.f]

end Go.Proofs.Ytlbhokkifdjlaaa.Pure

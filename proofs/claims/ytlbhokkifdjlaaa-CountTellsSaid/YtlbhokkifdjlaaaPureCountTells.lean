/-
  The plain law of CountTells: what the printed text answers is true, for every counter and every row.
-/
import Derived.Test.YtlbhokkifdjlaaaPx7
import Derived.Test.YtlbhokkifdjlaaaPlainRef
namespace Go.Proofs.Ytlbhokkifdjlaaa.Pure
open Go.RowKit Go.Proofs.Ytlbhokkifdjlaaa.P Go.Proofs.YtlbhokkifdjlaaaW.PrintWords Go.Proofs.YtlbhokkifdjlaaaW.PrintLast Go.Proofs.YtlbhokkifdjlaaaW.PrintMore
set_option linter.unusedVariables false
set_option linter.unusedSimpArgs false

theorem CountTells : ∀ (y0 : S23) (y1 : Int) (y2 : List Int), (ok23 y0) → ((Lit.int .i64 y1).wf = true) → ((y2.length * 8 ≤ 140737488351232 ∧ y2.length ≤ maxLen ∧ ∀ z0 ∈ y2, (Lit.int .i64 z0).wf = true)) → ∃ k, phaetonlaw08_CountTells.f k y0.f0 y0.f1 y0.f2 y0.f3 y1 y2 = some true := by
  intro y0 y1 y2 h0 h1 h2
  obtain ⟨t, r, s, q⟩ := y0
  dsimp only
  have hl : y2.length < 17592186044416 := by omega
  obtain ⟨k, hk⟩ : ∃ k, k = y2.length + 300 := ⟨_, rfl⟩
  refine ⟨k + 1, ?_⟩
  unfold phaetonlaw08_CountTells.f
  rw [head_true _ (by omega), Option.bind_some]
  by_cases c : (y2.length : Int) > 2000
  · rw [if_pos c]
    rw [phaetonlaw08_CountTells.j0]
    rw [if_pos rfl, if_pos rfl, decide_eq_true c]
  · rw [if_neg c, fRRight _ _ _ _ _ (by omega)]
    simp only [count_Right.f, Option.bind_some]
    rw [phaetonlaw08_CountTells.j0]
    rw [fRRight _ _ _ _ _ (by omega)]
    simp only [bne_self_eq_false, Bool.false_eq_true, if_false, if_true, count_New.f, phaetonref08_New.f, Option.bind_some, beq_self_eq_true, Bool.and_true]
    by_cases hr : rightC t r s q = true
    · rw [if_pos hr, fSteps _ _ _ _ _ _ hl (by omega), fRSteps _ _ _ _ _ _ hr hl (by omega), fRStep _ _ _ _ _ hr]
      simp [count_Step.f]
    · rw [if_neg hr]

end Go.Proofs.Ytlbhokkifdjlaaa.Pure

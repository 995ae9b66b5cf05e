/-
  The plain law of CountOff: an Off counter counts calm times alone.
-/
import Derived.Test.YtlbhokkifdjlaaaPx10
import Derived.Test.YtlbhokkifdjlaaaPlain
namespace Go.Proofs.Ytlbhokkifdjlaaa.Pure
open Go.RowKit Go.Proofs.Ytlbhokkifdjlaaa.P Go.Proofs.YtlbhokkifdjlaaaW.PrintWords Go.Proofs.YtlbhokkifdjlaaaW.PrintLast Go.Proofs.YtlbhokkifdjlaaaW.PrintMore
set_option linter.unusedVariables false
set_option linter.unusedSimpArgs false

theorem off_l0 : ∀ (k i : Nat) (l : List Int) (q : Int), 0 ≤ q ∧ q < 128 → l.length < 17592186044416 → i ≤ l.length → 2 * (l.length - i) < k → phaetonlaw08_CountOff.l0 k l true q (i : Int) 256 0 3 q = some true
  | 0, _, _, _, _, _, _, h => by omega
  | 1, i, l, q, hq, hl, hi, h => by
    unfold phaetonlaw08_CountOff.l0
    rw [if_neg (by omega)]
  | k + 2, i, l, q, hq, hl, hi, h => by
    unfold phaetonlaw08_CountOff.l0
    by_cases e : i < l.length
    · rw [if_pos (by omega), if_pos (by omega)]
      have hw : wrap64 ((i : Int) + 1) = ((i + 1 : Nat) : Int) := by rw [wr _ (by omega)]; omega
      have hq1 : wrap64 (q + 1) = q + 1 := wr _ (by omega)
      simp only [count_Step.f, Option.bind_some, stepC, if_true]
      generalize rd l (i : Int) = v
      by_cases c6 : v = 6
      · simp only [if_pos c6]
        rw [hq1]
        by_cases c8 : q + 1 = 128
        · rw [phaetonlaw08_CountOff.j2]
          simp only [if_pos c8, if_true, count_New.f, Option.bind_some, beq_self_eq_true, Bool.and_true]
        · rw [phaetonlaw08_CountOff.j2]
          simp only [if_neg c8, beq_self_eq_true, Bool.not_true, Bool.or_false, Bool.false_eq_true, if_false]
          rw [hw]
          exact off_l0 k (i + 1) l (q + 1) (by omega) hl (by omega) (by omega)
      · simp only [if_neg c6]
        rw [phaetonlaw08_CountOff.j2]
        rw [if_neg (by omega : ¬ q = 128)]
        simp only [beq_self_eq_true, Bool.not_true, Bool.or_false, Bool.false_eq_true, if_false]
        rw [hw]
        exact off_l0 k (i + 1) l q hq hl (by omega) (by omega)
    · rw [if_neg (by omega)]

theorem CountOff : ∀ (y0 : S23) (y1 : List Int), (ok23 y0) → ((y1.length * 8 ≤ 140737488351232 ∧ y1.length ≤ maxLen ∧ ∀ z0 ∈ y1, (Lit.int .i64 z0).wf = true)) → ∃ k, phaetonlaw08_CountOff.f k y0.f0 y0.f1 y0.f2 y0.f3 y1 = some true := by
  intro y0 l h0 h2
  obtain ⟨t, r, s, q⟩ := y0
  dsimp only
  have hl : l.length < 17592186044416 := by omega
  obtain ⟨k, hk⟩ : ∃ k, k = 2 * l.length + 300 := ⟨_, rfl⟩
  refine ⟨k + 1, ?_⟩
  unfold phaetonlaw08_CountOff.f
  rw [head_true _ (by omega), Option.bind_some]
  have J : phaetonlaw08_CountOff.j0 (k + 1) l true true t r s q = some true := by
    rw [phaetonlaw08_CountOff.j0]
    rw [if_pos rfl]
  by_cases c : (l.length : Int) > 2000
  · rw [if_pos c, J]
  · rw [if_neg c]
    simp only [count_Right.f, Option.bind_some]
    by_cases hr : rightC t r s q = true
    · rw [if_pos hr]
      by_cases h3 : s = 3
      · have hr' := (right_iff t r s q).mp hr
        obtain ⟨rfl, rfl, rfl, hq⟩ : s = 3 ∧ t = 256 ∧ r = 0 ∧ 0 ≤ q ∧ q < 128 := by omega
        rw [phaetonlaw08_CountOff.j0]
        simp only [bne_self_eq_false, Bool.false_eq_true, if_false]
        exact off_l0 _ 0 l q hq hl (by omega) (by omega)
      · have : (s != 3) = true := by simpa using h3
        rw [this, J]
    · rw [if_neg hr, J]

end Go.Proofs.Ytlbhokkifdjlaaa.Pure

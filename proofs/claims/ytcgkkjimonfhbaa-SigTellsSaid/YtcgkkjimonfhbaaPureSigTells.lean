/-
  The plain law of SigTells: what the printed text answers is true. Conditions: the numbers are ints, the rows read.
-/
import Derived.Test.YtcgkkjimonfhbaaPx17
import Derived.Test.YtcgkkjimonfhbaaPlainF
namespace Go.Proofs.Ytcgkkjimonfhbaa.Pure
open Go.RowKit Go.Proofs.YtcgkkjimonfhbaaOwn Go.Proofs.Ytcgkkjimonfhbaa.P Go.Proofs.YtcgkkjimonfhbaaW.PrintWords Go.Proofs.YtcgkkjimonfhbaaW.PrintLast Go.Proofs.YtcgkkjimonfhbaaW.PrintMore
set_option linter.unusedVariables false
set_option linter.unusedSimpArgs false

theorem SigTells : ∀ (y0 : S23) (y1 : List Int) (y2 : Int), (ok23 y0) → ((y1.length * 1 ≤ 140737488351232 ∧ y1.length ≤ maxLen ∧ ∀ z0 ∈ y1, (Lit.int .u8 z0).wf = true)) → ((Lit.int .i64 y2).wf = true) → ∃ k, phaetonlaw15_SigTells.f k y0.f0 y0.f1 y0.f2 y0.f3 y0.f4 y0.f5 y1 y2 = some true := by
  intro y0 y1 y2 h0 h1 h2
  obtain ⟨st, ln, big, sgn, mul, add⟩ := y0
  dsimp only
  refine ⟨200, ?_⟩
  unfold phaetonlaw15_SigTells.f
  have hw : wfB y1 := wf_of h1.2.2
  have e : (mn (y1.length : Int) 9).toNat = min y1.length 9 := by unfold mn; split <;> omega
  rw [head_true _ (by omega), Option.bind_some, Option.bind_some, if_pos (by unfold mn; split <;> omega), if_pos (by unfold mn; split <;> omega), e, List.nil_append, if_pos (by rw [List.length_nil, List.length_take]; omega)]
  have hb : wfB (y1.take (min y1.length 9)) := wf_take hw _
  have hl : (y1.take (min y1.length 9)).length ≤ 9 := by rw [List.length_take]; omega
  generalize y1.take (min y1.length 9) = b at *
  have hp := putS_len b st ln big sgn mul add y2
  have hpl : (placesS st ln big sgn mul add).length ≤ 32 := by
    cases h : rightS st ln big sgn mul add 8 with
    | false => rw [placesS_no h]; simp
    | true => rw [placesS_yes h, plS_len]; have := (rightS_iff.1 h).l32; omega
  simp only [Option.bind_some, fPut _ _ _ _ _ _ _ _ _ hb (show 50 ≤ 200 by omega), fRPut _ _ _ _ _ _ _ _ _ hb (show 90 ≤ 200 by omega), fGet _ _ _ _ _ _ _ hb, fRGet _ _ _ _ _ _ _ _ hb (show 90 ≤ 200 by omega), sig_Right.f, fRRight _ _ _ _ _ _ _ _ (show 80 ≤ 200 by omega), sig_Places.f, fRPlaces _ _ _ _ _ _ _ (show 80 ≤ 200 by omega), fMean, fRMean _ _ _ _ _ _ _ _ (show 90 ≤ 200 by omega), beq_self_eq_true, if_true]
  rw [fInts _ _ _ (by omega) (by omega), fBytes _ _ _ (by omega) (by omega)]
  simp

end Go.Proofs.Ytcgkkjimonfhbaa.Pure

/-
  What is alike is the same. No condition.
-/
import Derived.Test.YtpcabeefahldlaaGSame
namespace Go.Proofs.Ytpcabeefahldlaa.P
open Go.RowKit Go.Proofs.YtpcabeefahldlaaOwn Go.Proofs.YtpcabeefahldlaaW.PrintWords Go.Proofs.YtpcabeefahldlaaW.PrintLast Go.Proofs.YtpcabeefahldlaaW.PrintMore
set_option linter.unusedVariables false
set_option linter.unusedSimpArgs false
theorem same_frame (f : S25) : phaetonref04_Same.f f.f0 f.f1 f.f2 f.f3 f.f4 f.f0 f.f1 f.f2 f.f3 f.f4 = some true := by
  unfold phaetonref04_Same.f phaetonref01_SameBytes.f
  simp
theorem fSame (a : List S38) : phaetonref12_Same.f a a = some true := by
  have h : ∀ f : S25, sameF f f = true := by
    intro f
    have := (sameF_f f f).symm.trans (same_frame f)
    simpa using this
  unfold phaetonref12_Same.f sameFrom sameH
  simp [h]
end Go.Proofs.Ytpcabeefahldlaa.P

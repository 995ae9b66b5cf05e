/- Go functions that the laws of this seat reach, each as a Lean function, and a proof that a call of the Go code comes to its answers; written by a program (the kit's print, turned in a few places). Conditions: each theorem's own premises. -/
import Derived.Test.YtpcabeefahldlaaPx0
namespace Go.Proofs.Ytpcabeefahldlaa.P
open Go.RowKit Go.Proofs.YtpcabeefahldlaaW.PrintWords Go.Proofs.YtpcabeefahldlaaW.PrintLast Go.Proofs.YtpcabeefahldlaaW.PrintMore
attribute [local go_sem] max2_int min2_int max_two min_two max_three min_three max_four min_four   -- for this text's walks alone
set_option linter.unusedVariables false
set_option linter.unusedSimpArgs false

theorem eqA61 (d : Nat) (w : World) (x0 y0 : Bool) (x1 y1 : Int) :
  (Op.equalIn (d + 2) 61 (.agg #[.bool x0, .int .i64 x1]) (.agg #[.bool y0, .int .i64 y1])).run Try.prog w = .ok (x0 == y0 && (x1 == y1)) w := by
 refine eqA_of Try.underlying61 (by kernel_rfl) ?_
 refine eqf_cons (by rfl) (by go_simp; rfl) (by go_simp; rfl) (by go_simp) ?_
 exact eqf_last (by rfl) (by go_simp; rfl) (by go_simp; rfl) (by go_simp)
end Go.Proofs.Ytpcabeefahldlaa.P

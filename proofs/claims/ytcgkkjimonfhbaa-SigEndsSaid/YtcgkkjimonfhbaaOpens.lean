/- How the laws' parameters' types read: each struct's fields. No condition beyond the row's own. -/
import Derived.Test.YtcgkkjimonfhbaaPx0
import Derived.Test.YtcgkkjimonfhbaaOwn
namespace Go.Proofs.Ytcgkkjimonfhbaa.P
open Go.RowKit Go.Proofs.YtcgkkjimonfhbaaOwn Go.Proofs.YtcgkkjimonfhbaaW.PrintWords Go.Proofs.YtcgkkjimonfhbaaW.PrintLast
def ok23 (y : S23) : Prop := (Lit.int .i64 y.f0).wf = true ∧ (Lit.int .i64 y.f1).wf = true ∧ True ∧ True ∧ (Lit.int .i64 y.f4).wf = true ∧ (Lit.int .i64 y.f5).wf = true
theorem opens23 : Opens Try.prog 23 k23 ok23 := opens_struct Try.underlying23 (by kernel_rfl) (opensF_cons rfl (opens_int Try.underlying3 (by kernel_rfl)) (opensF_cons rfl (opens_int Try.underlying3 (by kernel_rfl)) (opensF_cons rfl (opens_bool Try.underlying4 (by kernel_rfl)) (opensF_cons rfl (opens_bool Try.underlying4 (by kernel_rfl)) (opensF_cons rfl (opens_int Try.underlying3 (by kernel_rfl)) (opensF_one rfl (opens_int Try.underlying3 (by kernel_rfl)))))))) _ (fun p => ⟨p.1, p.2.1, p.2.2.1, p.2.2.2.1, p.2.2.2.2.1, p.2.2.2.2.2⟩) (fun _ => rfl)
end Go.Proofs.Ytcgkkjimonfhbaa.P

/- How the laws' parameters' types read: each struct's fields. No condition beyond the row's own. -/
import Derived.Test.YtcbcgfeliainaaaPx0
import Derived.Test.YtcbcgfeliainaaaOwn
namespace Go.Proofs.Ytcbcgfeliainaaa.P
open Go.RowKit Go.Proofs.YtcbcgfeliainaaaOwn Go.Proofs.YtcbcgfeliainaaaW.PrintWords Go.Proofs.YtcbcgfeliainaaaW.PrintLast
def ok23 (y : S23) : Prop := True ∧ (Lit.int .i64 y.f1).wf = true ∧ (Lit.int .i64 y.f2).wf = true
theorem opens23 : Opens Try.prog 23 k23 ok23 := opens_struct Try.underlying23 (by kernel_rfl) (opensF_cons rfl (opens_bool Try.underlying4 (by kernel_rfl)) (opensF_cons rfl (opens_int Try.underlying3 (by kernel_rfl)) (opensF_one rfl (opens_int Try.underlying3 (by kernel_rfl))))) _ (fun p => ⟨p.1, p.2.1, p.2.2⟩) (fun _ => rfl)
def ok27 (y : S27) : Prop := True ∧ (Lit.int .i64 y.f1).wf = true ∧ True ∧ (Lit.int .i64 y.f3).wf = true ∧ (y.f4.length * 1 ≤ 140737488351232 ∧ y.f4.length ≤ maxLen ∧ ∀ z0 ∈ y.f4, (Lit.int .u8 z0).wf = true)
theorem opens27 : Opens Try.prog 27 k27 ok27 := opens_struct Try.underlying27 (by kernel_rfl) (opensF_cons rfl (opens_bool Try.underlying4 (by kernel_rfl)) (opensF_cons rfl (opens_int Try.underlying3 (by kernel_rfl)) (opensF_cons rfl (opens_bool Try.underlying4 (by kernel_rfl)) (opensF_cons rfl (opens_int Try.underlying3 (by kernel_rfl)) (opensF_one rfl (opens_slice (B := 1) Try.underlying25 (by kernel_rfl) (by kernel_rfl) (opens_int Try.underlying5 (by kernel_rfl)))))))) _ (fun p => ⟨p.1, p.2.1, p.2.2.1, p.2.2.2.1, p.2.2.2.2⟩) (fun _ => rfl)
end Go.Proofs.Ytcbcgfeliainaaa.P

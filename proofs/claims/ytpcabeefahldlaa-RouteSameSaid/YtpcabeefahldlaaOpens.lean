/- How the laws' parameters' types read: each struct's fields. No condition beyond the row's own. -/
import Derived.Test.YtpcabeefahldlaaPx0
import Derived.Test.YtpcabeefahldlaaOwn
namespace Go.Proofs.Ytpcabeefahldlaa.P
open Go.RowKit Go.Proofs.YtpcabeefahldlaaOwn Go.Proofs.YtpcabeefahldlaaW.PrintWords Go.Proofs.YtpcabeefahldlaaW.PrintLast
def ok43 (y : S43) : Prop := True ∧ (Lit.int .i64 y.f1).wf = true ∧ (Lit.int .i64 y.f2).wf = true
theorem opens43 : Opens Try.prog 43 k43 ok43 := opens_struct Try.underlying43 (by kernel_rfl) (opensF_cons rfl (opens_bool Try.underlying4 (by kernel_rfl)) (opensF_cons rfl (opens_int Try.underlying3 (by kernel_rfl)) (opensF_one rfl (opens_int Try.underlying3 (by kernel_rfl))))) _ (fun p => ⟨p.1, p.2.1, p.2.2⟩) (fun _ => rfl)
def ok45 (y : S45) : Prop := (Lit.int .i64 y.f0).wf = true ∧ (Lit.int .i64 y.f1).wf = true ∧ ok43 y.f2 ∧ (Lit.int .i64 y.f3).wf = true
theorem opens45 : Opens Try.prog 45 k45 ok45 := opens_struct Try.underlying45 (by kernel_rfl) (opensF_cons rfl (opens_int Try.underlying3 (by kernel_rfl)) (opensF_cons rfl (opens_int Try.underlying3 (by kernel_rfl)) (opensF_cons rfl opens43 (opensF_one rfl (opens_int Try.underlying3 (by kernel_rfl)))))) _ (fun p => ⟨p.1, p.2.1, p.2.2.1, p.2.2.2⟩) (fun _ => rfl)
def ok25 (y : S25) : Prop := True ∧ (Lit.int .i64 y.f1).wf = true ∧ True ∧ (Lit.int .i64 y.f3).wf = true ∧ (y.f4.length * 1 ≤ 140737488351232 ∧ y.f4.length ≤ maxLen ∧ ∀ z0 ∈ y.f4, (Lit.int .u8 z0).wf = true)
theorem opens25 : Opens Try.prog 25 k25 ok25 := opens_struct Try.underlying25 (by kernel_rfl) (opensF_cons rfl (opens_bool Try.underlying4 (by kernel_rfl)) (opensF_cons rfl (opens_int Try.underlying3 (by kernel_rfl)) (opensF_cons rfl (opens_bool Try.underlying4 (by kernel_rfl)) (opensF_cons rfl (opens_int Try.underlying3 (by kernel_rfl)) (opensF_one rfl (opens_slice (B := 1) Try.underlying23 (by kernel_rfl) (by kernel_rfl) (opens_int Try.underlying5 (by kernel_rfl)))))))) _ (fun p => ⟨p.1, p.2.1, p.2.2.1, p.2.2.2.1, p.2.2.2.2⟩) (fun _ => rfl)
structure S27 where
  f0 : Int
  f1 : S25
def k27 : Kd S27 := Kd.iso (Kd.pair (Kd.int .i64) k25) (fun x : S27 => (x.f0, x.f1))
theorem k27_open {w : World} {x : S27} {cs : List Value} (h : k27.K w x cs) : ∃ A5 c5, cs = [.int .i64 x.f0, .bool x.f1.f0, .int .i64 x.f1.f1, .bool x.f1.f2, .int .i64 x.f1.f3, .slice A5 x.f1.f4.length c5] ∧ x.f1.f4.length ≤ c5 ∧ (Kd.int .u8).C w A5 x.f1.f4.length x.f1.f4 := by
  obtain ⟨_, _, rfl, rfl, s1⟩ := h
  obtain ⟨A5, c5, rfl, h5, r5⟩ := k25_open s1
  exact ⟨A5, c5, rfl, h5, r5⟩
def ok27 (y : S27) : Prop := (Lit.int .i64 y.f0).wf = true ∧ ok25 y.f1
theorem opens27 : Opens Try.prog 27 k27 ok27 := opens_struct Try.underlying27 (by kernel_rfl) (opensF_cons rfl (opens_int Try.underlying3 (by kernel_rfl)) (opensF_one rfl opens25)) _ (fun p => ⟨p.1, p.2⟩) (fun _ => rfl)
end Go.Proofs.Ytpcabeefahldlaa.P

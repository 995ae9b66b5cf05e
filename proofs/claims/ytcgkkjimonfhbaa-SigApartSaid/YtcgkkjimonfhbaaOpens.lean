/- How the laws' parameters' types read: each struct's fields. No condition beyond the row's own. -/
import Derived.Test.YtcgkkjimonfhbaaPx0
import Derived.Test.YtcgkkjimonfhbaaOwn
import Derived.Test.YtcgkkjimonfhbaaArr2
namespace Go.Proofs.Ytcgkkjimonfhbaa.P
open Go.RowKit Go.Proofs.YtcgkkjimonfhbaaOwn Go.Proofs.YtcgkkjimonfhbaaW.PrintWords Go.Proofs.YtcgkkjimonfhbaaW.PrintLast
def ok23 (y : S23) : Prop := (Lit.int .i64 y.f0).wf = true ∧ (Lit.int .i64 y.f1).wf = true ∧ True ∧ True ∧ (Lit.int .i64 y.f4).wf = true ∧ (Lit.int .i64 y.f5).wf = true
theorem opens23 : Opens Try.prog 23 k23 ok23 := opens_struct Try.underlying23 (by kernel_rfl) (opensF_cons rfl (opens_int Try.underlying3 (by kernel_rfl)) (opensF_cons rfl (opens_int Try.underlying3 (by kernel_rfl)) (opensF_cons rfl (opens_bool Try.underlying4 (by kernel_rfl)) (opensF_cons rfl (opens_bool Try.underlying4 (by kernel_rfl)) (opensF_cons rfl (opens_int Try.underlying3 (by kernel_rfl)) (opensF_one rfl (opens_int Try.underlying3 (by kernel_rfl)))))))) _ (fun p => ⟨p.1, p.2.1, p.2.2.1, p.2.2.2.1, p.2.2.2.2.1, p.2.2.2.2.2⟩) (fun _ => rfl)
structure S39 where
  f0 : S23
  f1 : S23
def k39 : Kd S39 := Kd.iso (Kd.pair k23 k23) (fun x : S39 => (x.f0, x.f1))
theorem k39_open {w : World} {x : S39} {cs : List Value} (h : k39.K w x cs) : cs = [.int .i64 x.f0.f0, .int .i64 x.f0.f1, .bool x.f0.f2, .bool x.f0.f3, .int .i64 x.f0.f4, .int .i64 x.f0.f5, .int .i64 x.f1.f0, .int .i64 x.f1.f1, .bool x.f1.f2, .bool x.f1.f3, .int .i64 x.f1.f4, .int .i64 x.f1.f5] := by
  obtain ⟨_, _, rfl, s0, s1⟩ := h
  obtain rfl := k23_open s0
  obtain rfl := k23_open s1
  exact rfl
def ok39 (y : S39) : Prop := ok23 y.f0 ∧ ok23 y.f1
theorem opens39 : Opens Try.prog 39 k39 ok39 := opens_array2 Try.underlying39 (by kernel_rfl) opens23 _ (fun p => ⟨p.1, p.2⟩) (fun _ => rfl)
structure S40 where
  f0 : Int
  f1 : Int
def k40 : Kd S40 := Kd.iso (Kd.pair (Kd.int .i64) (Kd.int .i64)) (fun x : S40 => (x.f0, x.f1))
theorem k40_open {w : World} {x : S40} {cs : List Value} (h : k40.K w x cs) : cs = [.int .i64 x.f0, .int .i64 x.f1] := by
  obtain ⟨_, _, rfl, rfl, rfl⟩ := h
  exact rfl
def ok40 (y : S40) : Prop := (Lit.int .i64 y.f0).wf = true ∧ (Lit.int .i64 y.f1).wf = true
theorem opens40 : Opens Try.prog 40 k40 ok40 := opens_array2 Try.underlying40 (by kernel_rfl) (opens_int Try.underlying3 (by kernel_rfl)) _ (fun p => ⟨p.1, p.2⟩) (fun _ => rfl)
end Go.Proofs.Ytcgkkjimonfhbaa.P

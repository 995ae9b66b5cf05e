/-
  How the laws' arguments read.
-/
import Derived.Test.YtcpfkcipnkeokaaSX
namespace Go.Proofs.YtcpfkcipnkeokaaFw
open Go Go.Proofs
set_option linter.unusedVariables false
set_option linter.unusedSimpArgs false

theorem I64_wf {x : Int} (h : (Lit.int .i64 x).wf = true) : I64 x := by
  simpa [Lit.wf, IntKind.min, IntKind.max, IntKind.signed, IntKind.bits, I64] using h
theorem u8_wf {x : Int} (h : (Lit.int .u8 x).wf = true) : 0 ≤ x ∧ x ≤ 255 := by
  simpa [Lit.wf, IntKind.min, IntKind.max, IntKind.signed, IntKind.bits] using h
def Filter.i64 (e : Filter) : Prop := I64 e.mask ∧ I64 e.mat
theorem opens66 : Opens Try.prog 66 3 encFilter Filter.i64 :=
  (opens_struct Try.underlying66 (by kernel_rfl) (opensF_cons rfl (opens_bool Try.underlying4 (by kernel_rfl)) (opensF_cons rfl (opens_int Try.underlying3 (by kernel_rfl)) (opensF_one rfl (opens_int Try.underlying3 (by kernel_rfl))))) (fun e : Filter => (e.ext, e.mask, e.mat)) (fun p => ⟨p.1, p.2.1, p.2.2⟩) (fun _ => rfl)).conv (fun _ => rfl) fun y h => ⟨I64_wf h.2.1, I64_wf h.2.2⟩
def Route.wf (r : Route) : Prop := I64 r.src ∧ I64 r.to ∧ r.take.i64 ∧ I64 r.new
theorem opens68 : Opens Try.prog 68 6 encRoute Route.wf :=
  (opens_struct Try.underlying68 (by kernel_rfl) (opensF_cons rfl (opens_int Try.underlying3 (by kernel_rfl)) (opensF_cons rfl (opens_int Try.underlying3 (by kernel_rfl)) (opensF_cons rfl opens66 (opensF_one rfl (opens_int Try.underlying3 (by kernel_rfl)))))) (fun r : Route => (r.src, r.to, r.take, r.new)) (fun p => ⟨p.1, p.2.1, p.2.2.1, p.2.2.2⟩) (fun _ => rfl)).conv (fun _ => rfl) fun y h => ⟨I64_wf h.1, I64_wf h.2.1, h.2.2.1, I64_wf h.2.2.2⟩
theorem opens22 : Opens Try.prog 22 1 (fun l : List Route => [.sl false 6 (l.map encRoute)]) (fun l => l.length * 48 ≤ 140737488351232 ∧ l.length ≤ 140737488351232 ∧ ∀ r ∈ l, r.wf) :=
  opens_slice (B := 48) Try.underlying22 (by kernel_rfl) (by kernel_rfl) (by decide) (by decide) opens68
def Frame.wf (f : Frame) : Prop := I64 f.id ∧ I64 f.len ∧ f.data.length ≤ 140737488351232 ∧ ∀ b ∈ f.data, 0 ≤ b ∧ b ≤ 255
theorem opens36 : Opens Try.prog 36 1 (fun l : List Int => [.sl false 1 (l.map encB)]) (fun l => l.length ≤ 140737488351232 ∧ ∀ b ∈ l, 0 ≤ b ∧ b ≤ 255) :=
  (opens_slice (B := 1) Try.underlying36 (by kernel_rfl) (by kernel_rfl) (by decide) (by decide) (opens_int Try.underlying5 (by kernel_rfl))).conv (fun _ => rfl) fun y h => ⟨h.2.1, fun b hb => u8_wf (h.2.2 b hb)⟩
theorem opens38 : Opens Try.prog 38 5 (encFrame false) Frame.wf :=
  (opens_struct Try.underlying38 (by kernel_rfl) (opensF_cons rfl (opens_bool Try.underlying4 (by kernel_rfl)) (opensF_cons rfl (opens_int Try.underlying3 (by kernel_rfl)) (opensF_cons rfl (opens_bool Try.underlying4 (by kernel_rfl)) (opensF_cons rfl (opens_int Try.underlying3 (by kernel_rfl)) (opensF_one rfl opens36)))))
    (fun f : Frame => (f.ext, f.id, f.rem, f.len, f.data)) (fun p => ⟨p.1, p.2.1, p.2.2.1, p.2.2.2.1, p.2.2.2.2⟩) (fun _ => rfl)).conv (fun _ => rfl) fun y h => ⟨I64_wf h.2.1, I64_wf h.2.2.2.1, h.2.2.2.2.1, h.2.2.2.2.2⟩
/-- How many buses, and how much room. -/
structure Made where
  buses : Int
  room : Int
def encMade (x : Made) : List PV := [.int .i64 x.buses, .int .i64 x.room]
theorem opens24 : Opens Try.prog 24 2 encMade (fun x => I64 x.buses ∧ I64 x.room) :=
  (opens_struct Try.underlying24 (by kernel_rfl) (opensF_cons rfl (opens_int Try.underlying3 (by kernel_rfl)) (opensF_one rfl (opens_int Try.underlying3 (by kernel_rfl)))) (fun x : Made => (x.buses, x.room)) (fun p => ⟨p.1, p.2⟩) (fun _ => rfl)).conv (fun _ => rfl) fun y h => ⟨I64_wf h.1, I64_wf h.2⟩
/-- A deed: one that is done, or a frame that goes in. -/
structure Deed where
  done : Bool
  bus : Int
  f : Frame
def encDeed (x : Deed) : List PV := .bool x.done :: .int .i64 x.bus :: encFrame false x.f
theorem opens40 : Opens Try.prog 40 7 encDeed (fun x => I64 x.bus ∧ x.f.wf) :=
  (opens_struct Try.underlying40 (by kernel_rfl) (opensF_cons rfl (opens_bool Try.underlying4 (by kernel_rfl)) (opensF_cons rfl (opens_int Try.underlying3 (by kernel_rfl)) (opensF_one rfl opens38))) (fun x : Deed => (x.done, x.bus, x.f)) (fun p => ⟨p.1, p.2.1, p.2.2⟩) (fun _ => rfl)).conv (fun _ => rfl) fun y h => ⟨I64_wf h.2.1, h.2.2⟩
theorem opens25 : Opens Try.prog 25 1 (fun l : List Deed => [.sl false 7 (l.map encDeed)]) (fun l => l.length * 72 ≤ 140737488351232 ∧ l.length ≤ 140737488351232 ∧ ∀ x ∈ l, I64 x.bus ∧ x.f.wf) :=
  opens_slice (B := 72) Try.underlying25 (by kernel_rfl) (by kernel_rfl) (by decide) (by decide) opens40
end Go.Proofs.YtcpfkcipnkeokaaFw

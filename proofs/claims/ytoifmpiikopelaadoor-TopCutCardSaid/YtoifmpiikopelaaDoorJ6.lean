import Derived.Test.YtoifmpiikopelaaDoorJ5
/-
  How the laws' arguments read.
-/
namespace Go.Proofs.YtoifmpiikopelaaDoorFw
open Go Go.Proofs
set_option linter.unusedVariables false
set_option linter.unusedSimpArgs false

theorem I64_wf {x : Int} (h : (Lit.int .i64 x).wf = true) : I64 x := by
  simpa [Lit.wf, IntKind.min, IntKind.max, IntKind.signed, IntKind.bits, I64] using h
theorem u8_wf {x : Int} (h : (Lit.int .u8 x).wf = true) : 0 ≤ x ∧ x ≤ 255 := by
  simpa [Lit.wf, IntKind.min, IntKind.max, IntKind.signed, IntKind.bits] using h
theorem u16_wf {x : Int} (h : (Lit.int .u16 x).wf = true) : 0 ≤ x ∧ x ≤ 65535 := by
  simpa [Lit.wf, IntKind.min, IntKind.max, IntKind.signed, IntKind.bits] using h
theorem u32_wf {x : Int} (h : (Lit.int .u32 x).wf = true) : 0 ≤ x ∧ x ≤ 4294967295 := by
  simpa [Lit.wf, IntKind.min, IntKind.max, IntKind.signed, IntKind.bits] using h
theorem opens3 : Opens Tryd.prog 3 1 (fun n : Int => [.int .i64 n]) I64 := (opens_int Tryd.underlying3 (by kernel_rfl)).conv (fun _ => rfl) fun y h => I64_wf h
theorem opens4 : Opens Tryd.prog 4 1 (fun b : Bool => [.bool b]) (fun _ => True) := opens_bool Tryd.underlying4 (by kernel_rfl)
theorem opens5 : Opens Tryd.prog 5 1 (fun n : Int => [.int .u8 n]) byte := (opens_int Tryd.underlying5 (by kernel_rfl)).conv (fun _ => rfl) fun y h => u8_wf h
theorem opens56 : Opens Tryd.prog 56 1 (fun n : Int => [.int .u16 n]) (fun n => 0 ≤ n ∧ n ≤ 65535) := (opens_int Tryd.underlying56 (by kernel_rfl)).conv (fun _ => rfl) fun y h => u16_wf h
theorem opens25 : Opens Tryd.prog 25 1 (fun n : Int => [.int .u32 n]) (fun n => 0 ≤ n ∧ n ≤ 4294967295) := (opens_int Tryd.underlying25 (by kernel_rfl)).conv (fun _ => rfl) fun y h => u32_wf h
theorem opens22 : Opens Tryd.prog 22 1 (fun l : List Int => [.sl false 1 (l.map encB)]) (fun l => l.length ≤ 140737488351232 ∧ ∀ b ∈ l, byte b) :=
  (opens_slice (B := 1) Tryd.underlying22 (by kernel_rfl) (by kernel_rfl) (by decide) (by decide) opens5).conv (fun _ => rfl) fun y h => ⟨h.2.1, h.2.2⟩
theorem opens28 : Opens Tryd.prog 28 1 (fun l : List (List Int) => [.sl false 1 (l.map encP)]) (fun l => l.length ≤ 140737488351232 ∧ ∀ p ∈ l, p.length ≤ 140737488351232 ∧ ∀ b ∈ p, byte b) :=
  (opens_slice (B := 24) Tryd.underlying28 (by kernel_rfl) (by kernel_rfl) (by decide) (by decide) opens22).conv (fun _ => rfl) fun y h => ⟨h.2.1, h.2.2⟩
def Img.wf (m : Img) : Prop := I64 m.ver ∧ m.body.length ≤ 140737488351232 ∧ ∀ b ∈ m.body, byte b
theorem opens24 : Opens Tryd.prog 24 2 encImg Img.wf :=
  (opens_struct Tryd.underlying24 (by kernel_rfl) (opensF_cons rfl opens3 (opensF_one rfl opens22)) (fun x : Img => (x.ver, x.body)) (fun p => ⟨p.1, p.2⟩) (fun _ => rfl)).conv (fun _ => rfl) fun y h => ⟨h.1, h.2⟩
end Go.Proofs.YtoifmpiikopelaaDoorFw

/-
  The law TopCut, of arguments as they read.
-/
namespace Go.Proofs.YtoifmpiikopelaaDoorFw
open Go Go.Proofs
set_option linter.unusedVariables false
set_option linter.unusedSimpArgs false

theorem opens74 : Opens Tryd.prog 74 1 (fun l : List Int => [.sl false 1 (l.map encC)]) (fun l => l.length ≤ 140737488351232 ∧ ∀ b ∈ l, 0 ≤ b ∧ b ≤ 65535) :=
  (opens_slice (B := 2) Tryd.underlying74 (by kernel_rfl) (by kernel_rfl) (by decide) (by decide) opens56).conv (fun _ => rfl) fun y h => ⟨h.2.1, h.2.2⟩
theorem lawTopCutA (a b : List Int) (key : Int) (cuts : List Int) (ha : a.length ≤ 140737488351232 ∧ ∀ x ∈ a, byte x) (hb : b.length ≤ 140737488351232 ∧ ∀ x ∈ b, byte x) (hk : 0 ≤ key ∧ key ≤ 4294967295) (hc : cuts.length ≤ 140737488351232 ∧ ∀ x ∈ cuts, 0 ≤ x ∧ x ≤ 65535) :
    FnS Tryd.prog 8 [.sl false 1 (a.map encB), .sl false 1 (b.map encB), .int .u32 key, .sl false 1 (cuts.map encC)] [] (.bool true) [] := lawTopCut a b key cuts ha.2 hb.2 hk hc.2
end Go.Proofs.YtoifmpiikopelaaDoorFw

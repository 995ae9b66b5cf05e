/-
  No cell of these rows narrows 'for every input' (looked for: loops, veiled, ifaces, maps, wideKeys, modest, calm, conditions, laid).
  DERIVED. THE GIVEN ROWS OF THIS SEAT. 7 by the template 'for every input the law returns true; each argument reads behind the call as it read before'; 0 by the template 'total and deterministic' (their statements: YtahkpghgjjlgdaaTotals.lean).
  GIVEN WITH THE SEED: the statements are not yours to turn. If you find one false, say at which input.
  Laid BY PROGRAM, IN A SANDBOX (cutbox-rows.mjs): the forced cells as the released guide's own fill.sh prints them over the translation 5c5e36c7bc8f319a… (all of the seat's roots in one cut). By AI agents, Wed Nov 11 2026. No macro, syntax, notation, axiom, sorry.
-/
import Derived.Test.YtahkpghgjjlgdaaChecked
import GoSem.Claim
import GoSem.ClaimJoined
import GoSem.ClaimMapViews
import Derived.JoinedTies
import Derived.KernelRfl
namespace Go.Proofs.Ytahkpghgjjlgdaa
/- THE CELL 'sum', in the pinned program and in every row, IS THE sha256 OF THE DUMP (.gsa) THAT YtahkpghgjjlgdaaProg.lean LOADS. Nothing in Lean hashes anything: it is a label: what it is worth is what the hold of that sum in a sandbox is worth. -/
noncomputable def Try.pinned : Pinned := { name := "ytahkpghgjjlgdaa", sum := "5c5e36c7bc8f319a846548d0bafffe2dc99f80d81cf3668656d710895f12f497", checked := Try.checked }
namespace Rows
def none {H : Type} : Left H := { results := [], args := [] }

/-- 'phaetonlaw11.RespTells': WHATEVER THE INPUT: true; the input reads as it did. -/
def respTellsSpec : ChangeSpec := { name := "respTells", fn := fun _ => fun
  | [d1, d2] => { results := [.lit (.bool true)], args := [d1, d2] }
  | _ => none }
def respTellsRow : OpenClaim := { program := "ytahkpghgjjlgdaa", sum := "5c5e36c7bc8f319a846548d0bafffe2dc99f80d81cf3668656d710895f12f497", func := "phaeton/phaetonlaw11.RespTells", spec := "respTells", unfollowed := true, recurses := true, apart := false }
def RespTellsSaid : Prop := respTellsRow.holds Try.pinned (OpenSpec.ofChange respTellsSpec)

/-- ITS FALSE NEIGHBOUR: 'it returns false'. Refute it at one input. -/
def respTellsWrong : ChangeSpec := { name := "respTells", fn := fun _ => fun
  | [d1, d2] => { results := [.lit (.bool false)], args := [d1, d2] }
  | _ => none }
def RespTellsWrongFalsely : Prop := respTellsRow.holds Try.pinned (OpenSpec.ofChange respTellsWrong)

/-- 'phaetonlaw11.RespNever': WHATEVER THE INPUT: true; the input reads as it did. -/
def respNeverSpec : ChangeSpec := { name := "respNever", fn := fun _ => fun
  | [d1, d2] => { results := [.lit (.bool true)], args := [d1, d2] }
  | _ => none }
def respNeverRow : OpenClaim := { program := "ytahkpghgjjlgdaa", sum := "5c5e36c7bc8f319a846548d0bafffe2dc99f80d81cf3668656d710895f12f497", func := "phaeton/phaetonlaw11.RespNever", spec := "respNever", unfollowed := true, recurses := true, apart := false }
def RespNeverSaid : Prop := respNeverRow.holds Try.pinned (OpenSpec.ofChange respNeverSpec)

/-- ITS FALSE NEIGHBOUR: 'it returns false'. Refute it at one input. -/
def respNeverWrong : ChangeSpec := { name := "respNever", fn := fun _ => fun
  | [d1, d2] => { results := [.lit (.bool false)], args := [d1, d2] }
  | _ => none }
def RespNeverWrongFalsely : Prop := respNeverRow.holds Try.pinned (OpenSpec.ofChange respNeverWrong)

/-- 'phaetonlaw11.RespMore': WHATEVER THE INPUT: true; the input reads as it did. -/
def respMoreSpec : ChangeSpec := { name := "respMore", fn := fun _ => fun
  | [d1, d2, d3] => { results := [.lit (.bool true)], args := [d1, d2, d3] }
  | _ => none }
def respMoreRow : OpenClaim := { program := "ytahkpghgjjlgdaa", sum := "5c5e36c7bc8f319a846548d0bafffe2dc99f80d81cf3668656d710895f12f497", func := "phaeton/phaetonlaw11.RespMore", spec := "respMore", unfollowed := true, recurses := true, apart := false }
def RespMoreSaid : Prop := respMoreRow.holds Try.pinned (OpenSpec.ofChange respMoreSpec)

/-- ITS FALSE NEIGHBOUR: 'it returns false'. Refute it at one input. -/
def respMoreWrong : ChangeSpec := { name := "respMore", fn := fun _ => fun
  | [d1, d2, d3] => { results := [.lit (.bool false)], args := [d1, d2, d3] }
  | _ => none }
def RespMoreWrongFalsely : Prop := respMoreRow.holds Try.pinned (OpenSpec.ofChange respMoreWrong)

/-- 'phaetonlaw11.RespOrder': WHATEVER THE INPUT: true; the input reads as it did. -/
def respOrderSpec : ChangeSpec := { name := "respOrder", fn := fun _ => fun
  | [d1, d2] => { results := [.lit (.bool true)], args := [d1, d2] }
  | _ => none }
def respOrderRow : OpenClaim := { program := "ytahkpghgjjlgdaa", sum := "5c5e36c7bc8f319a846548d0bafffe2dc99f80d81cf3668656d710895f12f497", func := "phaeton/phaetonlaw11.RespOrder", spec := "respOrder", unfollowed := true, recurses := true, apart := false }
def RespOrderSaid : Prop := respOrderRow.holds Try.pinned (OpenSpec.ofChange respOrderSpec)

/-- ITS FALSE NEIGHBOUR: 'it returns false'. Refute it at one input. -/
def respOrderWrong : ChangeSpec := { name := "respOrder", fn := fun _ => fun
  | [d1, d2] => { results := [.lit (.bool false)], args := [d1, d2] }
  | _ => none }
def RespOrderWrongFalsely : Prop := respOrderRow.holds Try.pinned (OpenSpec.ofChange respOrderWrong)

/-- 'phaetonlaw11.RespBehind': WHATEVER THE INPUT: true; the input reads as it did. -/
def respBehindSpec : ChangeSpec := { name := "respBehind", fn := fun _ => fun
  | [d1, d2] => { results := [.lit (.bool true)], args := [d1, d2] }
  | _ => none }
def respBehindRow : OpenClaim := { program := "ytahkpghgjjlgdaa", sum := "5c5e36c7bc8f319a846548d0bafffe2dc99f80d81cf3668656d710895f12f497", func := "phaeton/phaetonlaw11.RespBehind", spec := "respBehind", unfollowed := true, recurses := true, apart := false }
def RespBehindSaid : Prop := respBehindRow.holds Try.pinned (OpenSpec.ofChange respBehindSpec)

/-- ITS FALSE NEIGHBOUR: 'it returns false'. Refute it at one input. -/
def respBehindWrong : ChangeSpec := { name := "respBehind", fn := fun _ => fun
  | [d1, d2] => { results := [.lit (.bool false)], args := [d1, d2] }
  | _ => none }
def RespBehindWrongFalsely : Prop := respBehindRow.holds Try.pinned (OpenSpec.ofChange respBehindWrong)

/-- 'phaetonlaw11.RespLeast': WHATEVER THE INPUT: true; the input reads as it did. -/
def respLeastSpec : ChangeSpec := { name := "respLeast", fn := fun _ => fun
  | [d] => { results := [.lit (.bool true)], args := [d] }
  | _ => none }
def respLeastRow : OpenClaim := { program := "ytahkpghgjjlgdaa", sum := "5c5e36c7bc8f319a846548d0bafffe2dc99f80d81cf3668656d710895f12f497", func := "phaeton/phaetonlaw11.RespLeast", spec := "respLeast", unfollowed := true, recurses := true, apart := false }
def RespLeastSaid : Prop := respLeastRow.holds Try.pinned (OpenSpec.ofChange respLeastSpec)

/-- ITS FALSE NEIGHBOUR: 'it returns false'. Refute it at one input. -/
def respLeastWrong : ChangeSpec := { name := "respLeast", fn := fun _ => fun
  | [d] => { results := [.lit (.bool false)], args := [d] }
  | _ => none }
def RespLeastWrongFalsely : Prop := respLeastRow.holds Try.pinned (OpenSpec.ofChange respLeastWrong)

/-- 'phaetonlaw11.RespEach': WHATEVER THE INPUT: true; the input reads as it did. -/
def respEachSpec : ChangeSpec := { name := "respEach", fn := fun _ => fun
  | [d1, d2, d3] => { results := [.lit (.bool true)], args := [d1, d2, d3] }
  | _ => none }
def respEachRow : OpenClaim := { program := "ytahkpghgjjlgdaa", sum := "5c5e36c7bc8f319a846548d0bafffe2dc99f80d81cf3668656d710895f12f497", func := "phaeton/phaetonlaw11.RespEach", spec := "respEach", unfollowed := true, recurses := true, apart := false }
def RespEachSaid : Prop := respEachRow.holds Try.pinned (OpenSpec.ofChange respEachSpec)

/-- ITS FALSE NEIGHBOUR: 'it returns false'. Refute it at one input. -/
def respEachWrong : ChangeSpec := { name := "respEach", fn := fun _ => fun
  | [d1, d2, d3] => { results := [.lit (.bool false)], args := [d1, d2, d3] }
  | _ => none }
def RespEachWrongFalsely : Prop := respEachRow.holds Try.pinned (OpenSpec.ofChange respEachWrong)

/- THE SECOND FORM. 'bulk': how many values and letters a reading holds, each counted each time it is reached (what is shared counts as often as it is met; a slice's spare places count too). A statement '..UptoSaid' is the law's where the arguments, and the package variables that the reading takes, are together of bulk at most 1048576: NARROWER than '..Said'. Prove '..Said' where nothing that the law and all that it calls make is longer than what came in: it says more and counts as full. Else prove '..UptoSaid'. A law counts once. -/
mutual
def uptoBulk {H : Type} : DataW H → Nat
  | .lit (.string bytes) => bytes.length + 1
  | .lit _ => 1
  | .nil => 1
  | .ptr d => uptoBulk d + 1
  | .slice elems spare => uptoBulkAll elems + uptoBulkAll spare + 1
  | .agg parts => uptoBulkAll parts + 1
  | .iface _ d => uptoBulk d + 1
  | .map entries => uptoBulkEntries entries + 1
  | .held _ => 1
def uptoBulkAll {H : Type} : List (DataW H) → Nat
  | [] => 0
  | d :: r => uptoBulk d + uptoBulkAll r
def uptoBulkEntries {H : Type} : List (Lit × DataW H) → Nat
  | [] => 0
  | x :: r => uptoBulkEntry x + uptoBulkEntries r
def uptoBulkEntry {H : Type} : Lit × DataW H → Nat
  | (.string bytes, d) => bytes.length + uptoBulk d + 1
  | (_, d) => uptoBulk d + 1
 end
def uptoSmall : (H : Type) → List (DataW H) → Bool := fun _ ds => decide (uptoBulkAll ds ≤ 1048576)
def OpenSpec.upto (s : _root_.Go.ChangeSpec) : _root_.Go.OpenSpec := { _root_.Go.OpenSpec.ofChange s with cond := some uptoSmall }

/-- 'phaetonlaw11.RespTells', WHERE WHAT IT READS IS OF BULK AT MOST 1048576: true; the input reads as it did. -/
def respTellsUptoRow : OpenClaim := { program := "ytahkpghgjjlgdaa", sum := "5c5e36c7bc8f319a846548d0bafffe2dc99f80d81cf3668656d710895f12f497", func := "phaeton/phaetonlaw11.RespTells", spec := "respTells", unfollowed := true, recurses := true, apart := false, narrowed := true }
def RespTellsUptoSaid : Prop := respTellsUptoRow.holds Try.pinned (OpenSpec.upto respTellsSpec)

/-- 'phaetonlaw11.RespNever', WHERE WHAT IT READS IS OF BULK AT MOST 1048576: true; the input reads as it did. -/
def respNeverUptoRow : OpenClaim := { program := "ytahkpghgjjlgdaa", sum := "5c5e36c7bc8f319a846548d0bafffe2dc99f80d81cf3668656d710895f12f497", func := "phaeton/phaetonlaw11.RespNever", spec := "respNever", unfollowed := true, recurses := true, apart := false, narrowed := true }
def RespNeverUptoSaid : Prop := respNeverUptoRow.holds Try.pinned (OpenSpec.upto respNeverSpec)

/-- 'phaetonlaw11.RespMore', WHERE WHAT IT READS IS OF BULK AT MOST 1048576: true; the input reads as it did. -/
def respMoreUptoRow : OpenClaim := { program := "ytahkpghgjjlgdaa", sum := "5c5e36c7bc8f319a846548d0bafffe2dc99f80d81cf3668656d710895f12f497", func := "phaeton/phaetonlaw11.RespMore", spec := "respMore", unfollowed := true, recurses := true, apart := false, narrowed := true }
def RespMoreUptoSaid : Prop := respMoreUptoRow.holds Try.pinned (OpenSpec.upto respMoreSpec)

/-- 'phaetonlaw11.RespOrder', WHERE WHAT IT READS IS OF BULK AT MOST 1048576: true; the input reads as it did. -/
def respOrderUptoRow : OpenClaim := { program := "ytahkpghgjjlgdaa", sum := "5c5e36c7bc8f319a846548d0bafffe2dc99f80d81cf3668656d710895f12f497", func := "phaeton/phaetonlaw11.RespOrder", spec := "respOrder", unfollowed := true, recurses := true, apart := false, narrowed := true }
def RespOrderUptoSaid : Prop := respOrderUptoRow.holds Try.pinned (OpenSpec.upto respOrderSpec)

/-- 'phaetonlaw11.RespBehind', WHERE WHAT IT READS IS OF BULK AT MOST 1048576: true; the input reads as it did. -/
def respBehindUptoRow : OpenClaim := { program := "ytahkpghgjjlgdaa", sum := "5c5e36c7bc8f319a846548d0bafffe2dc99f80d81cf3668656d710895f12f497", func := "phaeton/phaetonlaw11.RespBehind", spec := "respBehind", unfollowed := true, recurses := true, apart := false, narrowed := true }
def RespBehindUptoSaid : Prop := respBehindUptoRow.holds Try.pinned (OpenSpec.upto respBehindSpec)

/-- 'phaetonlaw11.RespLeast', WHERE WHAT IT READS IS OF BULK AT MOST 1048576: true; the input reads as it did. -/
def respLeastUptoRow : OpenClaim := { program := "ytahkpghgjjlgdaa", sum := "5c5e36c7bc8f319a846548d0bafffe2dc99f80d81cf3668656d710895f12f497", func := "phaeton/phaetonlaw11.RespLeast", spec := "respLeast", unfollowed := true, recurses := true, apart := false, narrowed := true }
def RespLeastUptoSaid : Prop := respLeastUptoRow.holds Try.pinned (OpenSpec.upto respLeastSpec)

/-- 'phaetonlaw11.RespEach', WHERE WHAT IT READS IS OF BULK AT MOST 1048576: true; the input reads as it did. -/
def respEachUptoRow : OpenClaim := { program := "ytahkpghgjjlgdaa", sum := "5c5e36c7bc8f319a846548d0bafffe2dc99f80d81cf3668656d710895f12f497", func := "phaeton/phaetonlaw11.RespEach", spec := "respEach", unfollowed := true, recurses := true, apart := false, narrowed := true }
def RespEachUptoSaid : Prop := respEachUptoRow.holds Try.pinned (OpenSpec.upto respEachSpec)

end Rows
end Go.Proofs.Ytahkpghgjjlgdaa

/-
  No cell of these rows narrows 'for every input' (looked for: loops, veiled, ifaces, maps, wideKeys, modest, calm, conditions, laid).
  DERIVED. THE GIVEN ROWS OF THIS SEAT. 6 by the template 'for every input the law returns true; each argument reads behind the call as it read before'; 0 by the template 'total and deterministic' (their statements: YtihippjbbcpggaaTotals.lean).
  GIVEN WITH THE SEED: the statements are not yours to turn. If you find one false, say at which input.
  Laid BY PROGRAM, IN A SANDBOX (cutbox-rows.mjs): the forced cells as the released guide's own fill.sh prints them over the translation 4483f8833c3ba65c… (all of the seat's roots in one cut). By AI agents, Wed Nov 11 2026. No macro, syntax, notation, axiom, sorry.
-/
import Derived.Test.YtihippjbbcpggaaChecked
import GoSem.Claim
import GoSem.ClaimJoined
import GoSem.ClaimMapViews
import Derived.JoinedTies
import Derived.KernelRfl
namespace Go.Proofs.Ytihippjbbcpggaa
/- THE CELL 'sum', in the pinned program and in every row, IS THE sha256 OF THE DUMP (.gsa) THAT YtihippjbbcpggaaProg.lean LOADS. Nothing in Lean hashes anything: it is a label: what it is worth is what the hold of that sum in a sandbox is worth. -/
noncomputable def Try.pinned : Pinned := { name := "ytihippjbbcpggaa", sum := "4483f8833c3ba65cd02a24ad077b3c1faa99144341c815a364b1c7973930e9c3", checked := Try.checked }
namespace Rows
def none {H : Type} : Left H := { results := [], args := [] }

/-- 'phaetonlaw25.FlashTells': WHATEVER THE INPUT: true; the input reads as it did. -/
def flashTellsSpec : ChangeSpec := { name := "flashTells", fn := fun _ => fun
  | [d1, d2, d3, d4, d5, d6, d7] => { results := [.lit (.bool true)], args := [d1, d2, d3, d4, d5, d6, d7] }
  | _ => none }
def flashTellsRow : OpenClaim := { program := "ytihippjbbcpggaa", sum := "4483f8833c3ba65cd02a24ad077b3c1faa99144341c815a364b1c7973930e9c3", func := "phaeton/phaetonlaw25.FlashTells", spec := "flashTells", inPlace := ["internal/bytealg.MakeNoZero"], unfollowed := true, recurses := true, apart := false }
def FlashTellsSaid : Prop := flashTellsRow.holds Try.pinned (OpenSpec.ofChange flashTellsSpec)

/-- ITS FALSE NEIGHBOUR: 'it returns false'. Refute it at one input. -/
def flashTellsWrong : ChangeSpec := { name := "flashTells", fn := fun _ => fun
  | [d1, d2, d3, d4, d5, d6, d7] => { results := [.lit (.bool false)], args := [d1, d2, d3, d4, d5, d6, d7] }
  | _ => none }
def FlashTellsWrongFalsely : Prop := flashTellsRow.holds Try.pinned (OpenSpec.ofChange flashTellsWrong)

/-- 'phaetonlaw25.FlashBack': WHATEVER THE INPUT: true; the input reads as it did. -/
def flashBackSpec : ChangeSpec := { name := "flashBack", fn := fun _ => fun
  | [d1, d2, d3, d4] => { results := [.lit (.bool true)], args := [d1, d2, d3, d4] }
  | _ => none }
def flashBackRow : OpenClaim := { program := "ytihippjbbcpggaa", sum := "4483f8833c3ba65cd02a24ad077b3c1faa99144341c815a364b1c7973930e9c3", func := "phaeton/phaetonlaw25.FlashBack", spec := "flashBack", inPlace := ["internal/bytealg.MakeNoZero"], unfollowed := true, recurses := true, apart := false }
def FlashBackSaid : Prop := flashBackRow.holds Try.pinned (OpenSpec.ofChange flashBackSpec)

/-- ITS FALSE NEIGHBOUR: 'it returns false'. Refute it at one input. -/
def flashBackWrong : ChangeSpec := { name := "flashBack", fn := fun _ => fun
  | [d1, d2, d3, d4] => { results := [.lit (.bool false)], args := [d1, d2, d3, d4] }
  | _ => none }
def FlashBackWrongFalsely : Prop := flashBackRow.holds Try.pinned (OpenSpec.ofChange flashBackWrong)

/-- 'phaetonlaw25.FlashTorn': WHATEVER THE INPUT: true; the input reads as it did. -/
def flashTornSpec : ChangeSpec := { name := "flashTorn", fn := fun _ => fun
  | [d1, d2, d3, d4, d5] => { results := [.lit (.bool true)], args := [d1, d2, d3, d4, d5] }
  | _ => none }
def flashTornRow : OpenClaim := { program := "ytihippjbbcpggaa", sum := "4483f8833c3ba65cd02a24ad077b3c1faa99144341c815a364b1c7973930e9c3", func := "phaeton/phaetonlaw25.FlashTorn", spec := "flashTorn", inPlace := ["internal/bytealg.MakeNoZero"], unfollowed := true, recurses := true, apart := false }
def FlashTornSaid : Prop := flashTornRow.holds Try.pinned (OpenSpec.ofChange flashTornSpec)

/-- ITS FALSE NEIGHBOUR: 'it returns false'. Refute it at one input. -/
def flashTornWrong : ChangeSpec := { name := "flashTorn", fn := fun _ => fun
  | [d1, d2, d3, d4, d5] => { results := [.lit (.bool false)], args := [d1, d2, d3, d4, d5] }
  | _ => none }
def FlashTornWrongFalsely : Prop := flashTornRow.holds Try.pinned (OpenSpec.ofChange flashTornWrong)

/-- 'phaetonlaw25.FlashCount': WHATEVER THE INPUT: true; the input reads as it did. -/
def flashCountSpec : ChangeSpec := { name := "flashCount", fn := fun _ => fun
  | [d1, d2] => { results := [.lit (.bool true)], args := [d1, d2] }
  | _ => none }
def flashCountRow : OpenClaim := { program := "ytihippjbbcpggaa", sum := "4483f8833c3ba65cd02a24ad077b3c1faa99144341c815a364b1c7973930e9c3", func := "phaeton/phaetonlaw25.FlashCount", spec := "flashCount", inPlace := ["internal/bytealg.MakeNoZero"], unfollowed := true, recurses := true, apart := false }
def FlashCountSaid : Prop := flashCountRow.holds Try.pinned (OpenSpec.ofChange flashCountSpec)

/-- ITS FALSE NEIGHBOUR: 'it returns false'. Refute it at one input. -/
def flashCountWrong : ChangeSpec := { name := "flashCount", fn := fun _ => fun
  | [d1, d2] => { results := [.lit (.bool false)], args := [d1, d2] }
  | _ => none }
def FlashCountWrongFalsely : Prop := flashCountRow.holds Try.pinned (OpenSpec.ofChange flashCountWrong)

/-- 'phaetonlaw25.FlashRefused': WHATEVER THE INPUT: true; the input reads as it did. -/
def flashRefusedSpec : ChangeSpec := { name := "flashRefused", fn := fun _ => fun
  | [d1, d2, d3, d4] => { results := [.lit (.bool true)], args := [d1, d2, d3, d4] }
  | _ => none }
def flashRefusedRow : OpenClaim := { program := "ytihippjbbcpggaa", sum := "4483f8833c3ba65cd02a24ad077b3c1faa99144341c815a364b1c7973930e9c3", func := "phaeton/phaetonlaw25.FlashRefused", spec := "flashRefused", inPlace := ["internal/bytealg.MakeNoZero"], unfollowed := true, recurses := true, apart := false }
def FlashRefusedSaid : Prop := flashRefusedRow.holds Try.pinned (OpenSpec.ofChange flashRefusedSpec)

/-- ITS FALSE NEIGHBOUR: 'it returns false'. Refute it at one input. -/
def flashRefusedWrong : ChangeSpec := { name := "flashRefused", fn := fun _ => fun
  | [d1, d2, d3, d4] => { results := [.lit (.bool false)], args := [d1, d2, d3, d4] }
  | _ => none }
def FlashRefusedWrongFalsely : Prop := flashRefusedRow.holds Try.pinned (OpenSpec.ofChange flashRefusedWrong)

/-- 'phaetonlaw25.FlashPages': WHATEVER THE INPUT: true; the input reads as it did. -/
def flashPagesSpec : ChangeSpec := { name := "flashPages", fn := fun _ => fun
  | [d1, d2, d3, d4, d5, d6] => { results := [.lit (.bool true)], args := [d1, d2, d3, d4, d5, d6] }
  | _ => none }
def flashPagesRow : OpenClaim := { program := "ytihippjbbcpggaa", sum := "4483f8833c3ba65cd02a24ad077b3c1faa99144341c815a364b1c7973930e9c3", func := "phaeton/phaetonlaw25.FlashPages", spec := "flashPages", inPlace := ["internal/bytealg.MakeNoZero"], unfollowed := true, recurses := true, apart := false }
def FlashPagesSaid : Prop := flashPagesRow.holds Try.pinned (OpenSpec.ofChange flashPagesSpec)

/-- ITS FALSE NEIGHBOUR: 'it returns false'. Refute it at one input. -/
def flashPagesWrong : ChangeSpec := { name := "flashPages", fn := fun _ => fun
  | [d1, d2, d3, d4, d5, d6] => { results := [.lit (.bool false)], args := [d1, d2, d3, d4, d5, d6] }
  | _ => none }
def FlashPagesWrongFalsely : Prop := flashPagesRow.holds Try.pinned (OpenSpec.ofChange flashPagesWrong)

/- THE SECOND FORM. 'bulk': how many values and letters a reading holds, each counted each time it is reached (what is shared counts as often as it is met; a slice's spare places count too). A statement '..UptoSaid' is the law's where the arguments, and the package variables that the reading takes, are together of bulk at most 1048576: NARROWER than '..Said'. Prove '..Said' where nothing that the law and all that it calls make is longer than what came in: it says more and counts as full. Else prove '..UptoSaid'. A law counts once. -/
mutual
def uptoBulk {H : Type} : DataW H → Nat
  | .lit (.string bytes) => bytes.length + 1
  | .lit _ => 1
  | .nil => 1
  | .ptr d => uptoBulk d + 1
  | .slice elems spare => uptoBulkAll elems + uptoBulkAll spare + 1
  | .agg parts => uptoBulkAll parts + 1
  | .iface _ d => uptoBulk d + 1
  | .map entries => uptoBulkEntries entries + 1
  | .held _ => 1
def uptoBulkAll {H : Type} : List (DataW H) → Nat
  | [] => 0
  | d :: r => uptoBulk d + uptoBulkAll r
def uptoBulkEntries {H : Type} : List (Lit × DataW H) → Nat
  | [] => 0
  | x :: r => uptoBulkEntry x + uptoBulkEntries r
def uptoBulkEntry {H : Type} : Lit × DataW H → Nat
  | (.string bytes, d) => bytes.length + uptoBulk d + 1
  | (_, d) => uptoBulk d + 1
 end
def uptoSmall : (H : Type) → List (DataW H) → Bool := fun _ ds => decide (uptoBulkAll ds ≤ 1048576)
def OpenSpec.upto (s : _root_.Go.ChangeSpec) : _root_.Go.OpenSpec := { _root_.Go.OpenSpec.ofChange s with cond := some uptoSmall }

/-- 'phaetonlaw25.FlashTells', WHERE WHAT IT READS IS OF BULK AT MOST 1048576: true; the input reads as it did. -/
def flashTellsUptoRow : OpenClaim := { program := "ytihippjbbcpggaa", sum := "4483f8833c3ba65cd02a24ad077b3c1faa99144341c815a364b1c7973930e9c3", func := "phaeton/phaetonlaw25.FlashTells", spec := "flashTells", inPlace := ["internal/bytealg.MakeNoZero"], unfollowed := true, recurses := true, apart := false, narrowed := true }
def FlashTellsUptoSaid : Prop := flashTellsUptoRow.holds Try.pinned (OpenSpec.upto flashTellsSpec)

/-- 'phaetonlaw25.FlashBack', WHERE WHAT IT READS IS OF BULK AT MOST 1048576: true; the input reads as it did. -/
def flashBackUptoRow : OpenClaim := { program := "ytihippjbbcpggaa", sum := "4483f8833c3ba65cd02a24ad077b3c1faa99144341c815a364b1c7973930e9c3", func := "phaeton/phaetonlaw25.FlashBack", spec := "flashBack", inPlace := ["internal/bytealg.MakeNoZero"], unfollowed := true, recurses := true, apart := false, narrowed := true }
def FlashBackUptoSaid : Prop := flashBackUptoRow.holds Try.pinned (OpenSpec.upto flashBackSpec)

/-- 'phaetonlaw25.FlashTorn', WHERE WHAT IT READS IS OF BULK AT MOST 1048576: true; the input reads as it did. -/
def flashTornUptoRow : OpenClaim := { program := "ytihippjbbcpggaa", sum := "4483f8833c3ba65cd02a24ad077b3c1faa99144341c815a364b1c7973930e9c3", func := "phaeton/phaetonlaw25.FlashTorn", spec := "flashTorn", inPlace := ["internal/bytealg.MakeNoZero"], unfollowed := true, recurses := true, apart := false, narrowed := true }
def FlashTornUptoSaid : Prop := flashTornUptoRow.holds Try.pinned (OpenSpec.upto flashTornSpec)

/-- 'phaetonlaw25.FlashCount', WHERE WHAT IT READS IS OF BULK AT MOST 1048576: true; the input reads as it did. -/
def flashCountUptoRow : OpenClaim := { program := "ytihippjbbcpggaa", sum := "4483f8833c3ba65cd02a24ad077b3c1faa99144341c815a364b1c7973930e9c3", func := "phaeton/phaetonlaw25.FlashCount", spec := "flashCount", inPlace := ["internal/bytealg.MakeNoZero"], unfollowed := true, recurses := true, apart := false, narrowed := true }
def FlashCountUptoSaid : Prop := flashCountUptoRow.holds Try.pinned (OpenSpec.upto flashCountSpec)

/-- 'phaetonlaw25.FlashRefused', WHERE WHAT IT READS IS OF BULK AT MOST 1048576: true; the input reads as it did. -/
def flashRefusedUptoRow : OpenClaim := { program := "ytihippjbbcpggaa", sum := "4483f8833c3ba65cd02a24ad077b3c1faa99144341c815a364b1c7973930e9c3", func := "phaeton/phaetonlaw25.FlashRefused", spec := "flashRefused", inPlace := ["internal/bytealg.MakeNoZero"], unfollowed := true, recurses := true, apart := false, narrowed := true }
def FlashRefusedUptoSaid : Prop := flashRefusedUptoRow.holds Try.pinned (OpenSpec.upto flashRefusedSpec)

/-- 'phaetonlaw25.FlashPages', WHERE WHAT IT READS IS OF BULK AT MOST 1048576: true; the input reads as it did. -/
def flashPagesUptoRow : OpenClaim := { program := "ytihippjbbcpggaa", sum := "4483f8833c3ba65cd02a24ad077b3c1faa99144341c815a364b1c7973930e9c3", func := "phaeton/phaetonlaw25.FlashPages", spec := "flashPages", inPlace := ["internal/bytealg.MakeNoZero"], unfollowed := true, recurses := true, apart := false, narrowed := true }
def FlashPagesUptoSaid : Prop := flashPagesUptoRow.holds Try.pinned (OpenSpec.upto flashPagesSpec)

end Rows
end Go.Proofs.Ytihippjbbcpggaa

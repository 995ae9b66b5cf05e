/-
  No cell of these rows narrows 'for every input' (looked for: loops, veiled, ifaces, maps, wideKeys, modest, calm, conditions, laid).
  DERIVED. THE GIVEN ROWS OF THIS SEAT. 7 by the template 'for every input the law returns true; each argument reads behind the call as it read before'; 0 by the template 'total and deterministic' (their statements: YtlbhokkifdjlaaaTotals.lean).
  GIVEN WITH THE SEED: the statements are not yours to turn. If you find one false, say at which input.
  Laid BY PROGRAM, IN A SANDBOX (cutbox-rows.mjs): the forced cells as the released guide's own fill.sh prints them over the translation d97d488f0a27ceef… (all of the seat's roots in one cut). By AI agents, Wed Nov 11 2026. No macro, syntax, notation, axiom, sorry.
-/
import Derived.Test.YtlbhokkifdjlaaaChecked
import GoSem.Claim
import GoSem.ClaimJoined
import GoSem.ClaimMapViews
import Derived.JoinedTies
import Derived.KernelRfl
namespace Go.Proofs.Ytlbhokkifdjlaaa
/- THE CELL 'sum', in the pinned program and in every row, IS THE sha256 OF THE DUMP (.gsa) THAT YtlbhokkifdjlaaaProg.lean LOADS. Nothing in Lean hashes anything: it is a label: what it is worth is what the hold of that sum in a sandbox is worth. -/
noncomputable def Try.pinned : Pinned := { name := "ytlbhokkifdjlaaa", sum := "d97d488f0a27ceef8f61cbefa450b0b36fac84382c42b04efd8282890dc65b93", checked := Try.checked }
namespace Rows
def none {H : Type} : Left H := { results := [], args := [] }

/-- 'phaetonlaw08.CountTells': WHATEVER THE INPUT: true; the input reads as it did. -/
def countTellsSpec : ChangeSpec := { name := "countTells", fn := fun _ => fun
  | [d1, d2, d3] => { results := [.lit (.bool true)], args := [d1, d2, d3] }
  | _ => none }
def countTellsRow : OpenClaim := { program := "ytlbhokkifdjlaaa", sum := "d97d488f0a27ceef8f61cbefa450b0b36fac84382c42b04efd8282890dc65b93", func := "phaeton/phaetonlaw08.CountTells", spec := "countTells", unfollowed := true, recurses := true, apart := false }
def CountTellsSaid : Prop := countTellsRow.holds Try.pinned (OpenSpec.ofChange countTellsSpec)

/-- ITS FALSE NEIGHBOUR: 'it returns false'. Refute it at one input. -/
def countTellsWrong : ChangeSpec := { name := "countTells", fn := fun _ => fun
  | [d1, d2, d3] => { results := [.lit (.bool false)], args := [d1, d2, d3] }
  | _ => none }
def CountTellsWrongFalsely : Prop := countTellsRow.holds Try.pinned (OpenSpec.ofChange countTellsWrong)

/-- 'phaetonlaw08.CountRight': WHATEVER THE INPUT: true; the input reads as it did. -/
def countRightSpec : ChangeSpec := { name := "countRight", fn := fun _ => fun
  | [d1, d2, d3] => { results := [.lit (.bool true)], args := [d1, d2, d3] }
  | _ => none }
def countRightRow : OpenClaim := { program := "ytlbhokkifdjlaaa", sum := "d97d488f0a27ceef8f61cbefa450b0b36fac84382c42b04efd8282890dc65b93", func := "phaeton/phaetonlaw08.CountRight", spec := "countRight", unfollowed := true, recurses := true, apart := false }
def CountRightSaid : Prop := countRightRow.holds Try.pinned (OpenSpec.ofChange countRightSpec)

/-- ITS FALSE NEIGHBOUR: 'it returns false'. Refute it at one input. -/
def countRightWrong : ChangeSpec := { name := "countRight", fn := fun _ => fun
  | [d1, d2, d3] => { results := [.lit (.bool false)], args := [d1, d2, d3] }
  | _ => none }
def CountRightWrongFalsely : Prop := countRightRow.holds Try.pinned (OpenSpec.ofChange countRightWrong)

/-- 'phaetonlaw08.CountOff': WHATEVER THE INPUT: true; the input reads as it did. -/
def countOffSpec : ChangeSpec := { name := "countOff", fn := fun _ => fun
  | [d1, d2] => { results := [.lit (.bool true)], args := [d1, d2] }
  | _ => none }
def countOffRow : OpenClaim := { program := "ytlbhokkifdjlaaa", sum := "d97d488f0a27ceef8f61cbefa450b0b36fac84382c42b04efd8282890dc65b93", func := "phaeton/phaetonlaw08.CountOff", spec := "countOff", unfollowed := true, recurses := true, apart := false }
def CountOffSaid : Prop := countOffRow.holds Try.pinned (OpenSpec.ofChange countOffSpec)

/-- ITS FALSE NEIGHBOUR: 'it returns false'. Refute it at one input. -/
def countOffWrong : ChangeSpec := { name := "countOff", fn := fun _ => fun
  | [d1, d2] => { results := [.lit (.bool false)], args := [d1, d2] }
  | _ => none }
def CountOffWrongFalsely : Prop := countOffRow.holds Try.pinned (OpenSpec.ofChange countOffWrong)

/-- 'phaetonlaw08.CountBack': WHATEVER THE INPUT: true; the input reads as it did. -/
def countBackSpec : ChangeSpec := { name := "countBack", fn := fun _ => fun
  | [d] => { results := [.lit (.bool true)], args := [d] }
  | _ => none }
def countBackRow : OpenClaim := { program := "ytlbhokkifdjlaaa", sum := "d97d488f0a27ceef8f61cbefa450b0b36fac84382c42b04efd8282890dc65b93", func := "phaeton/phaetonlaw08.CountBack", spec := "countBack", unfollowed := true, recurses := true, apart := false }
def CountBackSaid : Prop := countBackRow.holds Try.pinned (OpenSpec.ofChange countBackSpec)

/-- ITS FALSE NEIGHBOUR: 'it returns false'. Refute it at one input. -/
def countBackWrong : ChangeSpec := { name := "countBack", fn := fun _ => fun
  | [d] => { results := [.lit (.bool false)], args := [d] }
  | _ => none }
def CountBackWrongFalsely : Prop := countBackRow.holds Try.pinned (OpenSpec.ofChange countBackWrong)

/-- 'phaetonlaw08.CountWorse': WHATEVER THE INPUT: true; the input reads as it did. -/
def countWorseSpec : ChangeSpec := { name := "countWorse", fn := fun _ => fun
  | [d1, d2, d3] => { results := [.lit (.bool true)], args := [d1, d2, d3] }
  | _ => none }
def countWorseRow : OpenClaim := { program := "ytlbhokkifdjlaaa", sum := "d97d488f0a27ceef8f61cbefa450b0b36fac84382c42b04efd8282890dc65b93", func := "phaeton/phaetonlaw08.CountWorse", spec := "countWorse", unfollowed := true, recurses := true, apart := false }
def CountWorseSaid : Prop := countWorseRow.holds Try.pinned (OpenSpec.ofChange countWorseSpec)

/-- ITS FALSE NEIGHBOUR: 'it returns false'. Refute it at one input. -/
def countWorseWrong : ChangeSpec := { name := "countWorse", fn := fun _ => fun
  | [d1, d2, d3] => { results := [.lit (.bool false)], args := [d1, d2, d3] }
  | _ => none }
def CountWorseWrongFalsely : Prop := countWorseRow.holds Try.pinned (OpenSpec.ofChange countWorseWrong)

/-- 'phaetonlaw08.CountParts': WHATEVER THE INPUT: true; the input reads as it did. -/
def countPartsSpec : ChangeSpec := { name := "countParts", fn := fun _ => fun
  | [d1, d2, d3, d4] => { results := [.lit (.bool true)], args := [d1, d2, d3, d4] }
  | _ => none }
def countPartsRow : OpenClaim := { program := "ytlbhokkifdjlaaa", sum := "d97d488f0a27ceef8f61cbefa450b0b36fac84382c42b04efd8282890dc65b93", func := "phaeton/phaetonlaw08.CountParts", spec := "countParts", unfollowed := true, recurses := true, apart := false }
def CountPartsSaid : Prop := countPartsRow.holds Try.pinned (OpenSpec.ofChange countPartsSpec)

/-- ITS FALSE NEIGHBOUR: 'it returns false'. Refute it at one input. -/
def countPartsWrong : ChangeSpec := { name := "countParts", fn := fun _ => fun
  | [d1, d2, d3, d4] => { results := [.lit (.bool false)], args := [d1, d2, d3, d4] }
  | _ => none }
def CountPartsWrongFalsely : Prop := countPartsRow.holds Try.pinned (OpenSpec.ofChange countPartsWrong)

/-- 'phaetonlaw08.CountOut': WHATEVER THE INPUT: true; the input reads as it did. -/
def countOutSpec : ChangeSpec := { name := "countOut", fn := fun _ => fun
  | [d] => { results := [.lit (.bool true)], args := [d] }
  | _ => none }
def countOutRow : OpenClaim := { program := "ytlbhokkifdjlaaa", sum := "d97d488f0a27ceef8f61cbefa450b0b36fac84382c42b04efd8282890dc65b93", func := "phaeton/phaetonlaw08.CountOut", spec := "countOut", unfollowed := true, recurses := true, apart := false }
def CountOutSaid : Prop := countOutRow.holds Try.pinned (OpenSpec.ofChange countOutSpec)

/-- ITS FALSE NEIGHBOUR: 'it returns false'. Refute it at one input. -/
def countOutWrong : ChangeSpec := { name := "countOut", fn := fun _ => fun
  | [d] => { results := [.lit (.bool false)], args := [d] }
  | _ => none }
def CountOutWrongFalsely : Prop := countOutRow.holds Try.pinned (OpenSpec.ofChange countOutWrong)

/- THE SECOND FORM. 'bulk': how many values and letters a reading holds, each counted each time it is reached (what is shared counts as often as it is met; a slice's spare places count too). A statement '..UptoSaid' is the law's where the arguments, and the package variables that the reading takes, are together of bulk at most 1048576: NARROWER than '..Said'. Prove '..Said' where nothing that the law and all that it calls make is longer than what came in: it says more and counts as full. Else prove '..UptoSaid'. A law counts once. -/
mutual
def uptoBulk {H : Type} : DataW H → Nat
  | .lit (.string bytes) => bytes.length + 1
  | .lit _ => 1
  | .nil => 1
  | .ptr d => uptoBulk d + 1
  | .slice elems spare => uptoBulkAll elems + uptoBulkAll spare + 1
  | .agg parts => uptoBulkAll parts + 1
  | .iface _ d => uptoBulk d + 1
  | .map entries => uptoBulkEntries entries + 1
  | .held _ => 1
def uptoBulkAll {H : Type} : List (DataW H) → Nat
  | [] => 0
  | d :: r => uptoBulk d + uptoBulkAll r
def uptoBulkEntries {H : Type} : List (Lit × DataW H) → Nat
  | [] => 0
  | x :: r => uptoBulkEntry x + uptoBulkEntries r
def uptoBulkEntry {H : Type} : Lit × DataW H → Nat
  | (.string bytes, d) => bytes.length + uptoBulk d + 1
  | (_, d) => uptoBulk d + 1
 end
def uptoSmall : (H : Type) → List (DataW H) → Bool := fun _ ds => decide (uptoBulkAll ds ≤ 1048576)
def OpenSpec.upto (s : _root_.Go.ChangeSpec) : _root_.Go.OpenSpec := { _root_.Go.OpenSpec.ofChange s with cond := some uptoSmall }

/-- 'phaetonlaw08.CountTells', WHERE WHAT IT READS IS OF BULK AT MOST 1048576: true; the input reads as it did. -/
def countTellsUptoRow : OpenClaim := { program := "ytlbhokkifdjlaaa", sum := "d97d488f0a27ceef8f61cbefa450b0b36fac84382c42b04efd8282890dc65b93", func := "phaeton/phaetonlaw08.CountTells", spec := "countTells", unfollowed := true, recurses := true, apart := false, narrowed := true }
def CountTellsUptoSaid : Prop := countTellsUptoRow.holds Try.pinned (OpenSpec.upto countTellsSpec)

/-- 'phaetonlaw08.CountRight', WHERE WHAT IT READS IS OF BULK AT MOST 1048576: true; the input reads as it did. -/
def countRightUptoRow : OpenClaim := { program := "ytlbhokkifdjlaaa", sum := "d97d488f0a27ceef8f61cbefa450b0b36fac84382c42b04efd8282890dc65b93", func := "phaeton/phaetonlaw08.CountRight", spec := "countRight", unfollowed := true, recurses := true, apart := false, narrowed := true }
def CountRightUptoSaid : Prop := countRightUptoRow.holds Try.pinned (OpenSpec.upto countRightSpec)

/-- 'phaetonlaw08.CountOff', WHERE WHAT IT READS IS OF BULK AT MOST 1048576: true; the input reads as it did. -/
def countOffUptoRow : OpenClaim := { program := "ytlbhokkifdjlaaa", sum := "d97d488f0a27ceef8f61cbefa450b0b36fac84382c42b04efd8282890dc65b93", func := "phaeton/phaetonlaw08.CountOff", spec := "countOff", unfollowed := true, recurses := true, apart := false, narrowed := true }
def CountOffUptoSaid : Prop := countOffUptoRow.holds Try.pinned (OpenSpec.upto countOffSpec)

/-- 'phaetonlaw08.CountBack', WHERE WHAT IT READS IS OF BULK AT MOST 1048576: true; the input reads as it did. -/
def countBackUptoRow : OpenClaim := { program := "ytlbhokkifdjlaaa", sum := "d97d488f0a27ceef8f61cbefa450b0b36fac84382c42b04efd8282890dc65b93", func := "phaeton/phaetonlaw08.CountBack", spec := "countBack", unfollowed := true, recurses := true, apart := false, narrowed := true }
def CountBackUptoSaid : Prop := countBackUptoRow.holds Try.pinned (OpenSpec.upto countBackSpec)

/-- 'phaetonlaw08.CountWorse', WHERE WHAT IT READS IS OF BULK AT MOST 1048576: true; the input reads as it did. -/
def countWorseUptoRow : OpenClaim := { program := "ytlbhokkifdjlaaa", sum := "d97d488f0a27ceef8f61cbefa450b0b36fac84382c42b04efd8282890dc65b93", func := "phaeton/phaetonlaw08.CountWorse", spec := "countWorse", unfollowed := true, recurses := true, apart := false, narrowed := true }
def CountWorseUptoSaid : Prop := countWorseUptoRow.holds Try.pinned (OpenSpec.upto countWorseSpec)

/-- 'phaetonlaw08.CountParts', WHERE WHAT IT READS IS OF BULK AT MOST 1048576: true; the input reads as it did. -/
def countPartsUptoRow : OpenClaim := { program := "ytlbhokkifdjlaaa", sum := "d97d488f0a27ceef8f61cbefa450b0b36fac84382c42b04efd8282890dc65b93", func := "phaeton/phaetonlaw08.CountParts", spec := "countParts", unfollowed := true, recurses := true, apart := false, narrowed := true }
def CountPartsUptoSaid : Prop := countPartsUptoRow.holds Try.pinned (OpenSpec.upto countPartsSpec)

/-- 'phaetonlaw08.CountOut', WHERE WHAT IT READS IS OF BULK AT MOST 1048576: true; the input reads as it did. -/
def countOutUptoRow : OpenClaim := { program := "ytlbhokkifdjlaaa", sum := "d97d488f0a27ceef8f61cbefa450b0b36fac84382c42b04efd8282890dc65b93", func := "phaeton/phaetonlaw08.CountOut", spec := "countOut", unfollowed := true, recurses := true, apart := false, narrowed := true }
def CountOutUptoSaid : Prop := countOutUptoRow.holds Try.pinned (OpenSpec.upto countOutSpec)

end Rows
end Go.Proofs.Ytlbhokkifdjlaaa

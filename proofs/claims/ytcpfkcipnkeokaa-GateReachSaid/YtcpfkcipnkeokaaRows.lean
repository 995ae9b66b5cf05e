/-
  No cell of these rows narrows 'for every input' (looked for: loops, veiled, ifaces, maps, wideKeys, modest, calm, conditions, laid).
  DERIVED. THE GIVEN ROWS OF THIS SEAT. 6 by the template 'for every input the law returns true; each argument reads behind the call as it read before'; 0 by the template 'total and deterministic' (their statements: YtcpfkcipnkeokaaTotals.lean).
  GIVEN WITH THE SEED: the statements are not yours to turn. If you find one false, say at which input.
  Laid BY PROGRAM, IN A SANDBOX (cutbox-rows.mjs): the forced cells as the released guide's own fill.sh prints them over the translation a0883dac9b63dfb9… (all of the seat's roots in one cut). By AI agents, Wed Nov 11 2026. No macro, syntax, notation, axiom, sorry.
-/
import Derived.Test.YtcpfkcipnkeokaaChecked
import GoSem.Claim
import GoSem.ClaimJoined
import GoSem.ClaimMapViews
import Derived.JoinedTies
import Derived.KernelRfl
namespace Go.Proofs.Ytcpfkcipnkeokaa
/- THE CELL 'sum', in the pinned program and in every row, IS THE sha256 OF THE DUMP (.gsa) THAT YtcpfkcipnkeokaaProg.lean LOADS. Nothing in Lean hashes anything: it is a label: what it is worth is what the hold of that sum in a sandbox is worth. -/
noncomputable def Try.pinned : Pinned := { name := "ytcpfkcipnkeokaa", sum := "a0883dac9b63dfb960653d39d4bcf81f76daa6b6d300d3af713c6f96e36ae5e2", checked := Try.checked }
namespace Rows
def none {H : Type} : Left H := { results := [], args := [] }

/-- 'phaetonlaw13.GateTells': WHATEVER THE INPUT: true; the input reads as it did. -/
def gateTellsSpec : ChangeSpec := { name := "gateTells", fn := fun _ => fun
  | [d1, d2, d3] => { results := [.lit (.bool true)], args := [d1, d2, d3] }
  | _ => none }
def gateTellsRow : OpenClaim := { program := "ytcpfkcipnkeokaa", sum := "a0883dac9b63dfb960653d39d4bcf81f76daa6b6d300d3af713c6f96e36ae5e2", func := "phaeton/phaetonlaw13.GateTells", spec := "gateTells", unfollowed := true, recurses := true, apart := false }
def GateTellsSaid : Prop := gateTellsRow.holds Try.pinned (OpenSpec.ofChange gateTellsSpec)

/-- ITS FALSE NEIGHBOUR: 'it returns false'. Refute it at one input. -/
def gateTellsWrong : ChangeSpec := { name := "gateTells", fn := fun _ => fun
  | [d1, d2, d3] => { results := [.lit (.bool false)], args := [d1, d2, d3] }
  | _ => none }
def GateTellsWrongFalsely : Prop := gateTellsRow.holds Try.pinned (OpenSpec.ofChange gateTellsWrong)

/-- 'phaetonlaw13.GateCounts': WHATEVER THE INPUT: true; the input reads as it did. -/
def gateCountsSpec : ChangeSpec := { name := "gateCounts", fn := fun _ => fun
  | [d1, d2, d3] => { results := [.lit (.bool true)], args := [d1, d2, d3] }
  | _ => none }
def gateCountsRow : OpenClaim := { program := "ytcpfkcipnkeokaa", sum := "a0883dac9b63dfb960653d39d4bcf81f76daa6b6d300d3af713c6f96e36ae5e2", func := "phaeton/phaetonlaw13.GateCounts", spec := "gateCounts", unfollowed := true, recurses := true, apart := false }
def GateCountsSaid : Prop := gateCountsRow.holds Try.pinned (OpenSpec.ofChange gateCountsSpec)

/-- ITS FALSE NEIGHBOUR: 'it returns false'. Refute it at one input. -/
def gateCountsWrong : ChangeSpec := { name := "gateCounts", fn := fun _ => fun
  | [d1, d2, d3] => { results := [.lit (.bool false)], args := [d1, d2, d3] }
  | _ => none }
def GateCountsWrongFalsely : Prop := gateCountsRow.holds Try.pinned (OpenSpec.ofChange gateCountsWrong)

/-- 'phaetonlaw13.GateTurn': WHATEVER THE INPUT: true; the input reads as it did. -/
def gateTurnSpec : ChangeSpec := { name := "gateTurn", fn := fun _ => fun
  | [d1, d2, d3] => { results := [.lit (.bool true)], args := [d1, d2, d3] }
  | _ => none }
def gateTurnRow : OpenClaim := { program := "ytcpfkcipnkeokaa", sum := "a0883dac9b63dfb960653d39d4bcf81f76daa6b6d300d3af713c6f96e36ae5e2", func := "phaeton/phaetonlaw13.GateTurn", spec := "gateTurn", unfollowed := true, recurses := true, apart := false }
def GateTurnSaid : Prop := gateTurnRow.holds Try.pinned (OpenSpec.ofChange gateTurnSpec)

/-- ITS FALSE NEIGHBOUR: 'it returns false'. Refute it at one input. -/
def gateTurnWrong : ChangeSpec := { name := "gateTurn", fn := fun _ => fun
  | [d1, d2, d3] => { results := [.lit (.bool false)], args := [d1, d2, d3] }
  | _ => none }
def GateTurnWrongFalsely : Prop := gateTurnRow.holds Try.pinned (OpenSpec.ofChange gateTurnWrong)

/-- 'phaetonlaw13.GateReach': WHATEVER THE INPUT: true; the input reads as it did. -/
def gateReachSpec : ChangeSpec := { name := "gateReach", fn := fun _ => fun
  | [d1, d2] => { results := [.lit (.bool true)], args := [d1, d2] }
  | _ => none }
def gateReachRow : OpenClaim := { program := "ytcpfkcipnkeokaa", sum := "a0883dac9b63dfb960653d39d4bcf81f76daa6b6d300d3af713c6f96e36ae5e2", func := "phaeton/phaetonlaw13.GateReach", spec := "gateReach", unfollowed := true, recurses := true, apart := false }
def GateReachSaid : Prop := gateReachRow.holds Try.pinned (OpenSpec.ofChange gateReachSpec)

/-- ITS FALSE NEIGHBOUR: 'it returns false'. Refute it at one input. -/
def gateReachWrong : ChangeSpec := { name := "gateReach", fn := fun _ => fun
  | [d1, d2] => { results := [.lit (.bool false)], args := [d1, d2] }
  | _ => none }
def GateReachWrongFalsely : Prop := gateReachRow.holds Try.pinned (OpenSpec.ofChange gateReachWrong)

/-- 'phaetonlaw13.GateApart': WHATEVER THE INPUT: true; the input reads as it did. -/
def gateApartSpec : ChangeSpec := { name := "gateApart", fn := fun _ => fun
  | [d1, d2, d3] => { results := [.lit (.bool true)], args := [d1, d2, d3] }
  | _ => none }
def gateApartRow : OpenClaim := { program := "ytcpfkcipnkeokaa", sum := "a0883dac9b63dfb960653d39d4bcf81f76daa6b6d300d3af713c6f96e36ae5e2", func := "phaeton/phaetonlaw13.GateApart", spec := "gateApart", unfollowed := true, recurses := true, apart := false }
def GateApartSaid : Prop := gateApartRow.holds Try.pinned (OpenSpec.ofChange gateApartSpec)

/-- ITS FALSE NEIGHBOUR: 'it returns false'. Refute it at one input. -/
def gateApartWrong : ChangeSpec := { name := "gateApart", fn := fun _ => fun
  | [d1, d2, d3] => { results := [.lit (.bool false)], args := [d1, d2, d3] }
  | _ => none }
def GateApartWrongFalsely : Prop := gateApartRow.holds Try.pinned (OpenSpec.ofChange gateApartWrong)

/-- 'phaetonlaw13.GateNew': WHATEVER THE INPUT: true; the input reads as it did. -/
def gateNewSpec : ChangeSpec := { name := "gateNew", fn := fun _ => fun
  | [d1, d2] => { results := [.lit (.bool true)], args := [d1, d2] }
  | _ => none }
def gateNewRow : OpenClaim := { program := "ytcpfkcipnkeokaa", sum := "a0883dac9b63dfb960653d39d4bcf81f76daa6b6d300d3af713c6f96e36ae5e2", func := "phaeton/phaetonlaw13.GateNew", spec := "gateNew", unfollowed := true, recurses := true, apart := false }
def GateNewSaid : Prop := gateNewRow.holds Try.pinned (OpenSpec.ofChange gateNewSpec)

/-- ITS FALSE NEIGHBOUR: 'it returns false'. Refute it at one input. -/
def gateNewWrong : ChangeSpec := { name := "gateNew", fn := fun _ => fun
  | [d1, d2] => { results := [.lit (.bool false)], args := [d1, d2] }
  | _ => none }
def GateNewWrongFalsely : Prop := gateNewRow.holds Try.pinned (OpenSpec.ofChange gateNewWrong)

/- THE SECOND FORM. 'bulk': how many values and letters a reading holds, each counted each time it is reached (what is shared counts as often as it is met; a slice's spare places count too). A statement '..UptoSaid' is the law's where the arguments, and the package variables that the reading takes, are together of bulk at most 1048576: NARROWER than '..Said'. Prove '..Said' where nothing that the law and all that it calls make is longer than what came in: it says more and counts as full. Else prove '..UptoSaid'. A law counts once. -/
mutual
def uptoBulk {H : Type} : DataW H → Nat
  | .lit (.string bytes) => bytes.length + 1
  | .lit _ => 1
  | .nil => 1
  | .ptr d => uptoBulk d + 1
  | .slice elems spare => uptoBulkAll elems + uptoBulkAll spare + 1
  | .agg parts => uptoBulkAll parts + 1
  | .iface _ d => uptoBulk d + 1
  | .map entries => uptoBulkEntries entries + 1
  | .held _ => 1
def uptoBulkAll {H : Type} : List (DataW H) → Nat
  | [] => 0
  | d :: r => uptoBulk d + uptoBulkAll r
def uptoBulkEntries {H : Type} : List (Lit × DataW H) → Nat
  | [] => 0
  | x :: r => uptoBulkEntry x + uptoBulkEntries r
def uptoBulkEntry {H : Type} : Lit × DataW H → Nat
  | (.string bytes, d) => bytes.length + uptoBulk d + 1
  | (_, d) => uptoBulk d + 1
 end
def uptoSmall : (H : Type) → List (DataW H) → Bool := fun _ ds => decide (uptoBulkAll ds ≤ 1048576)
def OpenSpec.upto (s : _root_.Go.ChangeSpec) : _root_.Go.OpenSpec := { _root_.Go.OpenSpec.ofChange s with cond := some uptoSmall }

/-- 'phaetonlaw13.GateTells', WHERE WHAT IT READS IS OF BULK AT MOST 1048576: true; the input reads as it did. -/
def gateTellsUptoRow : OpenClaim := { program := "ytcpfkcipnkeokaa", sum := "a0883dac9b63dfb960653d39d4bcf81f76daa6b6d300d3af713c6f96e36ae5e2", func := "phaeton/phaetonlaw13.GateTells", spec := "gateTells", unfollowed := true, recurses := true, apart := false, narrowed := true }
def GateTellsUptoSaid : Prop := gateTellsUptoRow.holds Try.pinned (OpenSpec.upto gateTellsSpec)

/-- 'phaetonlaw13.GateCounts', WHERE WHAT IT READS IS OF BULK AT MOST 1048576: true; the input reads as it did. -/
def gateCountsUptoRow : OpenClaim := { program := "ytcpfkcipnkeokaa", sum := "a0883dac9b63dfb960653d39d4bcf81f76daa6b6d300d3af713c6f96e36ae5e2", func := "phaeton/phaetonlaw13.GateCounts", spec := "gateCounts", unfollowed := true, recurses := true, apart := false, narrowed := true }
def GateCountsUptoSaid : Prop := gateCountsUptoRow.holds Try.pinned (OpenSpec.upto gateCountsSpec)

/-- 'phaetonlaw13.GateTurn', WHERE WHAT IT READS IS OF BULK AT MOST 1048576: true; the input reads as it did. -/
def gateTurnUptoRow : OpenClaim := { program := "ytcpfkcipnkeokaa", sum := "a0883dac9b63dfb960653d39d4bcf81f76daa6b6d300d3af713c6f96e36ae5e2", func := "phaeton/phaetonlaw13.GateTurn", spec := "gateTurn", unfollowed := true, recurses := true, apart := false, narrowed := true }
def GateTurnUptoSaid : Prop := gateTurnUptoRow.holds Try.pinned (OpenSpec.upto gateTurnSpec)

/-- 'phaetonlaw13.GateReach', WHERE WHAT IT READS IS OF BULK AT MOST 1048576: true; the input reads as it did. -/
def gateReachUptoRow : OpenClaim := { program := "ytcpfkcipnkeokaa", sum := "a0883dac9b63dfb960653d39d4bcf81f76daa6b6d300d3af713c6f96e36ae5e2", func := "phaeton/phaetonlaw13.GateReach", spec := "gateReach", unfollowed := true, recurses := true, apart := false, narrowed := true }
def GateReachUptoSaid : Prop := gateReachUptoRow.holds Try.pinned (OpenSpec.upto gateReachSpec)

/-- 'phaetonlaw13.GateApart', WHERE WHAT IT READS IS OF BULK AT MOST 1048576: true; the input reads as it did. -/
def gateApartUptoRow : OpenClaim := { program := "ytcpfkcipnkeokaa", sum := "a0883dac9b63dfb960653d39d4bcf81f76daa6b6d300d3af713c6f96e36ae5e2", func := "phaeton/phaetonlaw13.GateApart", spec := "gateApart", unfollowed := true, recurses := true, apart := false, narrowed := true }
def GateApartUptoSaid : Prop := gateApartUptoRow.holds Try.pinned (OpenSpec.upto gateApartSpec)

/-- 'phaetonlaw13.GateNew', WHERE WHAT IT READS IS OF BULK AT MOST 1048576: true; the input reads as it did. -/
def gateNewUptoRow : OpenClaim := { program := "ytcpfkcipnkeokaa", sum := "a0883dac9b63dfb960653d39d4bcf81f76daa6b6d300d3af713c6f96e36ae5e2", func := "phaeton/phaetonlaw13.GateNew", spec := "gateNew", unfollowed := true, recurses := true, apart := false, narrowed := true }
def GateNewUptoSaid : Prop := gateNewUptoRow.holds Try.pinned (OpenSpec.upto gateNewSpec)

end Rows
end Go.Proofs.Ytcpfkcipnkeokaa

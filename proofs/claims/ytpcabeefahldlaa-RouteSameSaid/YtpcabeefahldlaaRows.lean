/-
  No cell of these rows narrows 'for every input' (looked for: loops, veiled, ifaces, maps, wideKeys, modest, calm, conditions, laid).
  DERIVED. THE GIVEN ROWS OF THIS SEAT. 7 by the template 'for every input the law returns true; each argument reads behind the call as it read before'; 0 by the template 'total and deterministic' (their statements: YtpcabeefahldlaaTotals.lean).
  GIVEN WITH THE SEED: the statements are not yours to turn. If you find one false, say at which input.
  Laid BY PROGRAM, IN A SANDBOX (cutbox-rows.mjs): the forced cells as the released guide's own fill.sh prints them over the translation b5f4f80639fd2e0a… (all of the seat's roots in one cut). By AI agents, Wed Nov 11 2026. No macro, syntax, notation, axiom, sorry.
-/
import Derived.Test.YtpcabeefahldlaaChecked
import GoSem.Claim
import GoSem.ClaimJoined
import GoSem.ClaimMapViews
import Derived.JoinedTies
import Derived.KernelRfl
namespace Go.Proofs.Ytpcabeefahldlaa
/- THE CELL 'sum', in the pinned program and in every row, IS THE sha256 OF THE DUMP (.gsa) THAT YtpcabeefahldlaaProg.lean LOADS. Nothing in Lean hashes anything: it is a label: what it is worth is what the hold of that sum in a sandbox is worth. -/
noncomputable def Try.pinned : Pinned := { name := "ytpcabeefahldlaa", sum := "b5f4f80639fd2e0ac56568632610d68c05c940424eaceaeeceafd2d3956306ef", checked := Try.checked }
namespace Rows
def none {H : Type} : Left H := { results := [], args := [] }

/-- 'phaetonlaw12.RouteTells': WHATEVER THE INPUT: true; the input reads as it did. -/
def routeTellsSpec : ChangeSpec := { name := "routeTells", fn := fun _ => fun
  | [d1, d2, d3] => { results := [.lit (.bool true)], args := [d1, d2, d3] }
  | _ => none }
def routeTellsRow : OpenClaim := { program := "ytpcabeefahldlaa", sum := "b5f4f80639fd2e0ac56568632610d68c05c940424eaceaeeceafd2d3956306ef", func := "phaeton/phaetonlaw12.RouteTells", spec := "routeTells", unfollowed := true, recurses := true, apart := false }
def RouteTellsSaid : Prop := routeTellsRow.holds Try.pinned (OpenSpec.ofChange routeTellsSpec)

/-- ITS FALSE NEIGHBOUR: 'it returns false'. Refute it at one input. -/
def routeTellsWrong : ChangeSpec := { name := "routeTells", fn := fun _ => fun
  | [d1, d2, d3] => { results := [.lit (.bool false)], args := [d1, d2, d3] }
  | _ => none }
def RouteTellsWrongFalsely : Prop := routeTellsRow.holds Try.pinned (OpenSpec.ofChange routeTellsWrong)

/-- 'phaetonlaw12.RouteEnds': WHATEVER THE INPUT: true; the input reads as it did. -/
def routeEndsSpec : ChangeSpec := { name := "routeEnds", fn := fun _ => fun
  | [d1, d2] => { results := [.lit (.bool true)], args := [d1, d2] }
  | _ => none }
def routeEndsRow : OpenClaim := { program := "ytpcabeefahldlaa", sum := "b5f4f80639fd2e0ac56568632610d68c05c940424eaceaeeceafd2d3956306ef", func := "phaeton/phaetonlaw12.RouteEnds", spec := "routeEnds", unfollowed := true, recurses := true, apart := false }
def RouteEndsSaid : Prop := routeEndsRow.holds Try.pinned (OpenSpec.ofChange routeEndsSpec)

/-- ITS FALSE NEIGHBOUR: 'it returns false'. Refute it at one input. -/
def routeEndsWrong : ChangeSpec := { name := "routeEnds", fn := fun _ => fun
  | [d1, d2] => { results := [.lit (.bool false)], args := [d1, d2] }
  | _ => none }
def RouteEndsWrongFalsely : Prop := routeEndsRow.holds Try.pinned (OpenSpec.ofChange routeEndsWrong)

/-- 'phaetonlaw12.RouteOrder': WHATEVER THE INPUT: true; the input reads as it did. -/
def routeOrderSpec : ChangeSpec := { name := "routeOrder", fn := fun _ => fun
  | [d] => { results := [.lit (.bool true)], args := [d] }
  | _ => none }
def routeOrderRow : OpenClaim := { program := "ytpcabeefahldlaa", sum := "b5f4f80639fd2e0ac56568632610d68c05c940424eaceaeeceafd2d3956306ef", func := "phaeton/phaetonlaw12.RouteOrder", spec := "routeOrder", unfollowed := true, recurses := true, apart := false }
def RouteOrderSaid : Prop := routeOrderRow.holds Try.pinned (OpenSpec.ofChange routeOrderSpec)

/-- ITS FALSE NEIGHBOUR: 'it returns false'. Refute it at one input. -/
def routeOrderWrong : ChangeSpec := { name := "routeOrder", fn := fun _ => fun
  | [d] => { results := [.lit (.bool false)], args := [d] }
  | _ => none }
def RouteOrderWrongFalsely : Prop := routeOrderRow.holds Try.pinned (OpenSpec.ofChange routeOrderWrong)

/-- 'phaetonlaw12.RouteFewer': WHATEVER THE INPUT: true; the input reads as it did. -/
def routeFewerSpec : ChangeSpec := { name := "routeFewer", fn := fun _ => fun
  | [d1, d2, d3] => { results := [.lit (.bool true)], args := [d1, d2, d3] }
  | _ => none }
def routeFewerRow : OpenClaim := { program := "ytpcabeefahldlaa", sum := "b5f4f80639fd2e0ac56568632610d68c05c940424eaceaeeceafd2d3956306ef", func := "phaeton/phaetonlaw12.RouteFewer", spec := "routeFewer", unfollowed := true, recurses := true, apart := false }
def RouteFewerSaid : Prop := routeFewerRow.holds Try.pinned (OpenSpec.ofChange routeFewerSpec)

/-- ITS FALSE NEIGHBOUR: 'it returns false'. Refute it at one input. -/
def routeFewerWrong : ChangeSpec := { name := "routeFewer", fn := fun _ => fun
  | [d1, d2, d3] => { results := [.lit (.bool false)], args := [d1, d2, d3] }
  | _ => none }
def RouteFewerWrongFalsely : Prop := routeFewerRow.holds Try.pinned (OpenSpec.ofChange routeFewerWrong)

/-- 'phaetonlaw12.RouteSame': WHATEVER THE INPUT: true; the input reads as it did. -/
def routeSameSpec : ChangeSpec := { name := "routeSame", fn := fun _ => fun
  | [d1, d2] => { results := [.lit (.bool true)], args := [d1, d2] }
  | _ => none }
def routeSameRow : OpenClaim := { program := "ytpcabeefahldlaa", sum := "b5f4f80639fd2e0ac56568632610d68c05c940424eaceaeeceafd2d3956306ef", func := "phaeton/phaetonlaw12.RouteSame", spec := "routeSame", unfollowed := true, recurses := true, apart := false }
def RouteSameSaid : Prop := routeSameRow.holds Try.pinned (OpenSpec.ofChange routeSameSpec)

/-- ITS FALSE NEIGHBOUR: 'it returns false'. Refute it at one input. -/
def routeSameWrong : ChangeSpec := { name := "routeSame", fn := fun _ => fun
  | [d1, d2] => { results := [.lit (.bool false)], args := [d1, d2] }
  | _ => none }
def RouteSameWrongFalsely : Prop := routeSameRow.holds Try.pinned (OpenSpec.ofChange routeSameWrong)

/-- 'phaetonlaw12.RouteBack': WHATEVER THE INPUT: true; the input reads as it did. -/
def routeBackSpec : ChangeSpec := { name := "routeBack", fn := fun _ => fun
  | [d1, d2] => { results := [.lit (.bool true)], args := [d1, d2] }
  | _ => none }
def routeBackRow : OpenClaim := { program := "ytpcabeefahldlaa", sum := "b5f4f80639fd2e0ac56568632610d68c05c940424eaceaeeceafd2d3956306ef", func := "phaeton/phaetonlaw12.RouteBack", spec := "routeBack", unfollowed := true, recurses := true, apart := false }
def RouteBackSaid : Prop := routeBackRow.holds Try.pinned (OpenSpec.ofChange routeBackSpec)

/-- ITS FALSE NEIGHBOUR: 'it returns false'. Refute it at one input. -/
def routeBackWrong : ChangeSpec := { name := "routeBack", fn := fun _ => fun
  | [d1, d2] => { results := [.lit (.bool false)], args := [d1, d2] }
  | _ => none }
def RouteBackWrongFalsely : Prop := routeBackRow.holds Try.pinned (OpenSpec.ofChange routeBackWrong)

/-- 'phaetonlaw12.RouteEach': WHATEVER THE INPUT: true; the input reads as it did. -/
def routeEachSpec : ChangeSpec := { name := "routeEach", fn := fun _ => fun
  | [d1, d2, d3] => { results := [.lit (.bool true)], args := [d1, d2, d3] }
  | _ => none }
def routeEachRow : OpenClaim := { program := "ytpcabeefahldlaa", sum := "b5f4f80639fd2e0ac56568632610d68c05c940424eaceaeeceafd2d3956306ef", func := "phaeton/phaetonlaw12.RouteEach", spec := "routeEach", unfollowed := true, recurses := true, apart := false }
def RouteEachSaid : Prop := routeEachRow.holds Try.pinned (OpenSpec.ofChange routeEachSpec)

/-- ITS FALSE NEIGHBOUR: 'it returns false'. Refute it at one input. -/
def routeEachWrong : ChangeSpec := { name := "routeEach", fn := fun _ => fun
  | [d1, d2, d3] => { results := [.lit (.bool false)], args := [d1, d2, d3] }
  | _ => none }
def RouteEachWrongFalsely : Prop := routeEachRow.holds Try.pinned (OpenSpec.ofChange routeEachWrong)

/- THE SECOND FORM. 'bulk': how many values and letters a reading holds, each counted each time it is reached (what is shared counts as often as it is met; a slice's spare places count too). A statement '..UptoSaid' is the law's where the arguments, and the package variables that the reading takes, are together of bulk at most 1048576: NARROWER than '..Said'. Prove '..Said' where nothing that the law and all that it calls make is longer than what came in: it says more and counts as full. Else prove '..UptoSaid'. A law counts once. -/
mutual
def uptoBulk {H : Type} : DataW H → Nat
  | .lit (.string bytes) => bytes.length + 1
  | .lit _ => 1
  | .nil => 1
  | .ptr d => uptoBulk d + 1
  | .slice elems spare => uptoBulkAll elems + uptoBulkAll spare + 1
  | .agg parts => uptoBulkAll parts + 1
  | .iface _ d => uptoBulk d + 1
  | .map entries => uptoBulkEntries entries + 1
  | .held _ => 1
def uptoBulkAll {H : Type} : List (DataW H) → Nat
  | [] => 0
  | d :: r => uptoBulk d + uptoBulkAll r
def uptoBulkEntries {H : Type} : List (Lit × DataW H) → Nat
  | [] => 0
  | x :: r => uptoBulkEntry x + uptoBulkEntries r
def uptoBulkEntry {H : Type} : Lit × DataW H → Nat
  | (.string bytes, d) => bytes.length + uptoBulk d + 1
  | (_, d) => uptoBulk d + 1
 end
def uptoSmall : (H : Type) → List (DataW H) → Bool := fun _ ds => decide (uptoBulkAll ds ≤ 1048576)
def OpenSpec.upto (s : _root_.Go.ChangeSpec) : _root_.Go.OpenSpec := { _root_.Go.OpenSpec.ofChange s with cond := some uptoSmall }

/-- 'phaetonlaw12.RouteTells', WHERE WHAT IT READS IS OF BULK AT MOST 1048576: true; the input reads as it did. -/
def routeTellsUptoRow : OpenClaim := { program := "ytpcabeefahldlaa", sum := "b5f4f80639fd2e0ac56568632610d68c05c940424eaceaeeceafd2d3956306ef", func := "phaeton/phaetonlaw12.RouteTells", spec := "routeTells", unfollowed := true, recurses := true, apart := false, narrowed := true }
def RouteTellsUptoSaid : Prop := routeTellsUptoRow.holds Try.pinned (OpenSpec.upto routeTellsSpec)

/-- 'phaetonlaw12.RouteEnds', WHERE WHAT IT READS IS OF BULK AT MOST 1048576: true; the input reads as it did. -/
def routeEndsUptoRow : OpenClaim := { program := "ytpcabeefahldlaa", sum := "b5f4f80639fd2e0ac56568632610d68c05c940424eaceaeeceafd2d3956306ef", func := "phaeton/phaetonlaw12.RouteEnds", spec := "routeEnds", unfollowed := true, recurses := true, apart := false, narrowed := true }
def RouteEndsUptoSaid : Prop := routeEndsUptoRow.holds Try.pinned (OpenSpec.upto routeEndsSpec)

/-- 'phaetonlaw12.RouteOrder', WHERE WHAT IT READS IS OF BULK AT MOST 1048576: true; the input reads as it did. -/
def routeOrderUptoRow : OpenClaim := { program := "ytpcabeefahldlaa", sum := "b5f4f80639fd2e0ac56568632610d68c05c940424eaceaeeceafd2d3956306ef", func := "phaeton/phaetonlaw12.RouteOrder", spec := "routeOrder", unfollowed := true, recurses := true, apart := false, narrowed := true }
def RouteOrderUptoSaid : Prop := routeOrderUptoRow.holds Try.pinned (OpenSpec.upto routeOrderSpec)

/-- 'phaetonlaw12.RouteFewer', WHERE WHAT IT READS IS OF BULK AT MOST 1048576: true; the input reads as it did. -/
def routeFewerUptoRow : OpenClaim := { program := "ytpcabeefahldlaa", sum := "b5f4f80639fd2e0ac56568632610d68c05c940424eaceaeeceafd2d3956306ef", func := "phaeton/phaetonlaw12.RouteFewer", spec := "routeFewer", unfollowed := true, recurses := true, apart := false, narrowed := true }
def RouteFewerUptoSaid : Prop := routeFewerUptoRow.holds Try.pinned (OpenSpec.upto routeFewerSpec)

/-- 'phaetonlaw12.RouteSame', WHERE WHAT IT READS IS OF BULK AT MOST 1048576: true; the input reads as it did. -/
def routeSameUptoRow : OpenClaim := { program := "ytpcabeefahldlaa", sum := "b5f4f80639fd2e0ac56568632610d68c05c940424eaceaeeceafd2d3956306ef", func := "phaeton/phaetonlaw12.RouteSame", spec := "routeSame", unfollowed := true, recurses := true, apart := false, narrowed := true }
def RouteSameUptoSaid : Prop := routeSameUptoRow.holds Try.pinned (OpenSpec.upto routeSameSpec)

/-- 'phaetonlaw12.RouteBack', WHERE WHAT IT READS IS OF BULK AT MOST 1048576: true; the input reads as it did. -/
def routeBackUptoRow : OpenClaim := { program := "ytpcabeefahldlaa", sum := "b5f4f80639fd2e0ac56568632610d68c05c940424eaceaeeceafd2d3956306ef", func := "phaeton/phaetonlaw12.RouteBack", spec := "routeBack", unfollowed := true, recurses := true, apart := false, narrowed := true }
def RouteBackUptoSaid : Prop := routeBackUptoRow.holds Try.pinned (OpenSpec.upto routeBackSpec)

/-- 'phaetonlaw12.RouteEach', WHERE WHAT IT READS IS OF BULK AT MOST 1048576: true; the input reads as it did. -/
def routeEachUptoRow : OpenClaim := { program := "ytpcabeefahldlaa", sum := "b5f4f80639fd2e0ac56568632610d68c05c940424eaceaeeceafd2d3956306ef", func := "phaeton/phaetonlaw12.RouteEach", spec := "routeEach", unfollowed := true, recurses := true, apart := false, narrowed := true }
def RouteEachUptoSaid : Prop := routeEachUptoRow.holds Try.pinned (OpenSpec.upto routeEachSpec)

end Rows
end Go.Proofs.Ytpcabeefahldlaa

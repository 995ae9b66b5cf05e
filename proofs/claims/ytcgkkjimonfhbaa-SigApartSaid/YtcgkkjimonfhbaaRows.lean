/-
  No cell of these rows narrows 'for every input' (looked for: loops, veiled, ifaces, maps, wideKeys, modest, calm, conditions, laid).
  DERIVED. THE GIVEN ROWS OF THIS SEAT. 8 by the template 'for every input the law returns true; each argument reads behind the call as it read before'; 0 by the template 'total and deterministic' (their statements: YtcgkkjimonfhbaaTotals.lean).
  GIVEN WITH THE SEED: the statements are not yours to turn. If you find one false, say at which input.
  Laid BY PROGRAM, IN A SANDBOX (cutbox-rows.mjs): the forced cells as the released guide's own fill.sh prints them over the translation 6b63e74fa1e15838… (all of the seat's roots in one cut). By AI agents, Wed Nov 11 2026. No macro, syntax, notation, axiom, sorry.
-/
import Derived.Test.YtcgkkjimonfhbaaChecked
import GoSem.Claim
import GoSem.ClaimJoined
import GoSem.ClaimMapViews
import Derived.JoinedTies
import Derived.KernelRfl
namespace Go.Proofs.Ytcgkkjimonfhbaa
/- THE CELL 'sum', in the pinned program and in every row, IS THE sha256 OF THE DUMP (.gsa) THAT YtcgkkjimonfhbaaProg.lean LOADS. Nothing in Lean hashes anything: it is a label: what it is worth is what the hold of that sum in a sandbox is worth. -/
noncomputable def Try.pinned : Pinned := { name := "ytcgkkjimonfhbaa", sum := "6b63e74fa1e158381a2ecbfac398f470cab3dff03f80468a946a1b4122356eaf", checked := Try.checked }
namespace Rows
def none {H : Type} : Left H := { results := [], args := [] }

/-- 'phaetonlaw15.SigTells': WHATEVER THE INPUT: true; the input reads as it did. -/
def sigTellsSpec : ChangeSpec := { name := "sigTells", fn := fun _ => fun
  | [d1, d2, d3] => { results := [.lit (.bool true)], args := [d1, d2, d3] }
  | _ => none }
def sigTellsRow : OpenClaim := { program := "ytcgkkjimonfhbaa", sum := "6b63e74fa1e158381a2ecbfac398f470cab3dff03f80468a946a1b4122356eaf", func := "phaeton/phaetonlaw15.SigTells", spec := "sigTells", unfollowed := true, recurses := true, apart := false }
def SigTellsSaid : Prop := sigTellsRow.holds Try.pinned (OpenSpec.ofChange sigTellsSpec)

/-- ITS FALSE NEIGHBOUR: 'it returns false'. Refute it at one input. -/
def sigTellsWrong : ChangeSpec := { name := "sigTells", fn := fun _ => fun
  | [d1, d2, d3] => { results := [.lit (.bool false)], args := [d1, d2, d3] }
  | _ => none }
def SigTellsWrongFalsely : Prop := sigTellsRow.holds Try.pinned (OpenSpec.ofChange sigTellsWrong)

/-- 'phaetonlaw15.SigBack': WHATEVER THE INPUT: true; the input reads as it did. -/
def sigBackSpec : ChangeSpec := { name := "sigBack", fn := fun _ => fun
  | [d1, d2, d3] => { results := [.lit (.bool true)], args := [d1, d2, d3] }
  | _ => none }
def sigBackRow : OpenClaim := { program := "ytcgkkjimonfhbaa", sum := "6b63e74fa1e158381a2ecbfac398f470cab3dff03f80468a946a1b4122356eaf", func := "phaeton/phaetonlaw15.SigBack", spec := "sigBack", unfollowed := true, recurses := true, apart := false }
def SigBackSaid : Prop := sigBackRow.holds Try.pinned (OpenSpec.ofChange sigBackSpec)

/-- ITS FALSE NEIGHBOUR: 'it returns false'. Refute it at one input. -/
def sigBackWrong : ChangeSpec := { name := "sigBack", fn := fun _ => fun
  | [d1, d2, d3] => { results := [.lit (.bool false)], args := [d1, d2, d3] }
  | _ => none }
def SigBackWrongFalsely : Prop := sigBackRow.holds Try.pinned (OpenSpec.ofChange sigBackWrong)

/-- 'phaetonlaw15.SigPlaces': WHATEVER THE INPUT: true; the input reads as it did. -/
def sigPlacesSpec : ChangeSpec := { name := "sigPlaces", fn := fun _ => fun
  | [d1, d2] => { results := [.lit (.bool true)], args := [d1, d2] }
  | _ => none }
def sigPlacesRow : OpenClaim := { program := "ytcgkkjimonfhbaa", sum := "6b63e74fa1e158381a2ecbfac398f470cab3dff03f80468a946a1b4122356eaf", func := "phaeton/phaetonlaw15.SigPlaces", spec := "sigPlaces", unfollowed := true, recurses := true, apart := false }
def SigPlacesSaid : Prop := sigPlacesRow.holds Try.pinned (OpenSpec.ofChange sigPlacesSpec)

/-- ITS FALSE NEIGHBOUR: 'it returns false'. Refute it at one input. -/
def sigPlacesWrong : ChangeSpec := { name := "sigPlaces", fn := fun _ => fun
  | [d1, d2] => { results := [.lit (.bool false)], args := [d1, d2] }
  | _ => none }
def SigPlacesWrongFalsely : Prop := sigPlacesRow.holds Try.pinned (OpenSpec.ofChange sigPlacesWrong)

/-- 'phaetonlaw15.SigOthers': WHATEVER THE INPUT: true; the input reads as it did. -/
def sigOthersSpec : ChangeSpec := { name := "sigOthers", fn := fun _ => fun
  | [d1, d2, d3] => { results := [.lit (.bool true)], args := [d1, d2, d3] }
  | _ => none }
def sigOthersRow : OpenClaim := { program := "ytcgkkjimonfhbaa", sum := "6b63e74fa1e158381a2ecbfac398f470cab3dff03f80468a946a1b4122356eaf", func := "phaeton/phaetonlaw15.SigOthers", spec := "sigOthers", unfollowed := true, recurses := true, apart := false }
def SigOthersSaid : Prop := sigOthersRow.holds Try.pinned (OpenSpec.ofChange sigOthersSpec)

/-- ITS FALSE NEIGHBOUR: 'it returns false'. Refute it at one input. -/
def sigOthersWrong : ChangeSpec := { name := "sigOthers", fn := fun _ => fun
  | [d1, d2, d3] => { results := [.lit (.bool false)], args := [d1, d2, d3] }
  | _ => none }
def SigOthersWrongFalsely : Prop := sigOthersRow.holds Try.pinned (OpenSpec.ofChange sigOthersWrong)

/-- 'phaetonlaw15.SigApart': WHATEVER THE INPUT: true; the input reads as it did. -/
def sigApartSpec : ChangeSpec := { name := "sigApart", fn := fun _ => fun
  | [d1, d2, d3] => { results := [.lit (.bool true)], args := [d1, d2, d3] }
  | _ => none }
def sigApartRow : OpenClaim := { program := "ytcgkkjimonfhbaa", sum := "6b63e74fa1e158381a2ecbfac398f470cab3dff03f80468a946a1b4122356eaf", func := "phaeton/phaetonlaw15.SigApart", spec := "sigApart", unfollowed := true, recurses := true, apart := false }
def SigApartSaid : Prop := sigApartRow.holds Try.pinned (OpenSpec.ofChange sigApartSpec)

/-- ITS FALSE NEIGHBOUR: 'it returns false'. Refute it at one input. -/
def sigApartWrong : ChangeSpec := { name := "sigApart", fn := fun _ => fun
  | [d1, d2, d3] => { results := [.lit (.bool false)], args := [d1, d2, d3] }
  | _ => none }
def SigApartWrongFalsely : Prop := sigApartRow.holds Try.pinned (OpenSpec.ofChange sigApartWrong)

/-- 'phaetonlaw15.SigAll': WHATEVER THE INPUT: true; the input reads as it did. -/
def sigAllSpec : ChangeSpec := { name := "sigAll", fn := fun _ => fun
  | [d1, d2, d3] => { results := [.lit (.bool true)], args := [d1, d2, d3] }
  | _ => none }
def sigAllRow : OpenClaim := { program := "ytcgkkjimonfhbaa", sum := "6b63e74fa1e158381a2ecbfac398f470cab3dff03f80468a946a1b4122356eaf", func := "phaeton/phaetonlaw15.SigAll", spec := "sigAll", unfollowed := true, recurses := true, apart := false }
def SigAllSaid : Prop := sigAllRow.holds Try.pinned (OpenSpec.ofChange sigAllSpec)

/-- ITS FALSE NEIGHBOUR: 'it returns false'. Refute it at one input. -/
def sigAllWrong : ChangeSpec := { name := "sigAll", fn := fun _ => fun
  | [d1, d2, d3] => { results := [.lit (.bool false)], args := [d1, d2, d3] }
  | _ => none }
def SigAllWrongFalsely : Prop := sigAllRow.holds Try.pinned (OpenSpec.ofChange sigAllWrong)

/-- 'phaetonlaw15.SigMean': WHATEVER THE INPUT: true; the input reads as it did. -/
def sigMeanSpec : ChangeSpec := { name := "sigMean", fn := fun _ => fun
  | [d1, d2, d3] => { results := [.lit (.bool true)], args := [d1, d2, d3] }
  | _ => none }
def sigMeanRow : OpenClaim := { program := "ytcgkkjimonfhbaa", sum := "6b63e74fa1e158381a2ecbfac398f470cab3dff03f80468a946a1b4122356eaf", func := "phaeton/phaetonlaw15.SigMean", spec := "sigMean", unfollowed := true, recurses := true, apart := false }
def SigMeanSaid : Prop := sigMeanRow.holds Try.pinned (OpenSpec.ofChange sigMeanSpec)

/-- ITS FALSE NEIGHBOUR: 'it returns false'. Refute it at one input. -/
def sigMeanWrong : ChangeSpec := { name := "sigMean", fn := fun _ => fun
  | [d1, d2, d3] => { results := [.lit (.bool false)], args := [d1, d2, d3] }
  | _ => none }
def SigMeanWrongFalsely : Prop := sigMeanRow.holds Try.pinned (OpenSpec.ofChange sigMeanWrong)

/-- 'phaetonlaw15.SigEnds': WHATEVER THE INPUT: true; the input reads as it did. -/
def sigEndsSpec : ChangeSpec := { name := "sigEnds", fn := fun _ => fun
  | [d1, d2] => { results := [.lit (.bool true)], args := [d1, d2] }
  | _ => none }
def sigEndsRow : OpenClaim := { program := "ytcgkkjimonfhbaa", sum := "6b63e74fa1e158381a2ecbfac398f470cab3dff03f80468a946a1b4122356eaf", func := "phaeton/phaetonlaw15.SigEnds", spec := "sigEnds", unfollowed := true, recurses := true, apart := false }
def SigEndsSaid : Prop := sigEndsRow.holds Try.pinned (OpenSpec.ofChange sigEndsSpec)

/-- ITS FALSE NEIGHBOUR: 'it returns false'. Refute it at one input. -/
def sigEndsWrong : ChangeSpec := { name := "sigEnds", fn := fun _ => fun
  | [d1, d2] => { results := [.lit (.bool false)], args := [d1, d2] }
  | _ => none }
def SigEndsWrongFalsely : Prop := sigEndsRow.holds Try.pinned (OpenSpec.ofChange sigEndsWrong)

/- THE SECOND FORM. 'bulk': how many values and letters a reading holds, each counted each time it is reached (what is shared counts as often as it is met; a slice's spare places count too). A statement '..UptoSaid' is the law's where the arguments, and the package variables that the reading takes, are together of bulk at most 1048576: NARROWER than '..Said'. Prove '..Said' where nothing that the law and all that it calls make is longer than what came in: it says more and counts as full. Else prove '..UptoSaid'. A law counts once. -/
mutual
def uptoBulk {H : Type} : DataW H → Nat
  | .lit (.string bytes) => bytes.length + 1
  | .lit _ => 1
  | .nil => 1
  | .ptr d => uptoBulk d + 1
  | .slice elems spare => uptoBulkAll elems + uptoBulkAll spare + 1
  | .agg parts => uptoBulkAll parts + 1
  | .iface _ d => uptoBulk d + 1
  | .map entries => uptoBulkEntries entries + 1
  | .held _ => 1
def uptoBulkAll {H : Type} : List (DataW H) → Nat
  | [] => 0
  | d :: r => uptoBulk d + uptoBulkAll r
def uptoBulkEntries {H : Type} : List (Lit × DataW H) → Nat
  | [] => 0
  | x :: r => uptoBulkEntry x + uptoBulkEntries r
def uptoBulkEntry {H : Type} : Lit × DataW H → Nat
  | (.string bytes, d) => bytes.length + uptoBulk d + 1
  | (_, d) => uptoBulk d + 1
 end
def uptoSmall : (H : Type) → List (DataW H) → Bool := fun _ ds => decide (uptoBulkAll ds ≤ 1048576)
def OpenSpec.upto (s : _root_.Go.ChangeSpec) : _root_.Go.OpenSpec := { _root_.Go.OpenSpec.ofChange s with cond := some uptoSmall }

/-- 'phaetonlaw15.SigTells', WHERE WHAT IT READS IS OF BULK AT MOST 1048576: true; the input reads as it did. -/
def sigTellsUptoRow : OpenClaim := { program := "ytcgkkjimonfhbaa", sum := "6b63e74fa1e158381a2ecbfac398f470cab3dff03f80468a946a1b4122356eaf", func := "phaeton/phaetonlaw15.SigTells", spec := "sigTells", unfollowed := true, recurses := true, apart := false, narrowed := true }
def SigTellsUptoSaid : Prop := sigTellsUptoRow.holds Try.pinned (OpenSpec.upto sigTellsSpec)

/-- 'phaetonlaw15.SigBack', WHERE WHAT IT READS IS OF BULK AT MOST 1048576: true; the input reads as it did. -/
def sigBackUptoRow : OpenClaim := { program := "ytcgkkjimonfhbaa", sum := "6b63e74fa1e158381a2ecbfac398f470cab3dff03f80468a946a1b4122356eaf", func := "phaeton/phaetonlaw15.SigBack", spec := "sigBack", unfollowed := true, recurses := true, apart := false, narrowed := true }
def SigBackUptoSaid : Prop := sigBackUptoRow.holds Try.pinned (OpenSpec.upto sigBackSpec)

/-- 'phaetonlaw15.SigPlaces', WHERE WHAT IT READS IS OF BULK AT MOST 1048576: true; the input reads as it did. -/
def sigPlacesUptoRow : OpenClaim := { program := "ytcgkkjimonfhbaa", sum := "6b63e74fa1e158381a2ecbfac398f470cab3dff03f80468a946a1b4122356eaf", func := "phaeton/phaetonlaw15.SigPlaces", spec := "sigPlaces", unfollowed := true, recurses := true, apart := false, narrowed := true }
def SigPlacesUptoSaid : Prop := sigPlacesUptoRow.holds Try.pinned (OpenSpec.upto sigPlacesSpec)

/-- 'phaetonlaw15.SigOthers', WHERE WHAT IT READS IS OF BULK AT MOST 1048576: true; the input reads as it did. -/
def sigOthersUptoRow : OpenClaim := { program := "ytcgkkjimonfhbaa", sum := "6b63e74fa1e158381a2ecbfac398f470cab3dff03f80468a946a1b4122356eaf", func := "phaeton/phaetonlaw15.SigOthers", spec := "sigOthers", unfollowed := true, recurses := true, apart := false, narrowed := true }
def SigOthersUptoSaid : Prop := sigOthersUptoRow.holds Try.pinned (OpenSpec.upto sigOthersSpec)

/-- 'phaetonlaw15.SigApart', WHERE WHAT IT READS IS OF BULK AT MOST 1048576: true; the input reads as it did. -/
def sigApartUptoRow : OpenClaim := { program := "ytcgkkjimonfhbaa", sum := "6b63e74fa1e158381a2ecbfac398f470cab3dff03f80468a946a1b4122356eaf", func := "phaeton/phaetonlaw15.SigApart", spec := "sigApart", unfollowed := true, recurses := true, apart := false, narrowed := true }
def SigApartUptoSaid : Prop := sigApartUptoRow.holds Try.pinned (OpenSpec.upto sigApartSpec)

/-- 'phaetonlaw15.SigAll', WHERE WHAT IT READS IS OF BULK AT MOST 1048576: true; the input reads as it did. -/
def sigAllUptoRow : OpenClaim := { program := "ytcgkkjimonfhbaa", sum := "6b63e74fa1e158381a2ecbfac398f470cab3dff03f80468a946a1b4122356eaf", func := "phaeton/phaetonlaw15.SigAll", spec := "sigAll", unfollowed := true, recurses := true, apart := false, narrowed := true }
def SigAllUptoSaid : Prop := sigAllUptoRow.holds Try.pinned (OpenSpec.upto sigAllSpec)

/-- 'phaetonlaw15.SigMean', WHERE WHAT IT READS IS OF BULK AT MOST 1048576: true; the input reads as it did. -/
def sigMeanUptoRow : OpenClaim := { program := "ytcgkkjimonfhbaa", sum := "6b63e74fa1e158381a2ecbfac398f470cab3dff03f80468a946a1b4122356eaf", func := "phaeton/phaetonlaw15.SigMean", spec := "sigMean", unfollowed := true, recurses := true, apart := false, narrowed := true }
def SigMeanUptoSaid : Prop := sigMeanUptoRow.holds Try.pinned (OpenSpec.upto sigMeanSpec)

/-- 'phaetonlaw15.SigEnds', WHERE WHAT IT READS IS OF BULK AT MOST 1048576: true; the input reads as it did. -/
def sigEndsUptoRow : OpenClaim := { program := "ytcgkkjimonfhbaa", sum := "6b63e74fa1e158381a2ecbfac398f470cab3dff03f80468a946a1b4122356eaf", func := "phaeton/phaetonlaw15.SigEnds", spec := "sigEnds", unfollowed := true, recurses := true, apart := false, narrowed := true }
def SigEndsUptoSaid : Prop := sigEndsUptoRow.holds Try.pinned (OpenSpec.upto sigEndsSpec)

end Rows
end Go.Proofs.Ytcgkkjimonfhbaa

/-
  No cell of these rows narrows 'for every input' (looked for: loops, veiled, ifaces, maps, wideKeys, modest, calm, conditions, laid).
  DERIVED. THE GIVEN ROWS OF THIS SEAT. 7 by the template 'for every input the law returns true; each argument reads behind the call as it read before'; 0 by the template 'total and deterministic' (their statements: YtcbcgfeliainaaaTotals.lean).
  GIVEN WITH THE SEED: the statements are not yours to turn. If you find one false, say at which input.
  Laid BY PROGRAM, IN A SANDBOX (cutbox-rows.mjs): the forced cells as the released guide's own fill.sh prints them over the translation 18b2e6bc2150fe18… (all of the seat's roots in one cut). By AI agents, Wed Nov 11 2026. No macro, syntax, notation, axiom, sorry.
-/
import Derived.Test.YtcbcgfeliainaaaChecked
import GoSem.Claim
import GoSem.ClaimJoined
import GoSem.ClaimMapViews
import Derived.JoinedTies
import Derived.KernelRfl
namespace Go.Proofs.Ytcbcgfeliainaaa
/- THE CELL 'sum', in the pinned program and in every row, IS THE sha256 OF THE DUMP (.gsa) THAT YtcbcgfeliainaaaProg.lean LOADS. Nothing in Lean hashes anything: it is a label: what it is worth is what the hold of that sum in a sandbox is worth. -/
noncomputable def Try.pinned : Pinned := { name := "ytcbcgfeliainaaa", sum := "18b2e6bc2150fe181ee3f8fdf01f9807f18b079fac5a05a8ecc50d9b99129021", checked := Try.checked }
namespace Rows
def none {H : Type} : Left H := { results := [], args := [] }

/-- 'phaetonlaw07.FilterTells': WHATEVER THE INPUT: true; the input reads as it did. -/
def filterTellsSpec : ChangeSpec := { name := "filterTells", fn := fun _ => fun
  | [d1, d2, d3, d4] => { results := [.lit (.bool true)], args := [d1, d2, d3, d4] }
  | _ => none }
def filterTellsRow : OpenClaim := { program := "ytcbcgfeliainaaa", sum := "18b2e6bc2150fe181ee3f8fdf01f9807f18b079fac5a05a8ecc50d9b99129021", func := "phaeton/phaetonlaw07.FilterTells", spec := "filterTells", unfollowed := true, recurses := true, apart := false }
def FilterTellsSaid : Prop := filterTellsRow.holds Try.pinned (OpenSpec.ofChange filterTellsSpec)

/-- ITS FALSE NEIGHBOUR: 'it returns false'. Refute it at one input. -/
def filterTellsWrong : ChangeSpec := { name := "filterTells", fn := fun _ => fun
  | [d1, d2, d3, d4] => { results := [.lit (.bool false)], args := [d1, d2, d3, d4] }
  | _ => none }
def FilterTellsWrongFalsely : Prop := filterTellsRow.holds Try.pinned (OpenSpec.ofChange filterTellsWrong)

/-- 'phaetonlaw07.FilterCovers': WHATEVER THE INPUT: true; the input reads as it did. -/
def filterCoversSpec : ChangeSpec := { name := "filterCovers", fn := fun _ => fun
  | [d1, d2, d3] => { results := [.lit (.bool true)], args := [d1, d2, d3] }
  | _ => none }
def filterCoversRow : OpenClaim := { program := "ytcbcgfeliainaaa", sum := "18b2e6bc2150fe181ee3f8fdf01f9807f18b079fac5a05a8ecc50d9b99129021", func := "phaeton/phaetonlaw07.FilterCovers", spec := "filterCovers", unfollowed := true, recurses := true, apart := false }
def FilterCoversSaid : Prop := filterCoversRow.holds Try.pinned (OpenSpec.ofChange filterCoversSpec)

/-- ITS FALSE NEIGHBOUR: 'it returns false'. Refute it at one input. -/
def filterCoversWrong : ChangeSpec := { name := "filterCovers", fn := fun _ => fun
  | [d1, d2, d3] => { results := [.lit (.bool false)], args := [d1, d2, d3] }
  | _ => none }
def FilterCoversWrongFalsely : Prop := filterCoversRow.holds Try.pinned (OpenSpec.ofChange filterCoversWrong)

/-- 'phaetonlaw07.FilterMeets': WHATEVER THE INPUT: true; the input reads as it did. -/
def filterMeetsSpec : ChangeSpec := { name := "filterMeets", fn := fun _ => fun
  | [d1, d2, d3] => { results := [.lit (.bool true)], args := [d1, d2, d3] }
  | _ => none }
def filterMeetsRow : OpenClaim := { program := "ytcbcgfeliainaaa", sum := "18b2e6bc2150fe181ee3f8fdf01f9807f18b079fac5a05a8ecc50d9b99129021", func := "phaeton/phaetonlaw07.FilterMeets", spec := "filterMeets", unfollowed := true, recurses := true, apart := false }
def FilterMeetsSaid : Prop := filterMeetsRow.holds Try.pinned (OpenSpec.ofChange filterMeetsSpec)

/-- ITS FALSE NEIGHBOUR: 'it returns false'. Refute it at one input. -/
def filterMeetsWrong : ChangeSpec := { name := "filterMeets", fn := fun _ => fun
  | [d1, d2, d3] => { results := [.lit (.bool false)], args := [d1, d2, d3] }
  | _ => none }
def FilterMeetsWrongFalsely : Prop := filterMeetsRow.holds Try.pinned (OpenSpec.ofChange filterMeetsWrong)

/-- 'phaetonlaw07.FilterOrder': WHATEVER THE INPUT: true; the input reads as it did. -/
def filterOrderSpec : ChangeSpec := { name := "filterOrder", fn := fun _ => fun
  | [d1, d2, d3] => { results := [.lit (.bool true)], args := [d1, d2, d3] }
  | _ => none }
def filterOrderRow : OpenClaim := { program := "ytcbcgfeliainaaa", sum := "18b2e6bc2150fe181ee3f8fdf01f9807f18b079fac5a05a8ecc50d9b99129021", func := "phaeton/phaetonlaw07.FilterOrder", spec := "filterOrder", unfollowed := true, recurses := true, apart := false }
def FilterOrderSaid : Prop := filterOrderRow.holds Try.pinned (OpenSpec.ofChange filterOrderSpec)

/-- ITS FALSE NEIGHBOUR: 'it returns false'. Refute it at one input. -/
def filterOrderWrong : ChangeSpec := { name := "filterOrder", fn := fun _ => fun
  | [d1, d2, d3] => { results := [.lit (.bool false)], args := [d1, d2, d3] }
  | _ => none }
def FilterOrderWrongFalsely : Prop := filterOrderRow.holds Try.pinned (OpenSpec.ofChange filterOrderWrong)

/-- 'phaetonlaw07.FilterAny': WHATEVER THE INPUT: true; the input reads as it did. -/
def filterAnySpec : ChangeSpec := { name := "filterAny", fn := fun _ => fun
  | [d1, d2, d3] => { results := [.lit (.bool true)], args := [d1, d2, d3] }
  | _ => none }
def filterAnyRow : OpenClaim := { program := "ytcbcgfeliainaaa", sum := "18b2e6bc2150fe181ee3f8fdf01f9807f18b079fac5a05a8ecc50d9b99129021", func := "phaeton/phaetonlaw07.FilterAny", spec := "filterAny", unfollowed := true, recurses := true, apart := false }
def FilterAnySaid : Prop := filterAnyRow.holds Try.pinned (OpenSpec.ofChange filterAnySpec)

/-- ITS FALSE NEIGHBOUR: 'it returns false'. Refute it at one input. -/
def filterAnyWrong : ChangeSpec := { name := "filterAny", fn := fun _ => fun
  | [d1, d2, d3] => { results := [.lit (.bool false)], args := [d1, d2, d3] }
  | _ => none }
def FilterAnyWrongFalsely : Prop := filterAnyRow.holds Try.pinned (OpenSpec.ofChange filterAnyWrong)

/-- 'phaetonlaw07.FilterData': WHATEVER THE INPUT: true; the input reads as it did. -/
def filterDataSpec : ChangeSpec := { name := "filterData", fn := fun _ => fun
  | [d1, d2, d3] => { results := [.lit (.bool true)], args := [d1, d2, d3] }
  | _ => none }
def filterDataRow : OpenClaim := { program := "ytcbcgfeliainaaa", sum := "18b2e6bc2150fe181ee3f8fdf01f9807f18b079fac5a05a8ecc50d9b99129021", func := "phaeton/phaetonlaw07.FilterData", spec := "filterData", unfollowed := true, recurses := true, apart := false }
def FilterDataSaid : Prop := filterDataRow.holds Try.pinned (OpenSpec.ofChange filterDataSpec)

/-- ITS FALSE NEIGHBOUR: 'it returns false'. Refute it at one input. -/
def filterDataWrong : ChangeSpec := { name := "filterData", fn := fun _ => fun
  | [d1, d2, d3] => { results := [.lit (.bool false)], args := [d1, d2, d3] }
  | _ => none }
def FilterDataWrongFalsely : Prop := filterDataRow.holds Try.pinned (OpenSpec.ofChange filterDataWrong)

/-- 'phaetonlaw07.FilterSplit': WHATEVER THE INPUT: true; the input reads as it did. -/
def filterSplitSpec : ChangeSpec := { name := "filterSplit", fn := fun _ => fun
  | [d1, d2, d3] => { results := [.lit (.bool true)], args := [d1, d2, d3] }
  | _ => none }
def filterSplitRow : OpenClaim := { program := "ytcbcgfeliainaaa", sum := "18b2e6bc2150fe181ee3f8fdf01f9807f18b079fac5a05a8ecc50d9b99129021", func := "phaeton/phaetonlaw07.FilterSplit", spec := "filterSplit", unfollowed := true, recurses := true, apart := false }
def FilterSplitSaid : Prop := filterSplitRow.holds Try.pinned (OpenSpec.ofChange filterSplitSpec)

/-- ITS FALSE NEIGHBOUR: 'it returns false'. Refute it at one input. -/
def filterSplitWrong : ChangeSpec := { name := "filterSplit", fn := fun _ => fun
  | [d1, d2, d3] => { results := [.lit (.bool false)], args := [d1, d2, d3] }
  | _ => none }
def FilterSplitWrongFalsely : Prop := filterSplitRow.holds Try.pinned (OpenSpec.ofChange filterSplitWrong)

/- THE SECOND FORM. 'bulk': how many values and letters a reading holds, each counted each time it is reached (what is shared counts as often as it is met; a slice's spare places count too). A statement '..UptoSaid' is the law's where the arguments, and the package variables that the reading takes, are together of bulk at most 1048576: NARROWER than '..Said'. Prove '..Said' where nothing that the law and all that it calls make is longer than what came in: it says more and counts as full. Else prove '..UptoSaid'. A law counts once. -/
mutual
def uptoBulk {H : Type} : DataW H → Nat
  | .lit (.string bytes) => bytes.length + 1
  | .lit _ => 1
  | .nil => 1
  | .ptr d => uptoBulk d + 1
  | .slice elems spare => uptoBulkAll elems + uptoBulkAll spare + 1
  | .agg parts => uptoBulkAll parts + 1
  | .iface _ d => uptoBulk d + 1
  | .map entries => uptoBulkEntries entries + 1
  | .held _ => 1
def uptoBulkAll {H : Type} : List (DataW H) → Nat
  | [] => 0
  | d :: r => uptoBulk d + uptoBulkAll r
def uptoBulkEntries {H : Type} : List (Lit × DataW H) → Nat
  | [] => 0
  | x :: r => uptoBulkEntry x + uptoBulkEntries r
def uptoBulkEntry {H : Type} : Lit × DataW H → Nat
  | (.string bytes, d) => bytes.length + uptoBulk d + 1
  | (_, d) => uptoBulk d + 1
 end
def uptoSmall : (H : Type) → List (DataW H) → Bool := fun _ ds => decide (uptoBulkAll ds ≤ 1048576)
def OpenSpec.upto (s : _root_.Go.ChangeSpec) : _root_.Go.OpenSpec := { _root_.Go.OpenSpec.ofChange s with cond := some uptoSmall }

/-- 'phaetonlaw07.FilterTells', WHERE WHAT IT READS IS OF BULK AT MOST 1048576: true; the input reads as it did. -/
def filterTellsUptoRow : OpenClaim := { program := "ytcbcgfeliainaaa", sum := "18b2e6bc2150fe181ee3f8fdf01f9807f18b079fac5a05a8ecc50d9b99129021", func := "phaeton/phaetonlaw07.FilterTells", spec := "filterTells", unfollowed := true, recurses := true, apart := false, narrowed := true }
def FilterTellsUptoSaid : Prop := filterTellsUptoRow.holds Try.pinned (OpenSpec.upto filterTellsSpec)

/-- 'phaetonlaw07.FilterCovers', WHERE WHAT IT READS IS OF BULK AT MOST 1048576: true; the input reads as it did. -/
def filterCoversUptoRow : OpenClaim := { program := "ytcbcgfeliainaaa", sum := "18b2e6bc2150fe181ee3f8fdf01f9807f18b079fac5a05a8ecc50d9b99129021", func := "phaeton/phaetonlaw07.FilterCovers", spec := "filterCovers", unfollowed := true, recurses := true, apart := false, narrowed := true }
def FilterCoversUptoSaid : Prop := filterCoversUptoRow.holds Try.pinned (OpenSpec.upto filterCoversSpec)

/-- 'phaetonlaw07.FilterMeets', WHERE WHAT IT READS IS OF BULK AT MOST 1048576: true; the input reads as it did. -/
def filterMeetsUptoRow : OpenClaim := { program := "ytcbcgfeliainaaa", sum := "18b2e6bc2150fe181ee3f8fdf01f9807f18b079fac5a05a8ecc50d9b99129021", func := "phaeton/phaetonlaw07.FilterMeets", spec := "filterMeets", unfollowed := true, recurses := true, apart := false, narrowed := true }
def FilterMeetsUptoSaid : Prop := filterMeetsUptoRow.holds Try.pinned (OpenSpec.upto filterMeetsSpec)

/-- 'phaetonlaw07.FilterOrder', WHERE WHAT IT READS IS OF BULK AT MOST 1048576: true; the input reads as it did. -/
def filterOrderUptoRow : OpenClaim := { program := "ytcbcgfeliainaaa", sum := "18b2e6bc2150fe181ee3f8fdf01f9807f18b079fac5a05a8ecc50d9b99129021", func := "phaeton/phaetonlaw07.FilterOrder", spec := "filterOrder", unfollowed := true, recurses := true, apart := false, narrowed := true }
def FilterOrderUptoSaid : Prop := filterOrderUptoRow.holds Try.pinned (OpenSpec.upto filterOrderSpec)

/-- 'phaetonlaw07.FilterAny', WHERE WHAT IT READS IS OF BULK AT MOST 1048576: true; the input reads as it did. -/
def filterAnyUptoRow : OpenClaim := { program := "ytcbcgfeliainaaa", sum := "18b2e6bc2150fe181ee3f8fdf01f9807f18b079fac5a05a8ecc50d9b99129021", func := "phaeton/phaetonlaw07.FilterAny", spec := "filterAny", unfollowed := true, recurses := true, apart := false, narrowed := true }
def FilterAnyUptoSaid : Prop := filterAnyUptoRow.holds Try.pinned (OpenSpec.upto filterAnySpec)

/-- 'phaetonlaw07.FilterData', WHERE WHAT IT READS IS OF BULK AT MOST 1048576: true; the input reads as it did. -/
def filterDataUptoRow : OpenClaim := { program := "ytcbcgfeliainaaa", sum := "18b2e6bc2150fe181ee3f8fdf01f9807f18b079fac5a05a8ecc50d9b99129021", func := "phaeton/phaetonlaw07.FilterData", spec := "filterData", unfollowed := true, recurses := true, apart := false, narrowed := true }
def FilterDataUptoSaid : Prop := filterDataUptoRow.holds Try.pinned (OpenSpec.upto filterDataSpec)

/-- 'phaetonlaw07.FilterSplit', WHERE WHAT IT READS IS OF BULK AT MOST 1048576: true; the input reads as it did. -/
def filterSplitUptoRow : OpenClaim := { program := "ytcbcgfeliainaaa", sum := "18b2e6bc2150fe181ee3f8fdf01f9807f18b079fac5a05a8ecc50d9b99129021", func := "phaeton/phaetonlaw07.FilterSplit", spec := "filterSplit", unfollowed := true, recurses := true, apart := false, narrowed := true }
def FilterSplitUptoSaid : Prop := filterSplitUptoRow.holds Try.pinned (OpenSpec.upto filterSplitSpec)

end Rows
end Go.Proofs.Ytcbcgfeliainaaa

/-
  NARROWER THAN 'FOR EVERY INPUT', by the rows' own cells (each row's printed sentence says how): TopGreater: laid · TopRecords: laid · TopForever: laid · TopForged: laid · TopWhole: laid · TopCut: laid · TopWears: laid · TopBootCut: laid · TopTurns: laid.
  DERIVED. THE GIVEN ROWS OF THIS SEAT. 9 by the template 'for every input the law returns true; each argument reads behind the call as it read before'; 0 by the template 'total and deterministic' (their statements: YtoifmpiikopelaaDoorTotals.lean).
  GIVEN WITH THE SEED: the statements are not yours to turn. If you find one false, say at which input.
  Laid BY PROGRAM, IN A SANDBOX (cutbox-rows.mjs): the forced cells as the released guide's own fill.sh prints them over the translation 7b52daa540fdd651… (all of the seat's roots in one cut). By AI agents, Wed Nov 11 2026. No macro, syntax, notation, axiom, sorry.
-/
import Derived.Test.YtoifmpiikopelaaDoorChecked
import GoSem.Claim
import GoSem.ClaimJoined
import GoSem.ClaimMapViews
import Derived.JoinedTies
import Derived.KernelRfl
namespace Go.Proofs.YtoifmpiikopelaaDoor
/- THE CELL 'sum', in the pinned program and in every row, IS THE sha256 OF THE DUMP (.gsa) THAT YtoifmpiikopelaaDoorProg.lean LOADS. Nothing in Lean hashes anything: it is a label: what it is worth is what the hold of that sum in a sandbox is worth. -/
noncomputable def Tryd.pinned : Pinned := { name := "ytoifmpiikopelaadoor", sum := "7b52daa540fdd65169af425f10c0f012a5fa69bedce321f4849fa64fc17e3568", checked := Tryd.checked }
namespace Rows
def none {H : Type} : Left H := { results := [], args := [] }

/- WHAT THE LISTED PACKAGE-LEVEL VARIABLES READ AS WHEN THE CALL BEGINS. Each datum BY PROGRAM (the guide's laid-datum.mjs) off the statement by which the dump's own 'gosem.cut.vars' lays the variable. In a bare row this is a premise. The card (YtoifmpiikopelaaDoorCards.lean) ties it to the program's text. -/
def laid_bytes_ErrTooLarge {H : Type} : DataW H := .iface "*errors.errorString" (.ptr (.agg [.lit (.string [98, 121, 116, 101, 115, 46, 66, 117, 102, 102, 101, 114, 58, 32, 116, 111, 111, 32, 108, 97, 114, 103, 101])]))

/-- 'phaetontop.TopGreater': WHATEVER THE INPUT: true; the input reads as it did. -/
def topGreaterSpec : ChangeSpec := { name := "topGreater", fn := fun _ => fun
  | [d1, d2, d3, d4] => { results := [.lit (.bool true)], args := [d1, d2, d3, d4] }
  | _ => none }
def topGreaterRow : OpenClaim := { program := "ytoifmpiikopelaadoor", sum := "7b52daa540fdd65169af425f10c0f012a5fa69bedce321f4849fa64fc17e3568", func := "phaeton/phaetontop.TopGreater", spec := "topGreater", inPlace := ["internal/bytealg.MakeNoZero", "internal/reflectlite.TypeOf"], unfollowed := true, recurses := true, named := ["bytes.ErrTooLarge"], apart := false, laid := [("bytes.ErrTooLarge", laid_bytes_ErrTooLarge)] }
def TopGreaterSaid : Prop := topGreaterRow.holds Tryd.pinned (OpenSpec.ofChange topGreaterSpec)

/-- ITS FALSE NEIGHBOUR: 'it returns false'. Refute it at one input. -/
def topGreaterWrong : ChangeSpec := { name := "topGreater", fn := fun _ => fun
  | [d1, d2, d3, d4] => { results := [.lit (.bool false)], args := [d1, d2, d3, d4] }
  | _ => none }
def TopGreaterWrongFalsely : Prop := topGreaterRow.holds Tryd.pinned (OpenSpec.ofChange topGreaterWrong)

/-- 'phaetontop.TopRecords': WHATEVER THE INPUT: true; the input reads as it did. -/
def topRecordsSpec : ChangeSpec := { name := "topRecords", fn := fun _ => fun
  | [d1, d2, d3, d4] => { results := [.lit (.bool true)], args := [d1, d2, d3, d4] }
  | _ => none }
def topRecordsRow : OpenClaim := { program := "ytoifmpiikopelaadoor", sum := "7b52daa540fdd65169af425f10c0f012a5fa69bedce321f4849fa64fc17e3568", func := "phaeton/phaetontop.TopRecords", spec := "topRecords", inPlace := ["internal/bytealg.MakeNoZero", "internal/reflectlite.TypeOf"], unfollowed := true, recurses := true, named := ["bytes.ErrTooLarge"], apart := false, laid := [("bytes.ErrTooLarge", laid_bytes_ErrTooLarge)] }
def TopRecordsSaid : Prop := topRecordsRow.holds Tryd.pinned (OpenSpec.ofChange topRecordsSpec)

/-- ITS FALSE NEIGHBOUR: 'it returns false'. Refute it at one input. -/
def topRecordsWrong : ChangeSpec := { name := "topRecords", fn := fun _ => fun
  | [d1, d2, d3, d4] => { results := [.lit (.bool false)], args := [d1, d2, d3, d4] }
  | _ => none }
def TopRecordsWrongFalsely : Prop := topRecordsRow.holds Tryd.pinned (OpenSpec.ofChange topRecordsWrong)

/-- 'phaetontop.TopForever': WHATEVER THE INPUT: true; the input reads as it did. -/
def topForeverSpec : ChangeSpec := { name := "topForever", fn := fun _ => fun
  | [d1, d2, d3, d4] => { results := [.lit (.bool true)], args := [d1, d2, d3, d4] }
  | _ => none }
def topForeverRow : OpenClaim := { program := "ytoifmpiikopelaadoor", sum := "7b52daa540fdd65169af425f10c0f012a5fa69bedce321f4849fa64fc17e3568", func := "phaeton/phaetontop.TopForever", spec := "topForever", inPlace := ["internal/bytealg.MakeNoZero", "internal/reflectlite.TypeOf"], unfollowed := true, recurses := true, named := ["bytes.ErrTooLarge"], apart := false, laid := [("bytes.ErrTooLarge", laid_bytes_ErrTooLarge)] }
def TopForeverSaid : Prop := topForeverRow.holds Tryd.pinned (OpenSpec.ofChange topForeverSpec)

/-- ITS FALSE NEIGHBOUR: 'it returns false'. Refute it at one input. -/
def topForeverWrong : ChangeSpec := { name := "topForever", fn := fun _ => fun
  | [d1, d2, d3, d4] => { results := [.lit (.bool false)], args := [d1, d2, d3, d4] }
  | _ => none }
def TopForeverWrongFalsely : Prop := topForeverRow.holds Tryd.pinned (OpenSpec.ofChange topForeverWrong)

/-- 'phaetontop.TopForged': WHATEVER THE INPUT: true; the input reads as it did. -/
def topForgedSpec : ChangeSpec := { name := "topForged", fn := fun _ => fun
  | [d1, d2, d3, d4, d5] => { results := [.lit (.bool true)], args := [d1, d2, d3, d4, d5] }
  | _ => none }
def topForgedRow : OpenClaim := { program := "ytoifmpiikopelaadoor", sum := "7b52daa540fdd65169af425f10c0f012a5fa69bedce321f4849fa64fc17e3568", func := "phaeton/phaetontop.TopForged", spec := "topForged", inPlace := ["internal/bytealg.MakeNoZero", "internal/reflectlite.TypeOf"], unfollowed := true, recurses := true, named := ["bytes.ErrTooLarge"], apart := false, laid := [("bytes.ErrTooLarge", laid_bytes_ErrTooLarge)] }
def TopForgedSaid : Prop := topForgedRow.holds Tryd.pinned (OpenSpec.ofChange topForgedSpec)

/-- ITS FALSE NEIGHBOUR: 'it returns false'. Refute it at one input. -/
def topForgedWrong : ChangeSpec := { name := "topForged", fn := fun _ => fun
  | [d1, d2, d3, d4, d5] => { results := [.lit (.bool false)], args := [d1, d2, d3, d4, d5] }
  | _ => none }
def TopForgedWrongFalsely : Prop := topForgedRow.holds Tryd.pinned (OpenSpec.ofChange topForgedWrong)

/-- 'phaetontop.TopWhole': WHATEVER THE INPUT: true; the input reads as it did. -/
def topWholeSpec : ChangeSpec := { name := "topWhole", fn := fun _ => fun
  | [d1, d2, d3, d4, d5] => { results := [.lit (.bool true)], args := [d1, d2, d3, d4, d5] }
  | _ => none }
def topWholeRow : OpenClaim := { program := "ytoifmpiikopelaadoor", sum := "7b52daa540fdd65169af425f10c0f012a5fa69bedce321f4849fa64fc17e3568", func := "phaeton/phaetontop.TopWhole", spec := "topWhole", inPlace := ["internal/bytealg.MakeNoZero", "internal/reflectlite.TypeOf"], unfollowed := true, recurses := true, named := ["bytes.ErrTooLarge"], apart := false, laid := [("bytes.ErrTooLarge", laid_bytes_ErrTooLarge)] }
def TopWholeSaid : Prop := topWholeRow.holds Tryd.pinned (OpenSpec.ofChange topWholeSpec)

/-- ITS FALSE NEIGHBOUR: 'it returns false'. Refute it at one input. -/
def topWholeWrong : ChangeSpec := { name := "topWhole", fn := fun _ => fun
  | [d1, d2, d3, d4, d5] => { results := [.lit (.bool false)], args := [d1, d2, d3, d4, d5] }
  | _ => none }
def TopWholeWrongFalsely : Prop := topWholeRow.holds Tryd.pinned (OpenSpec.ofChange topWholeWrong)

/-- 'phaetontop.TopCut': WHATEVER THE INPUT: true; the input reads as it did. -/
def topCutSpec : ChangeSpec := { name := "topCut", fn := fun _ => fun
  | [d1, d2, d3, d4] => { results := [.lit (.bool true)], args := [d1, d2, d3, d4] }
  | _ => none }
def topCutRow : OpenClaim := { program := "ytoifmpiikopelaadoor", sum := "7b52daa540fdd65169af425f10c0f012a5fa69bedce321f4849fa64fc17e3568", func := "phaeton/phaetontop.TopCut", spec := "topCut", inPlace := ["internal/bytealg.MakeNoZero", "internal/reflectlite.TypeOf"], unfollowed := true, recurses := true, named := ["bytes.ErrTooLarge"], apart := false, laid := [("bytes.ErrTooLarge", laid_bytes_ErrTooLarge)] }
def TopCutSaid : Prop := topCutRow.holds Tryd.pinned (OpenSpec.ofChange topCutSpec)

/-- ITS FALSE NEIGHBOUR: 'it returns false'. Refute it at one input. -/
def topCutWrong : ChangeSpec := { name := "topCut", fn := fun _ => fun
  | [d1, d2, d3, d4] => { results := [.lit (.bool false)], args := [d1, d2, d3, d4] }
  | _ => none }
def TopCutWrongFalsely : Prop := topCutRow.holds Tryd.pinned (OpenSpec.ofChange topCutWrong)

/-- 'phaetontop.TopWears': WHATEVER THE INPUT: true; the input reads as it did. -/
def topWearsSpec : ChangeSpec := { name := "topWears", fn := fun _ => fun
  | [d1, d2, d3] => { results := [.lit (.bool true)], args := [d1, d2, d3] }
  | _ => none }
def topWearsRow : OpenClaim := { program := "ytoifmpiikopelaadoor", sum := "7b52daa540fdd65169af425f10c0f012a5fa69bedce321f4849fa64fc17e3568", func := "phaeton/phaetontop.TopWears", spec := "topWears", inPlace := ["internal/bytealg.MakeNoZero", "internal/reflectlite.TypeOf"], unfollowed := true, recurses := true, named := ["bytes.ErrTooLarge"], apart := false, laid := [("bytes.ErrTooLarge", laid_bytes_ErrTooLarge)] }
def TopWearsSaid : Prop := topWearsRow.holds Tryd.pinned (OpenSpec.ofChange topWearsSpec)

/-- ITS FALSE NEIGHBOUR: 'it returns false'. Refute it at one input. -/
def topWearsWrong : ChangeSpec := { name := "topWears", fn := fun _ => fun
  | [d1, d2, d3] => { results := [.lit (.bool false)], args := [d1, d2, d3] }
  | _ => none }
def TopWearsWrongFalsely : Prop := topWearsRow.holds Tryd.pinned (OpenSpec.ofChange topWearsWrong)

/-- 'phaetontop.TopBootCut': WHATEVER THE INPUT: true; the input reads as it did. -/
def topBootCutSpec : ChangeSpec := { name := "topBootCut", fn := fun _ => fun
  | [d1, d2, d3, d4] => { results := [.lit (.bool true)], args := [d1, d2, d3, d4] }
  | _ => none }
def topBootCutRow : OpenClaim := { program := "ytoifmpiikopelaadoor", sum := "7b52daa540fdd65169af425f10c0f012a5fa69bedce321f4849fa64fc17e3568", func := "phaeton/phaetontop.TopBootCut", spec := "topBootCut", inPlace := ["internal/bytealg.MakeNoZero", "internal/reflectlite.TypeOf"], unfollowed := true, recurses := true, named := ["bytes.ErrTooLarge"], apart := false, laid := [("bytes.ErrTooLarge", laid_bytes_ErrTooLarge)] }
def TopBootCutSaid : Prop := topBootCutRow.holds Tryd.pinned (OpenSpec.ofChange topBootCutSpec)

/-- ITS FALSE NEIGHBOUR: 'it returns false'. Refute it at one input. -/
def topBootCutWrong : ChangeSpec := { name := "topBootCut", fn := fun _ => fun
  | [d1, d2, d3, d4] => { results := [.lit (.bool false)], args := [d1, d2, d3, d4] }
  | _ => none }
def TopBootCutWrongFalsely : Prop := topBootCutRow.holds Tryd.pinned (OpenSpec.ofChange topBootCutWrong)

/-- 'phaetontop.TopTurns': WHATEVER THE INPUT: true; the input reads as it did. -/
def topTurnsSpec : ChangeSpec := { name := "topTurns", fn := fun _ => fun
  | [d1, d2] => { results := [.lit (.bool true)], args := [d1, d2] }
  | _ => none }
def topTurnsRow : OpenClaim := { program := "ytoifmpiikopelaadoor", sum := "7b52daa540fdd65169af425f10c0f012a5fa69bedce321f4849fa64fc17e3568", func := "phaeton/phaetontop.TopTurns", spec := "topTurns", inPlace := ["internal/bytealg.MakeNoZero", "internal/reflectlite.TypeOf"], unfollowed := true, recurses := true, named := ["bytes.ErrTooLarge"], apart := false, laid := [("bytes.ErrTooLarge", laid_bytes_ErrTooLarge)] }
def TopTurnsSaid : Prop := topTurnsRow.holds Tryd.pinned (OpenSpec.ofChange topTurnsSpec)

/-- ITS FALSE NEIGHBOUR: 'it returns false'. Refute it at one input. -/
def topTurnsWrong : ChangeSpec := { name := "topTurns", fn := fun _ => fun
  | [d1, d2] => { results := [.lit (.bool false)], args := [d1, d2] }
  | _ => none }
def TopTurnsWrongFalsely : Prop := topTurnsRow.holds Tryd.pinned (OpenSpec.ofChange topTurnsWrong)

/- THE SECOND FORM. 'bulk': how many values and letters a reading holds, each counted each time it is reached (what is shared counts as often as it is met; a slice's spare places count too). A statement '..UptoSaid' is the law's where the arguments, and the package variables that the reading takes, are together of bulk at most 1048576: NARROWER than '..Said'. Prove '..Said' where nothing that the law and all that it calls make is longer than what came in: it says more and counts as full. Else prove '..UptoSaid'. A law counts once. -/
mutual
def uptoBulk {H : Type} : DataW H → Nat
  | .lit (.string bytes) => bytes.length + 1
  | .lit _ => 1
  | .nil => 1
  | .ptr d => uptoBulk d + 1
  | .slice elems spare => uptoBulkAll elems + uptoBulkAll spare + 1
  | .agg parts => uptoBulkAll parts + 1
  | .iface _ d => uptoBulk d + 1
  | .map entries => uptoBulkEntries entries + 1
  | .held _ => 1
def uptoBulkAll {H : Type} : List (DataW H) → Nat
  | [] => 0
  | d :: r => uptoBulk d + uptoBulkAll r
def uptoBulkEntries {H : Type} : List (Lit × DataW H) → Nat
  | [] => 0
  | x :: r => uptoBulkEntry x + uptoBulkEntries r
def uptoBulkEntry {H : Type} : Lit × DataW H → Nat
  | (.string bytes, d) => bytes.length + uptoBulk d + 1
  | (_, d) => uptoBulk d + 1
 end
def uptoSmall : (H : Type) → List (DataW H) → Bool := fun _ ds => decide (uptoBulkAll ds ≤ 1048576)
def OpenSpec.upto (s : _root_.Go.ChangeSpec) : _root_.Go.OpenSpec := { _root_.Go.OpenSpec.ofChange s with cond := some uptoSmall }

/-- 'phaetontop.TopGreater', WHERE WHAT IT READS IS OF BULK AT MOST 1048576: true; the input reads as it did. -/
def topGreaterUptoRow : OpenClaim := { program := "ytoifmpiikopelaadoor", sum := "7b52daa540fdd65169af425f10c0f012a5fa69bedce321f4849fa64fc17e3568", func := "phaeton/phaetontop.TopGreater", spec := "topGreater", inPlace := ["internal/bytealg.MakeNoZero", "internal/reflectlite.TypeOf"], unfollowed := true, recurses := true, named := ["bytes.ErrTooLarge"], apart := false, laid := [("bytes.ErrTooLarge", laid_bytes_ErrTooLarge)], narrowed := true }
def TopGreaterUptoSaid : Prop := topGreaterUptoRow.holds Tryd.pinned (OpenSpec.upto topGreaterSpec)

/-- 'phaetontop.TopRecords', WHERE WHAT IT READS IS OF BULK AT MOST 1048576: true; the input reads as it did. -/
def topRecordsUptoRow : OpenClaim := { program := "ytoifmpiikopelaadoor", sum := "7b52daa540fdd65169af425f10c0f012a5fa69bedce321f4849fa64fc17e3568", func := "phaeton/phaetontop.TopRecords", spec := "topRecords", inPlace := ["internal/bytealg.MakeNoZero", "internal/reflectlite.TypeOf"], unfollowed := true, recurses := true, named := ["bytes.ErrTooLarge"], apart := false, laid := [("bytes.ErrTooLarge", laid_bytes_ErrTooLarge)], narrowed := true }
def TopRecordsUptoSaid : Prop := topRecordsUptoRow.holds Tryd.pinned (OpenSpec.upto topRecordsSpec)

/-- 'phaetontop.TopForever', WHERE WHAT IT READS IS OF BULK AT MOST 1048576: true; the input reads as it did. -/
def topForeverUptoRow : OpenClaim := { program := "ytoifmpiikopelaadoor", sum := "7b52daa540fdd65169af425f10c0f012a5fa69bedce321f4849fa64fc17e3568", func := "phaeton/phaetontop.TopForever", spec := "topForever", inPlace := ["internal/bytealg.MakeNoZero", "internal/reflectlite.TypeOf"], unfollowed := true, recurses := true, named := ["bytes.ErrTooLarge"], apart := false, laid := [("bytes.ErrTooLarge", laid_bytes_ErrTooLarge)], narrowed := true }
def TopForeverUptoSaid : Prop := topForeverUptoRow.holds Tryd.pinned (OpenSpec.upto topForeverSpec)

/-- 'phaetontop.TopForged', WHERE WHAT IT READS IS OF BULK AT MOST 1048576: true; the input reads as it did. -/
def topForgedUptoRow : OpenClaim := { program := "ytoifmpiikopelaadoor", sum := "7b52daa540fdd65169af425f10c0f012a5fa69bedce321f4849fa64fc17e3568", func := "phaeton/phaetontop.TopForged", spec := "topForged", inPlace := ["internal/bytealg.MakeNoZero", "internal/reflectlite.TypeOf"], unfollowed := true, recurses := true, named := ["bytes.ErrTooLarge"], apart := false, laid := [("bytes.ErrTooLarge", laid_bytes_ErrTooLarge)], narrowed := true }
def TopForgedUptoSaid : Prop := topForgedUptoRow.holds Tryd.pinned (OpenSpec.upto topForgedSpec)

/-- 'phaetontop.TopWhole', WHERE WHAT IT READS IS OF BULK AT MOST 1048576: true; the input reads as it did. -/
def topWholeUptoRow : OpenClaim := { program := "ytoifmpiikopelaadoor", sum := "7b52daa540fdd65169af425f10c0f012a5fa69bedce321f4849fa64fc17e3568", func := "phaeton/phaetontop.TopWhole", spec := "topWhole", inPlace := ["internal/bytealg.MakeNoZero", "internal/reflectlite.TypeOf"], unfollowed := true, recurses := true, named := ["bytes.ErrTooLarge"], apart := false, laid := [("bytes.ErrTooLarge", laid_bytes_ErrTooLarge)], narrowed := true }
def TopWholeUptoSaid : Prop := topWholeUptoRow.holds Tryd.pinned (OpenSpec.upto topWholeSpec)

/-- 'phaetontop.TopCut', WHERE WHAT IT READS IS OF BULK AT MOST 1048576: true; the input reads as it did. -/
def topCutUptoRow : OpenClaim := { program := "ytoifmpiikopelaadoor", sum := "7b52daa540fdd65169af425f10c0f012a5fa69bedce321f4849fa64fc17e3568", func := "phaeton/phaetontop.TopCut", spec := "topCut", inPlace := ["internal/bytealg.MakeNoZero", "internal/reflectlite.TypeOf"], unfollowed := true, recurses := true, named := ["bytes.ErrTooLarge"], apart := false, laid := [("bytes.ErrTooLarge", laid_bytes_ErrTooLarge)], narrowed := true }
def TopCutUptoSaid : Prop := topCutUptoRow.holds Tryd.pinned (OpenSpec.upto topCutSpec)

/-- 'phaetontop.TopWears', WHERE WHAT IT READS IS OF BULK AT MOST 1048576: true; the input reads as it did. -/
def topWearsUptoRow : OpenClaim := { program := "ytoifmpiikopelaadoor", sum := "7b52daa540fdd65169af425f10c0f012a5fa69bedce321f4849fa64fc17e3568", func := "phaeton/phaetontop.TopWears", spec := "topWears", inPlace := ["internal/bytealg.MakeNoZero", "internal/reflectlite.TypeOf"], unfollowed := true, recurses := true, named := ["bytes.ErrTooLarge"], apart := false, laid := [("bytes.ErrTooLarge", laid_bytes_ErrTooLarge)], narrowed := true }
def TopWearsUptoSaid : Prop := topWearsUptoRow.holds Tryd.pinned (OpenSpec.upto topWearsSpec)

/-- 'phaetontop.TopBootCut', WHERE WHAT IT READS IS OF BULK AT MOST 1048576: true; the input reads as it did. -/
def topBootCutUptoRow : OpenClaim := { program := "ytoifmpiikopelaadoor", sum := "7b52daa540fdd65169af425f10c0f012a5fa69bedce321f4849fa64fc17e3568", func := "phaeton/phaetontop.TopBootCut", spec := "topBootCut", inPlace := ["internal/bytealg.MakeNoZero", "internal/reflectlite.TypeOf"], unfollowed := true, recurses := true, named := ["bytes.ErrTooLarge"], apart := false, laid := [("bytes.ErrTooLarge", laid_bytes_ErrTooLarge)], narrowed := true }
def TopBootCutUptoSaid : Prop := topBootCutUptoRow.holds Tryd.pinned (OpenSpec.upto topBootCutSpec)

/-- 'phaetontop.TopTurns', WHERE WHAT IT READS IS OF BULK AT MOST 1048576: true; the input reads as it did. -/
def topTurnsUptoRow : OpenClaim := { program := "ytoifmpiikopelaadoor", sum := "7b52daa540fdd65169af425f10c0f012a5fa69bedce321f4849fa64fc17e3568", func := "phaeton/phaetontop.TopTurns", spec := "topTurns", inPlace := ["internal/bytealg.MakeNoZero", "internal/reflectlite.TypeOf"], unfollowed := true, recurses := true, named := ["bytes.ErrTooLarge"], apart := false, laid := [("bytes.ErrTooLarge", laid_bytes_ErrTooLarge)], narrowed := true }
def TopTurnsUptoSaid : Prop := topTurnsUptoRow.holds Tryd.pinned (OpenSpec.upto topTurnsSpec)

end Rows
end Go.Proofs.YtoifmpiikopelaaDoor

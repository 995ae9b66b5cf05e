/-
  DERIVED. GIVEN WITH THE SEED: THE CARDS: each row of YtoifmpiikopelaaDoorRows.lean that lists a variable, with what it lists TIED to the program's text (the seventh form; the later family's looks); each row that meets fmt, with fmt's text TOLD by the authors' own Lean function (tested against real Go, not proved from fmt's source: count such statements apart). THE CARD IS WHAT COUNTS. Prove the row's statement (the work); the ties are given (YtoifmpiikopelaaDoorTie.lean); close each card by the builder's one call (the guide's Derived/Test/ToyasCard.lean, 'card_holds'). Laid BY PROGRAM, IN A SANDBOX (cutbox-door.mjs). By AI agents, Wed Nov 11 2026. No macro, syntax, notation, axiom, sorry.
-/
import Derived.Test.YtoifmpiikopelaaDoorRows
import GoSem.ClaimSeven
namespace Go.Proofs.YtoifmpiikopelaaDoor
namespace Rows

/-- THE TIED CARD OF 'phaetontop.TopGreater'. -/
def topGreaterCard : Claim7 := { stood := { row := topGreaterRow, standIns := [], harness := (true, "7f7584c9c8d59da61c5daff7fe91556b0f2730051dc46636f16f8ceb9c87943c"), looks := true }, kinds := [], alts := [], laidByText := true, laidKinds := [.sentinel], laidTests := true, laidLooks := .later }
def TopGreaterCardSaid : Prop := Claim7.holds Tryd.pinned (.plain (OpenSpec.ofChange topGreaterSpec)) topGreaterCard

/-- THE TIED CARD OF 'phaetontop.TopRecords'. -/
def topRecordsCard : Claim7 := { stood := { row := topRecordsRow, standIns := [], harness := (true, "7f7584c9c8d59da61c5daff7fe91556b0f2730051dc46636f16f8ceb9c87943c"), looks := true }, kinds := [], alts := [], laidByText := true, laidKinds := [.sentinel], laidTests := true, laidLooks := .later }
def TopRecordsCardSaid : Prop := Claim7.holds Tryd.pinned (.plain (OpenSpec.ofChange topRecordsSpec)) topRecordsCard

/-- THE TIED CARD OF 'phaetontop.TopForever'. -/
def topForeverCard : Claim7 := { stood := { row := topForeverRow, standIns := [], harness := (true, "7f7584c9c8d59da61c5daff7fe91556b0f2730051dc46636f16f8ceb9c87943c"), looks := true }, kinds := [], alts := [], laidByText := true, laidKinds := [.sentinel], laidTests := true, laidLooks := .later }
def TopForeverCardSaid : Prop := Claim7.holds Tryd.pinned (.plain (OpenSpec.ofChange topForeverSpec)) topForeverCard

/-- THE TIED CARD OF 'phaetontop.TopForged'. -/
def topForgedCard : Claim7 := { stood := { row := topForgedRow, standIns := [], harness := (true, "7f7584c9c8d59da61c5daff7fe91556b0f2730051dc46636f16f8ceb9c87943c"), looks := true }, kinds := [], alts := [], laidByText := true, laidKinds := [.sentinel], laidTests := true, laidLooks := .later }
def TopForgedCardSaid : Prop := Claim7.holds Tryd.pinned (.plain (OpenSpec.ofChange topForgedSpec)) topForgedCard

/-- THE TIED CARD OF 'phaetontop.TopWhole'. -/
def topWholeCard : Claim7 := { stood := { row := topWholeRow, standIns := [], harness := (true, "7f7584c9c8d59da61c5daff7fe91556b0f2730051dc46636f16f8ceb9c87943c"), looks := true }, kinds := [], alts := [], laidByText := true, laidKinds := [.sentinel], laidTests := true, laidLooks := .later }
def TopWholeCardSaid : Prop := Claim7.holds Tryd.pinned (.plain (OpenSpec.ofChange topWholeSpec)) topWholeCard

/-- THE TIED CARD OF 'phaetontop.TopCut'. -/
def topCutCard : Claim7 := { stood := { row := topCutRow, standIns := [], harness := (true, "7f7584c9c8d59da61c5daff7fe91556b0f2730051dc46636f16f8ceb9c87943c"), looks := true }, kinds := [], alts := [], laidByText := true, laidKinds := [.sentinel], laidTests := true, laidLooks := .later }
def TopCutCardSaid : Prop := Claim7.holds Tryd.pinned (.plain (OpenSpec.ofChange topCutSpec)) topCutCard

/-- THE TIED CARD OF 'phaetontop.TopWears'. -/
def topWearsCard : Claim7 := { stood := { row := topWearsRow, standIns := [], harness := (true, "7f7584c9c8d59da61c5daff7fe91556b0f2730051dc46636f16f8ceb9c87943c"), looks := true }, kinds := [], alts := [], laidByText := true, laidKinds := [.sentinel], laidTests := true, laidLooks := .later }
def TopWearsCardSaid : Prop := Claim7.holds Tryd.pinned (.plain (OpenSpec.ofChange topWearsSpec)) topWearsCard

/-- THE TIED CARD OF 'phaetontop.TopBootCut'. -/
def topBootCutCard : Claim7 := { stood := { row := topBootCutRow, standIns := [], harness := (true, "7f7584c9c8d59da61c5daff7fe91556b0f2730051dc46636f16f8ceb9c87943c"), looks := true }, kinds := [], alts := [], laidByText := true, laidKinds := [.sentinel], laidTests := true, laidLooks := .later }
def TopBootCutCardSaid : Prop := Claim7.holds Tryd.pinned (.plain (OpenSpec.ofChange topBootCutSpec)) topBootCutCard

/-- THE TIED CARD OF 'phaetontop.TopTurns'. -/
def topTurnsCard : Claim7 := { stood := { row := topTurnsRow, standIns := [], harness := (true, "7f7584c9c8d59da61c5daff7fe91556b0f2730051dc46636f16f8ceb9c87943c"), looks := true }, kinds := [], alts := [], laidByText := true, laidKinds := [.sentinel], laidTests := true, laidLooks := .later }
def TopTurnsCardSaid : Prop := Claim7.holds Tryd.pinned (.plain (OpenSpec.ofChange topTurnsSpec)) topTurnsCard

/-- THE SECOND FORM's CARD OF 'phaetontop.TopGreater'. -/
def topGreaterUptoCard : Claim7 := { stood := { row := topGreaterUptoRow, standIns := [], harness := (true, "7f7584c9c8d59da61c5daff7fe91556b0f2730051dc46636f16f8ceb9c87943c"), looks := true }, kinds := [], alts := [], laidByText := true, laidKinds := [.sentinel], laidTests := true, laidLooks := .later }
def TopGreaterUptoCardSaid : Prop := Claim7.holds Tryd.pinned (.plain (OpenSpec.upto topGreaterSpec)) topGreaterUptoCard

/-- THE SECOND FORM's CARD OF 'phaetontop.TopRecords'. -/
def topRecordsUptoCard : Claim7 := { stood := { row := topRecordsUptoRow, standIns := [], harness := (true, "7f7584c9c8d59da61c5daff7fe91556b0f2730051dc46636f16f8ceb9c87943c"), looks := true }, kinds := [], alts := [], laidByText := true, laidKinds := [.sentinel], laidTests := true, laidLooks := .later }
def TopRecordsUptoCardSaid : Prop := Claim7.holds Tryd.pinned (.plain (OpenSpec.upto topRecordsSpec)) topRecordsUptoCard

/-- THE SECOND FORM's CARD OF 'phaetontop.TopForever'. -/
def topForeverUptoCard : Claim7 := { stood := { row := topForeverUptoRow, standIns := [], harness := (true, "7f7584c9c8d59da61c5daff7fe91556b0f2730051dc46636f16f8ceb9c87943c"), looks := true }, kinds := [], alts := [], laidByText := true, laidKinds := [.sentinel], laidTests := true, laidLooks := .later }
def TopForeverUptoCardSaid : Prop := Claim7.holds Tryd.pinned (.plain (OpenSpec.upto topForeverSpec)) topForeverUptoCard

/-- THE SECOND FORM's CARD OF 'phaetontop.TopForged'. -/
def topForgedUptoCard : Claim7 := { stood := { row := topForgedUptoRow, standIns := [], harness := (true, "7f7584c9c8d59da61c5daff7fe91556b0f2730051dc46636f16f8ceb9c87943c"), looks := true }, kinds := [], alts := [], laidByText := true, laidKinds := [.sentinel], laidTests := true, laidLooks := .later }
def TopForgedUptoCardSaid : Prop := Claim7.holds Tryd.pinned (.plain (OpenSpec.upto topForgedSpec)) topForgedUptoCard

/-- THE SECOND FORM's CARD OF 'phaetontop.TopWhole'. -/
def topWholeUptoCard : Claim7 := { stood := { row := topWholeUptoRow, standIns := [], harness := (true, "7f7584c9c8d59da61c5daff7fe91556b0f2730051dc46636f16f8ceb9c87943c"), looks := true }, kinds := [], alts := [], laidByText := true, laidKinds := [.sentinel], laidTests := true, laidLooks := .later }
def TopWholeUptoCardSaid : Prop := Claim7.holds Tryd.pinned (.plain (OpenSpec.upto topWholeSpec)) topWholeUptoCard

/-- THE SECOND FORM's CARD OF 'phaetontop.TopCut'. -/
def topCutUptoCard : Claim7 := { stood := { row := topCutUptoRow, standIns := [], harness := (true, "7f7584c9c8d59da61c5daff7fe91556b0f2730051dc46636f16f8ceb9c87943c"), looks := true }, kinds := [], alts := [], laidByText := true, laidKinds := [.sentinel], laidTests := true, laidLooks := .later }
def TopCutUptoCardSaid : Prop := Claim7.holds Tryd.pinned (.plain (OpenSpec.upto topCutSpec)) topCutUptoCard

/-- THE SECOND FORM's CARD OF 'phaetontop.TopWears'. -/
def topWearsUptoCard : Claim7 := { stood := { row := topWearsUptoRow, standIns := [], harness := (true, "7f7584c9c8d59da61c5daff7fe91556b0f2730051dc46636f16f8ceb9c87943c"), looks := true }, kinds := [], alts := [], laidByText := true, laidKinds := [.sentinel], laidTests := true, laidLooks := .later }
def TopWearsUptoCardSaid : Prop := Claim7.holds Tryd.pinned (.plain (OpenSpec.upto topWearsSpec)) topWearsUptoCard

/-- THE SECOND FORM's CARD OF 'phaetontop.TopBootCut'. -/
def topBootCutUptoCard : Claim7 := { stood := { row := topBootCutUptoRow, standIns := [], harness := (true, "7f7584c9c8d59da61c5daff7fe91556b0f2730051dc46636f16f8ceb9c87943c"), looks := true }, kinds := [], alts := [], laidByText := true, laidKinds := [.sentinel], laidTests := true, laidLooks := .later }
def TopBootCutUptoCardSaid : Prop := Claim7.holds Tryd.pinned (.plain (OpenSpec.upto topBootCutSpec)) topBootCutUptoCard

/-- THE SECOND FORM's CARD OF 'phaetontop.TopTurns'. -/
def topTurnsUptoCard : Claim7 := { stood := { row := topTurnsUptoRow, standIns := [], harness := (true, "7f7584c9c8d59da61c5daff7fe91556b0f2730051dc46636f16f8ceb9c87943c"), looks := true }, kinds := [], alts := [], laidByText := true, laidKinds := [.sentinel], laidTests := true, laidLooks := .later }
def TopTurnsUptoCardSaid : Prop := Claim7.holds Tryd.pinned (.plain (OpenSpec.upto topTurnsSpec)) topTurnsUptoCard
end Rows
end Go.Proofs.YtoifmpiikopelaaDoor

/-
  DERIVED. GIVEN WITH THE SEED: THE CARDS: each row of YtgdphamdbpkjdaaDoorRows.lean that lists a variable, with what it lists TIED to the program's text (the seventh form; the later family's looks); each row that meets fmt, with fmt's text TOLD by the authors' own Lean function (tested against real Go, not proved from fmt's source: count such statements apart). THE CARD IS WHAT COUNTS. Prove the row's statement (the work); the ties are given (YtgdphamdbpkjdaaDoorTie.lean); close each card by the builder's one call (the guide's Derived/Test/ToyasCard.lean, 'card_holds'). Laid BY PROGRAM, IN A SANDBOX (cutbox-door.mjs). By AI agents, Wed Nov 11 2026. No macro, syntax, notation, axiom, sorry.
-/
import Derived.Test.YtgdphamdbpkjdaaDoorRows
import GoSem.ClaimSeven
namespace Go.Proofs.YtgdphamdbpkjdaaDoor
namespace Rows

/-- THE TIED CARD OF 'hourglasslaw11.OnionBack'. -/
def onionBackCard : Claim7 := { stood := { row := onionBackRow, standIns := [], harness := (true, "1b3cec0d765a0eb7305be7139bacfd285a8c9a5f1e77c0dd826212adba1414db"), looks := false }, kinds := [], alts := [], laidByText := true, laidKinds := [.data, .data, .widerDeep, .data, .data], laidTests := true, laidLooks := .later }
def OnionBackCardSaid : Prop := Claim7.holds Tryd.pinned (.plain (OpenSpec.ofChange onionBackSpec)) onionBackCard

/-- THE TIED CARD OF 'hourglasslaw11.OnionMAC'. -/
def onionMACCard : Claim7 := { stood := { row := onionMACRow, standIns := [], harness := (true, "1b3cec0d765a0eb7305be7139bacfd285a8c9a5f1e77c0dd826212adba1414db"), looks := false }, kinds := [], alts := [], laidByText := true, laidKinds := [.data, .data, .widerDeep, .data, .data], laidTests := true, laidLooks := .later }
def OnionMACCardSaid : Prop := Claim7.holds Tryd.pinned (.plain (OpenSpec.ofChange onionMACSpec)) onionMACCard

/-- THE TIED CARD OF 'hourglasslaw11.OnionAgain'. -/
def onionAgainCard : Claim7 := { stood := { row := onionAgainRow, standIns := [], harness := (true, "1b3cec0d765a0eb7305be7139bacfd285a8c9a5f1e77c0dd826212adba1414db"), looks := false }, kinds := [], alts := [], laidByText := true, laidKinds := [.data, .data, .widerDeep, .data, .data], laidTests := true, laidLooks := .later }
def OnionAgainCardSaid : Prop := Claim7.holds Tryd.pinned (.plain (OpenSpec.ofChange onionAgainSpec)) onionAgainCard

/-- THE TIED CARD OF 'hourglasslaw11.OnionBody'. -/
def onionBodyCard : Claim7 := { stood := { row := onionBodyRow, standIns := [], harness := (true, "1b3cec0d765a0eb7305be7139bacfd285a8c9a5f1e77c0dd826212adba1414db"), looks := false }, kinds := [], alts := [], laidByText := true, laidKinds := [.data, .data, .widerDeep, .data, .data], laidTests := true, laidLooks := .later }
def OnionBodyCardSaid : Prop := Claim7.holds Tryd.pinned (.plain (OpenSpec.ofChange onionBodySpec)) onionBodyCard

/-- THE TIED CARD OF 'hourglasslaw11.OnionTells'. -/
def onionTellsCard : Claim7 := { stood := { row := onionTellsRow, standIns := [], harness := (true, "1b3cec0d765a0eb7305be7139bacfd285a8c9a5f1e77c0dd826212adba1414db"), looks := false }, kinds := [], alts := [], laidByText := true, laidKinds := [.data, .data, .widerDeep, .data, .data], laidTests := true, laidLooks := .later }
def OnionTellsCardSaid : Prop := Claim7.holds Tryd.pinned (.plain (OpenSpec.ofChange onionTellsSpec)) onionTellsCard

/-- THE TIED CARD OF 'hourglasslaw11.OnionEnd'. -/
def onionEndCard : Claim7 := { stood := { row := onionEndRow, standIns := [], harness := (true, "1b3cec0d765a0eb7305be7139bacfd285a8c9a5f1e77c0dd826212adba1414db"), looks := false }, kinds := [], alts := [], laidByText := true, laidKinds := [.data, .data, .widerDeep, .data, .data], laidTests := true, laidLooks := .later }
def OnionEndCardSaid : Prop := Claim7.holds Tryd.pinned (.plain (OpenSpec.ofChange onionEndSpec)) onionEndCard

/-- THE SECOND FORM's CARD OF 'hourglasslaw11.OnionBack'. -/
def onionBackUptoCard : Claim7 := { stood := { row := onionBackUptoRow, standIns := [], harness := (true, "1b3cec0d765a0eb7305be7139bacfd285a8c9a5f1e77c0dd826212adba1414db"), looks := false }, kinds := [], alts := [], laidByText := true, laidKinds := [.data, .data, .widerDeep, .data, .data], laidTests := true, laidLooks := .later }
def OnionBackUptoCardSaid : Prop := Claim7.holds Tryd.pinned (.plain (OpenSpec.upto onionBackSpec)) onionBackUptoCard

/-- THE SECOND FORM's CARD OF 'hourglasslaw11.OnionMAC'. -/
def onionMACUptoCard : Claim7 := { stood := { row := onionMACUptoRow, standIns := [], harness := (true, "1b3cec0d765a0eb7305be7139bacfd285a8c9a5f1e77c0dd826212adba1414db"), looks := false }, kinds := [], alts := [], laidByText := true, laidKinds := [.data, .data, .widerDeep, .data, .data], laidTests := true, laidLooks := .later }
def OnionMACUptoCardSaid : Prop := Claim7.holds Tryd.pinned (.plain (OpenSpec.upto onionMACSpec)) onionMACUptoCard

/-- THE SECOND FORM's CARD OF 'hourglasslaw11.OnionAgain'. -/
def onionAgainUptoCard : Claim7 := { stood := { row := onionAgainUptoRow, standIns := [], harness := (true, "1b3cec0d765a0eb7305be7139bacfd285a8c9a5f1e77c0dd826212adba1414db"), looks := false }, kinds := [], alts := [], laidByText := true, laidKinds := [.data, .data, .widerDeep, .data, .data], laidTests := true, laidLooks := .later }
def OnionAgainUptoCardSaid : Prop := Claim7.holds Tryd.pinned (.plain (OpenSpec.upto onionAgainSpec)) onionAgainUptoCard

/-- THE SECOND FORM's CARD OF 'hourglasslaw11.OnionBody'. -/
def onionBodyUptoCard : Claim7 := { stood := { row := onionBodyUptoRow, standIns := [], harness := (true, "1b3cec0d765a0eb7305be7139bacfd285a8c9a5f1e77c0dd826212adba1414db"), looks := false }, kinds := [], alts := [], laidByText := true, laidKinds := [.data, .data, .widerDeep, .data, .data], laidTests := true, laidLooks := .later }
def OnionBodyUptoCardSaid : Prop := Claim7.holds Tryd.pinned (.plain (OpenSpec.upto onionBodySpec)) onionBodyUptoCard

/-- THE SECOND FORM's CARD OF 'hourglasslaw11.OnionTells'. -/
def onionTellsUptoCard : Claim7 := { stood := { row := onionTellsUptoRow, standIns := [], harness := (true, "1b3cec0d765a0eb7305be7139bacfd285a8c9a5f1e77c0dd826212adba1414db"), looks := false }, kinds := [], alts := [], laidByText := true, laidKinds := [.data, .data, .widerDeep, .data, .data], laidTests := true, laidLooks := .later }
def OnionTellsUptoCardSaid : Prop := Claim7.holds Tryd.pinned (.plain (OpenSpec.upto onionTellsSpec)) onionTellsUptoCard

/-- THE SECOND FORM's CARD OF 'hourglasslaw11.OnionEnd'. -/
def onionEndUptoCard : Claim7 := { stood := { row := onionEndUptoRow, standIns := [], harness := (true, "1b3cec0d765a0eb7305be7139bacfd285a8c9a5f1e77c0dd826212adba1414db"), looks := false }, kinds := [], alts := [], laidByText := true, laidKinds := [.data, .data, .widerDeep, .data, .data], laidTests := true, laidLooks := .later }
def OnionEndUptoCardSaid : Prop := Claim7.holds Tryd.pinned (.plain (OpenSpec.upto onionEndSpec)) onionEndUptoCard
end Rows
end Go.Proofs.YtgdphamdbpkjdaaDoor

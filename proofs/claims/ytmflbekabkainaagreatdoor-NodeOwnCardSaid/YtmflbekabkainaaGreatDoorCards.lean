/-
  DERIVED. GIVEN WITH THE SEED: THE CARDS: each row of YtmflbekabkainaaGreatDoorRows.lean that lists a variable, with what it lists TIED to the program's text (the seventh form; the later family's looks); each row that meets fmt, with fmt's text TOLD by the authors' own Lean function (tested against real Go, not proved from fmt's source: count such statements apart). THE CARD IS WHAT COUNTS. Prove the row's statement (the work); the ties are given (YtmflbekabkainaaGreatDoorTie.lean); close each card by the builder's one call (the guide's Derived/Test/ToyasCard.lean, 'card_holds'). Laid BY PROGRAM, IN A SANDBOX (cutbox-door.mjs). By AI agents, Wed Nov 11 2026. No macro, syntax, notation, axiom, sorry.
-/
import Derived.Test.YtmflbekabkainaaGreatDoorRows
import GoSem.ClaimSeven
namespace Go.Proofs.YtmflbekabkainaaGreatDoor
namespace Rows

/-- THE TIED CARD OF 'hourglasslaw17.NodeTells'. -/
def nodeTellsCard : Claim7 := { stood := { row := nodeTellsRow, standIns := [], harness := (true, "2b453d120c7c8df08110fe1dd318b0a6622f94b9d7a2a65c1c1e3ec52d5280c5"), looks := false }, kinds := [], alts := [], laidByText := true, laidKinds := [.data, .data, .widerDeep, .data, .data], laidTests := true, laidLooks := .later }
def NodeTellsCardSaid : Prop := Claim7.holds Tryz.pinned (.plain (OpenSpec.ofChange nodeTellsSpec)) nodeTellsCard

/-- THE TIED CARD OF 'hourglasslaw17.NodeRefuses'. -/
def nodeRefusesCard : Claim7 := { stood := { row := nodeRefusesRow, standIns := [], harness := (true, "2b453d120c7c8df08110fe1dd318b0a6622f94b9d7a2a65c1c1e3ec52d5280c5"), looks := false }, kinds := [], alts := [], laidByText := true, laidKinds := [.data, .data, .widerDeep, .data, .data], laidTests := true, laidLooks := .later }
def NodeRefusesCardSaid : Prop := Claim7.holds Tryz.pinned (.plain (OpenSpec.ofChange nodeRefusesSpec)) nodeRefusesCard

/-- THE TIED CARD OF 'hourglasslaw17.NodeCounts'. -/
def nodeCountsCard : Claim7 := { stood := { row := nodeCountsRow, standIns := [], harness := (true, "2b453d120c7c8df08110fe1dd318b0a6622f94b9d7a2a65c1c1e3ec52d5280c5"), looks := false }, kinds := [], alts := [], laidByText := true, laidKinds := [.data, .data, .widerDeep, .data, .data], laidTests := true, laidLooks := .later }
def NodeCountsCardSaid : Prop := Claim7.holds Tryz.pinned (.plain (OpenSpec.ofChange nodeCountsSpec)) nodeCountsCard

/-- THE TIED CARD OF 'hourglasslaw17.NodeTimes'. -/
def nodeTimesCard : Claim7 := { stood := { row := nodeTimesRow, standIns := [], harness := (true, "2b453d120c7c8df08110fe1dd318b0a6622f94b9d7a2a65c1c1e3ec52d5280c5"), looks := false }, kinds := [], alts := [], laidByText := true, laidKinds := [.data, .data, .widerDeep, .data, .data], laidTests := true, laidLooks := .later }
def NodeTimesCardSaid : Prop := Claim7.holds Tryz.pinned (.plain (OpenSpec.ofChange nodeTimesSpec)) nodeTimesCard

/-- THE TIED CARD OF 'hourglasslaw17.NodeEpochs'. -/
def nodeEpochsCard : Claim7 := { stood := { row := nodeEpochsRow, standIns := [], harness := (true, "2b453d120c7c8df08110fe1dd318b0a6622f94b9d7a2a65c1c1e3ec52d5280c5"), looks := false }, kinds := [], alts := [], laidByText := true, laidKinds := [.data, .data, .widerDeep, .data, .data], laidTests := true, laidLooks := .later }
def NodeEpochsCardSaid : Prop := Claim7.holds Tryz.pinned (.plain (OpenSpec.ofChange nodeEpochsSpec)) nodeEpochsCard

/-- THE TIED CARD OF 'hourglasslaw17.NodeWindows'. -/
def nodeWindowsCard : Claim7 := { stood := { row := nodeWindowsRow, standIns := [], harness := (true, "2b453d120c7c8df08110fe1dd318b0a6622f94b9d7a2a65c1c1e3ec52d5280c5"), looks := false }, kinds := [], alts := [], laidByText := true, laidKinds := [.data, .data, .widerDeep, .data, .data], laidTests := true, laidLooks := .later }
def NodeWindowsCardSaid : Prop := Claim7.holds Tryz.pinned (.plain (OpenSpec.ofChange nodeWindowsSpec)) nodeWindowsCard

/-- THE TIED CARD OF 'hourglasslaw17.NodeClients'. -/
def nodeClientsCard : Claim7 := { stood := { row := nodeClientsRow, standIns := [], harness := (true, "2b453d120c7c8df08110fe1dd318b0a6622f94b9d7a2a65c1c1e3ec52d5280c5"), looks := false }, kinds := [], alts := [], laidByText := true, laidKinds := [.data, .data, .widerDeep, .data, .data], laidTests := true, laidLooks := .later }
def NodeClientsCardSaid : Prop := Claim7.holds Tryz.pinned (.plain (OpenSpec.ofChange nodeClientsSpec)) nodeClientsCard

/-- THE TIED CARD OF 'hourglasslaw17.NodeOwn'. -/
def nodeOwnCard : Claim7 := { stood := { row := nodeOwnRow, standIns := [], harness := (true, "2b453d120c7c8df08110fe1dd318b0a6622f94b9d7a2a65c1c1e3ec52d5280c5"), looks := false }, kinds := [], alts := [], laidByText := true, laidKinds := [.data, .data, .widerDeep, .data, .data], laidTests := true, laidLooks := .later }
def NodeOwnCardSaid : Prop := Claim7.holds Tryz.pinned (.plain (OpenSpec.ofChange nodeOwnSpec)) nodeOwnCard

/-- THE SECOND FORM's CARD OF 'hourglasslaw17.NodeTells'. -/
def nodeTellsUptoCard : Claim7 := { stood := { row := nodeTellsUptoRow, standIns := [], harness := (true, "2b453d120c7c8df08110fe1dd318b0a6622f94b9d7a2a65c1c1e3ec52d5280c5"), looks := false }, kinds := [], alts := [], laidByText := true, laidKinds := [.data, .data, .widerDeep, .data, .data], laidTests := true, laidLooks := .later }
def NodeTellsUptoCardSaid : Prop := Claim7.holds Tryz.pinned (.plain (OpenSpec.upto nodeTellsSpec)) nodeTellsUptoCard

/-- THE SECOND FORM's CARD OF 'hourglasslaw17.NodeRefuses'. -/
def nodeRefusesUptoCard : Claim7 := { stood := { row := nodeRefusesUptoRow, standIns := [], harness := (true, "2b453d120c7c8df08110fe1dd318b0a6622f94b9d7a2a65c1c1e3ec52d5280c5"), looks := false }, kinds := [], alts := [], laidByText := true, laidKinds := [.data, .data, .widerDeep, .data, .data], laidTests := true, laidLooks := .later }
def NodeRefusesUptoCardSaid : Prop := Claim7.holds Tryz.pinned (.plain (OpenSpec.upto nodeRefusesSpec)) nodeRefusesUptoCard

/-- THE SECOND FORM's CARD OF 'hourglasslaw17.NodeCounts'. -/
def nodeCountsUptoCard : Claim7 := { stood := { row := nodeCountsUptoRow, standIns := [], harness := (true, "2b453d120c7c8df08110fe1dd318b0a6622f94b9d7a2a65c1c1e3ec52d5280c5"), looks := false }, kinds := [], alts := [], laidByText := true, laidKinds := [.data, .data, .widerDeep, .data, .data], laidTests := true, laidLooks := .later }
def NodeCountsUptoCardSaid : Prop := Claim7.holds Tryz.pinned (.plain (OpenSpec.upto nodeCountsSpec)) nodeCountsUptoCard

/-- THE SECOND FORM's CARD OF 'hourglasslaw17.NodeTimes'. -/
def nodeTimesUptoCard : Claim7 := { stood := { row := nodeTimesUptoRow, standIns := [], harness := (true, "2b453d120c7c8df08110fe1dd318b0a6622f94b9d7a2a65c1c1e3ec52d5280c5"), looks := false }, kinds := [], alts := [], laidByText := true, laidKinds := [.data, .data, .widerDeep, .data, .data], laidTests := true, laidLooks := .later }
def NodeTimesUptoCardSaid : Prop := Claim7.holds Tryz.pinned (.plain (OpenSpec.upto nodeTimesSpec)) nodeTimesUptoCard

/-- THE SECOND FORM's CARD OF 'hourglasslaw17.NodeEpochs'. -/
def nodeEpochsUptoCard : Claim7 := { stood := { row := nodeEpochsUptoRow, standIns := [], harness := (true, "2b453d120c7c8df08110fe1dd318b0a6622f94b9d7a2a65c1c1e3ec52d5280c5"), looks := false }, kinds := [], alts := [], laidByText := true, laidKinds := [.data, .data, .widerDeep, .data, .data], laidTests := true, laidLooks := .later }
def NodeEpochsUptoCardSaid : Prop := Claim7.holds Tryz.pinned (.plain (OpenSpec.upto nodeEpochsSpec)) nodeEpochsUptoCard

/-- THE SECOND FORM's CARD OF 'hourglasslaw17.NodeWindows'. -/
def nodeWindowsUptoCard : Claim7 := { stood := { row := nodeWindowsUptoRow, standIns := [], harness := (true, "2b453d120c7c8df08110fe1dd318b0a6622f94b9d7a2a65c1c1e3ec52d5280c5"), looks := false }, kinds := [], alts := [], laidByText := true, laidKinds := [.data, .data, .widerDeep, .data, .data], laidTests := true, laidLooks := .later }
def NodeWindowsUptoCardSaid : Prop := Claim7.holds Tryz.pinned (.plain (OpenSpec.upto nodeWindowsSpec)) nodeWindowsUptoCard

/-- THE SECOND FORM's CARD OF 'hourglasslaw17.NodeClients'. -/
def nodeClientsUptoCard : Claim7 := { stood := { row := nodeClientsUptoRow, standIns := [], harness := (true, "2b453d120c7c8df08110fe1dd318b0a6622f94b9d7a2a65c1c1e3ec52d5280c5"), looks := false }, kinds := [], alts := [], laidByText := true, laidKinds := [.data, .data, .widerDeep, .data, .data], laidTests := true, laidLooks := .later }
def NodeClientsUptoCardSaid : Prop := Claim7.holds Tryz.pinned (.plain (OpenSpec.upto nodeClientsSpec)) nodeClientsUptoCard

/-- THE SECOND FORM's CARD OF 'hourglasslaw17.NodeOwn'. -/
def nodeOwnUptoCard : Claim7 := { stood := { row := nodeOwnUptoRow, standIns := [], harness := (true, "2b453d120c7c8df08110fe1dd318b0a6622f94b9d7a2a65c1c1e3ec52d5280c5"), looks := false }, kinds := [], alts := [], laidByText := true, laidKinds := [.data, .data, .widerDeep, .data, .data], laidTests := true, laidLooks := .later }
def NodeOwnUptoCardSaid : Prop := Claim7.holds Tryz.pinned (.plain (OpenSpec.upto nodeOwnSpec)) nodeOwnUptoCard
end Rows
end Go.Proofs.YtmflbekabkainaaGreatDoor

/-
  DERIVED. GIVEN WITH THE SEED: THE CARDS: each row of YtdlcnihacaboiaaGreatDoorRows.lean that lists a variable, with what it lists TIED to the program's text (the seventh form; the later family's looks); each row that meets fmt, with fmt's text TOLD by the authors' own Lean function (tested against real Go, not proved from fmt's source: count such statements apart). THE CARD IS WHAT COUNTS. Prove the row's statement (the work); the ties are given (YtdlcnihacaboiaaGreatDoorTie.lean); close each card by the builder's one call (the guide's Derived/Test/ToyasCard.lean, 'card_holds'). Laid BY PROGRAM, IN A SANDBOX (cutbox-door.mjs). By AI agents, Wed Nov 11 2026. No macro, syntax, notation, axiom, sorry.
-/
import Derived.Test.YtdlcnihacaboiaaGreatDoorRows
import GoSem.ClaimSeven
namespace Go.Proofs.YtdlcnihacaboiaaGreatDoor
namespace Rows

/-- THE TIED CARD OF 'duologuelaw16.SubstFree'. -/
def substFreeCard : Claim7 := { stood := { row := substFreeRow, standIns := [], harness := (true, "388963f84834ac556e6b6491f051f600fa1c3677ed9b323a2b7aca9698ff4c9f"), looks := true }, kinds := [], alts := [], laidByText := true, laidKinds := [.data, .data, .data], laidTests := true, laidLooks := .later }
def SubstFreeCardSaid : Prop := Claim7.holds Tryz.pinned (.plain (OpenSpec.ofChange substFreeSpec)) substFreeCard

/-- THE TIED CARD OF 'duologuelaw16.SubstRenames'. -/
def substRenamesCard : Claim7 := { stood := { row := substRenamesRow, standIns := [], harness := (true, "388963f84834ac556e6b6491f051f600fa1c3677ed9b323a2b7aca9698ff4c9f"), looks := true }, kinds := [], alts := [], laidByText := true, laidKinds := [.data, .data, .data], laidTests := true, laidLooks := .later }
def SubstRenamesCardSaid : Prop := Claim7.holds Tryz.pinned (.plain (OpenSpec.ofChange substRenamesSpec)) substRenamesCard

/-- THE TIED CARD OF 'duologuelaw24.WaitsMatchReference'. -/
def waitsMatchReferenceCard : Claim7 := { stood := { row := waitsMatchReferenceRow, standIns := [], harness := (true, "388963f84834ac556e6b6491f051f600fa1c3677ed9b323a2b7aca9698ff4c9f"), looks := true }, kinds := [], alts := [], laidByText := true, laidKinds := [.data, .data, .data, .sentinel, .sentinel], laidTests := true, laidLooks := .later }
def WaitsMatchReferenceCardSaid : Prop := Claim7.holds Tryz.pinned (.plain (OpenSpec.ofChange waitsMatchReferenceSpec)) waitsMatchReferenceCard

/-- THE TIED CARD OF 'duologuelaw24.WaitsThreads'. -/
def waitsThreadsCard : Claim7 := { stood := { row := waitsThreadsRow, standIns := [], harness := (true, "388963f84834ac556e6b6491f051f600fa1c3677ed9b323a2b7aca9698ff4c9f"), looks := true }, kinds := [], alts := [], laidByText := true, laidKinds := [.data, .data, .data, .sentinel, .sentinel], laidTests := true, laidLooks := .later }
def WaitsThreadsCardSaid : Prop := Claim7.holds Tryz.pinned (.plain (OpenSpec.ofChange waitsThreadsSpec)) waitsThreadsCard

/-- THE TIED CARD OF 'duologuelaw24.WaitsExplain'. -/
def waitsExplainCard : Claim7 := { stood := { row := waitsExplainRow, standIns := [], harness := (true, "388963f84834ac556e6b6491f051f600fa1c3677ed9b323a2b7aca9698ff4c9f"), looks := true }, kinds := [], alts := [], laidByText := true, laidKinds := [.data, .data, .data, .sentinel, .sentinel], laidTests := true, laidLooks := .later }
def WaitsExplainCardSaid : Prop := Claim7.holds Tryz.pinned (.plain (OpenSpec.ofChange waitsExplainSpec)) waitsExplainCard

/-- THE TIED CARD OF 'duologuelaw24.WaitsAccepted'. -/
def waitsAcceptedCard : Claim7 := { stood := { row := waitsAcceptedRow, standIns := [], harness := (true, "388963f84834ac556e6b6491f051f600fa1c3677ed9b323a2b7aca9698ff4c9f"), looks := true }, kinds := [], alts := [], laidByText := true, laidKinds := [.data, .data, .data, .sentinel, .sentinel], laidTests := true, laidLooks := .later }
def WaitsAcceptedCardSaid : Prop := Claim7.holds Tryz.pinned (.plain (OpenSpec.ofChange waitsAcceptedSpec)) waitsAcceptedCard

/-- THE TIED CARD OF 'duologuelaw24.WaitsMeet'. -/
def waitsMeetCard : Claim7 := { stood := { row := waitsMeetRow, standIns := [], harness := (true, "388963f84834ac556e6b6491f051f600fa1c3677ed9b323a2b7aca9698ff4c9f"), looks := true }, kinds := [], alts := [], laidByText := true, laidKinds := [.data, .data, .data, .sentinel, .sentinel], laidTests := true, laidLooks := .later }
def WaitsMeetCardSaid : Prop := Claim7.holds Tryz.pinned (.plain (OpenSpec.ofChange waitsMeetSpec)) waitsMeetCard

/-- THE TIED CARD OF 'duologuelaw17.ConfigFlattens'. -/
def configFlattensCard : Claim7 := { stood := { row := configFlattensRow, standIns := [], harness := (true, "388963f84834ac556e6b6491f051f600fa1c3677ed9b323a2b7aca9698ff4c9f"), looks := true }, kinds := [], alts := [], laidByText := true, laidKinds := [.data, .data, .data, .sentinel, .sentinel], laidTests := true, laidLooks := .later }
def ConfigFlattensCardSaid : Prop := Claim7.holds Tryz.pinned (.plain (OpenSpec.ofChange configFlattensSpec)) configFlattensCard

/-- THE TIED CARD OF 'duologuelaw17.ConfigCounts'. -/
def configCountsCard : Claim7 := { stood := { row := configCountsRow, standIns := [], harness := (true, "388963f84834ac556e6b6491f051f600fa1c3677ed9b323a2b7aca9698ff4c9f"), looks := true }, kinds := [], alts := [], laidByText := true, laidKinds := [.data, .data, .data, .sentinel, .sentinel], laidTests := true, laidLooks := .later }
def ConfigCountsCardSaid : Prop := Claim7.holds Tryz.pinned (.plain (OpenSpec.ofChange configCountsSpec)) configCountsCard

/-- THE TIED CARD OF 'duologuelaw17.ConfigTexts'. -/
def configTextsCard : Claim7 := { stood := { row := configTextsRow, standIns := [], harness := (true, "388963f84834ac556e6b6491f051f600fa1c3677ed9b323a2b7aca9698ff4c9f"), looks := true }, kinds := [], alts := [], laidByText := true, laidKinds := [.data, .data, .data, .sentinel, .sentinel], laidTests := true, laidLooks := .later }
def ConfigTextsCardSaid : Prop := Claim7.holds Tryz.pinned (.plain (OpenSpec.ofChange configTextsSpec)) configTextsCard

/-- THE SECOND FORM's CARD OF 'duologuelaw16.SubstFree'. -/
def substFreeUptoCard : Claim7 := { stood := { row := substFreeUptoRow, standIns := [], harness := (true, "388963f84834ac556e6b6491f051f600fa1c3677ed9b323a2b7aca9698ff4c9f"), looks := true }, kinds := [], alts := [], laidByText := true, laidKinds := [.data, .data, .data], laidTests := true, laidLooks := .later }
def SubstFreeUptoCardSaid : Prop := Claim7.holds Tryz.pinned (.plain (OpenSpec.upto substFreeSpec)) substFreeUptoCard

/-- THE SECOND FORM's CARD OF 'duologuelaw16.SubstRenames'. -/
def substRenamesUptoCard : Claim7 := { stood := { row := substRenamesUptoRow, standIns := [], harness := (true, "388963f84834ac556e6b6491f051f600fa1c3677ed9b323a2b7aca9698ff4c9f"), looks := true }, kinds := [], alts := [], laidByText := true, laidKinds := [.data, .data, .data], laidTests := true, laidLooks := .later }
def SubstRenamesUptoCardSaid : Prop := Claim7.holds Tryz.pinned (.plain (OpenSpec.upto substRenamesSpec)) substRenamesUptoCard

/-- THE SECOND FORM's CARD OF 'duologuelaw24.WaitsMatchReference'. -/
def waitsMatchReferenceUptoCard : Claim7 := { stood := { row := waitsMatchReferenceUptoRow, standIns := [], harness := (true, "388963f84834ac556e6b6491f051f600fa1c3677ed9b323a2b7aca9698ff4c9f"), looks := true }, kinds := [], alts := [], laidByText := true, laidKinds := [.data, .data, .data, .sentinel, .sentinel], laidTests := true, laidLooks := .later }
def WaitsMatchReferenceUptoCardSaid : Prop := Claim7.holds Tryz.pinned (.plain (OpenSpec.upto waitsMatchReferenceSpec)) waitsMatchReferenceUptoCard

/-- THE SECOND FORM's CARD OF 'duologuelaw24.WaitsThreads'. -/
def waitsThreadsUptoCard : Claim7 := { stood := { row := waitsThreadsUptoRow, standIns := [], harness := (true, "388963f84834ac556e6b6491f051f600fa1c3677ed9b323a2b7aca9698ff4c9f"), looks := true }, kinds := [], alts := [], laidByText := true, laidKinds := [.data, .data, .data, .sentinel, .sentinel], laidTests := true, laidLooks := .later }
def WaitsThreadsUptoCardSaid : Prop := Claim7.holds Tryz.pinned (.plain (OpenSpec.upto waitsThreadsSpec)) waitsThreadsUptoCard

/-- THE SECOND FORM's CARD OF 'duologuelaw24.WaitsExplain'. -/
def waitsExplainUptoCard : Claim7 := { stood := { row := waitsExplainUptoRow, standIns := [], harness := (true, "388963f84834ac556e6b6491f051f600fa1c3677ed9b323a2b7aca9698ff4c9f"), looks := true }, kinds := [], alts := [], laidByText := true, laidKinds := [.data, .data, .data, .sentinel, .sentinel], laidTests := true, laidLooks := .later }
def WaitsExplainUptoCardSaid : Prop := Claim7.holds Tryz.pinned (.plain (OpenSpec.upto waitsExplainSpec)) waitsExplainUptoCard

/-- THE SECOND FORM's CARD OF 'duologuelaw24.WaitsAccepted'. -/
def waitsAcceptedUptoCard : Claim7 := { stood := { row := waitsAcceptedUptoRow, standIns := [], harness := (true, "388963f84834ac556e6b6491f051f600fa1c3677ed9b323a2b7aca9698ff4c9f"), looks := true }, kinds := [], alts := [], laidByText := true, laidKinds := [.data, .data, .data, .sentinel, .sentinel], laidTests := true, laidLooks := .later }
def WaitsAcceptedUptoCardSaid : Prop := Claim7.holds Tryz.pinned (.plain (OpenSpec.upto waitsAcceptedSpec)) waitsAcceptedUptoCard

/-- THE SECOND FORM's CARD OF 'duologuelaw24.WaitsMeet'. -/
def waitsMeetUptoCard : Claim7 := { stood := { row := waitsMeetUptoRow, standIns := [], harness := (true, "388963f84834ac556e6b6491f051f600fa1c3677ed9b323a2b7aca9698ff4c9f"), looks := true }, kinds := [], alts := [], laidByText := true, laidKinds := [.data, .data, .data, .sentinel, .sentinel], laidTests := true, laidLooks := .later }
def WaitsMeetUptoCardSaid : Prop := Claim7.holds Tryz.pinned (.plain (OpenSpec.upto waitsMeetSpec)) waitsMeetUptoCard

/-- THE SECOND FORM's CARD OF 'duologuelaw17.ConfigFlattens'. -/
def configFlattensUptoCard : Claim7 := { stood := { row := configFlattensUptoRow, standIns := [], harness := (true, "388963f84834ac556e6b6491f051f600fa1c3677ed9b323a2b7aca9698ff4c9f"), looks := true }, kinds := [], alts := [], laidByText := true, laidKinds := [.data, .data, .data, .sentinel, .sentinel], laidTests := true, laidLooks := .later }
def ConfigFlattensUptoCardSaid : Prop := Claim7.holds Tryz.pinned (.plain (OpenSpec.upto configFlattensSpec)) configFlattensUptoCard

/-- THE SECOND FORM's CARD OF 'duologuelaw17.ConfigCounts'. -/
def configCountsUptoCard : Claim7 := { stood := { row := configCountsUptoRow, standIns := [], harness := (true, "388963f84834ac556e6b6491f051f600fa1c3677ed9b323a2b7aca9698ff4c9f"), looks := true }, kinds := [], alts := [], laidByText := true, laidKinds := [.data, .data, .data, .sentinel, .sentinel], laidTests := true, laidLooks := .later }
def ConfigCountsUptoCardSaid : Prop := Claim7.holds Tryz.pinned (.plain (OpenSpec.upto configCountsSpec)) configCountsUptoCard

/-- THE SECOND FORM's CARD OF 'duologuelaw17.ConfigTexts'. -/
def configTextsUptoCard : Claim7 := { stood := { row := configTextsUptoRow, standIns := [], harness := (true, "388963f84834ac556e6b6491f051f600fa1c3677ed9b323a2b7aca9698ff4c9f"), looks := true }, kinds := [], alts := [], laidByText := true, laidKinds := [.data, .data, .data, .sentinel, .sentinel], laidTests := true, laidLooks := .later }
def ConfigTextsUptoCardSaid : Prop := Claim7.holds Tryz.pinned (.plain (OpenSpec.upto configTextsSpec)) configTextsUptoCard
end Rows
end Go.Proofs.YtdlcnihacaboiaaGreatDoor

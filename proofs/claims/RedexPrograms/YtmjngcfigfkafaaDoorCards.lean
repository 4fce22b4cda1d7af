/-
  DERIVED. GIVEN WITH THE SEED: THE CARDS: each row of YtmjngcfigfkafaaDoorRows.lean that lists a variable, with what it lists TIED to the program's text (the seventh form; the later family's looks); each row that meets fmt, with fmt's text TOLD by the authors' own Lean function (tested against real Go, not proved from fmt's source: count such statements apart). THE CARD IS WHAT COUNTS. Prove the row's statement (the work); the ties are given (YtmjngcfigfkafaaDoorTie.lean); close each card by the builder's one call (the guide's Derived/Test/ToyasCard.lean, 'card_holds'). Laid BY PROGRAM, IN A SANDBOX (cutbox-door.mjs). By AI agents, Wed Nov 11 2026. No macro, syntax, notation, axiom, sorry.
-/
import Derived.Test.YtmjngcfigfkafaaDoorRows
import GoSem.ClaimSeven
namespace Go.Proofs.YtmjngcfigfkafaaDoor
namespace Rows

/-- THE TIED CARD OF 'duologuelaw16.SubstKeeps'. -/
def substKeepsCard : Claim7 := { stood := { row := substKeepsRow, standIns := [], harness := (true, "7551a3a46548d40cd10c57eb7e3eb6ecb9b30394686acd6e801e11f015c87786"), looks := true }, kinds := [], alts := [], laidByText := true, laidKinds := [.data, .data, .data], laidTests := true, laidLooks := .later }
def SubstKeepsCardSaid : Prop := Claim7.holds Tryd.pinned (.plain (OpenSpec.ofChange substKeepsSpec)) substKeepsCard

/-- THE TIED CARD OF 'duologuelaw18.RedexLists'. -/
def redexListsCard : Claim7 := { stood := { row := redexListsRow, standIns := [], harness := (true, "7551a3a46548d40cd10c57eb7e3eb6ecb9b30394686acd6e801e11f015c87786"), looks := true }, kinds := [], alts := [], laidByText := true, laidKinds := [.data, .data, .data, .sentinel, .sentinel], laidTests := true, laidLooks := .later }
def RedexListsCardSaid : Prop := Claim7.holds Tryd.pinned (.plain (OpenSpec.ofChange redexListsSpec)) redexListsCard

/-- THE TIED CARD OF 'duologuelaw18.RedexPrograms'. -/
def redexProgramsCard : Claim7 := { stood := { row := redexProgramsRow, standIns := [], harness := (true, "7551a3a46548d40cd10c57eb7e3eb6ecb9b30394686acd6e801e11f015c87786"), looks := true }, kinds := [], alts := [], laidByText := true, laidKinds := [.data, .data, .data, .sentinel, .sentinel], laidTests := true, laidLooks := .later }
def RedexProgramsCardSaid : Prop := Claim7.holds Tryd.pinned (.plain (OpenSpec.ofChange redexProgramsSpec)) redexProgramsCard

/-- THE TIED CARD OF 'duologuelaw18.RedexPicks'. -/
def redexPicksCard : Claim7 := { stood := { row := redexPicksRow, standIns := [], harness := (true, "7551a3a46548d40cd10c57eb7e3eb6ecb9b30394686acd6e801e11f015c87786"), looks := true }, kinds := [], alts := [], laidByText := true, laidKinds := [.data, .data, .data, .sentinel, .sentinel], laidTests := true, laidLooks := .later }
def RedexPicksCardSaid : Prop := Claim7.holds Tryd.pinned (.plain (OpenSpec.ofChange redexPicksSpec)) redexPicksCard

/-- THE TIED CARD OF 'duologuelaw18.RedexApart'. -/
def redexApartCard : Claim7 := { stood := { row := redexApartRow, standIns := [], harness := (true, "7551a3a46548d40cd10c57eb7e3eb6ecb9b30394686acd6e801e11f015c87786"), looks := true }, kinds := [], alts := [], laidByText := true, laidKinds := [.data, .data, .data, .sentinel, .sentinel], laidTests := true, laidLooks := .later }
def RedexApartCardSaid : Prop := Claim7.holds Tryd.pinned (.plain (OpenSpec.ofChange redexApartSpec)) redexApartCard

/-- THE TIED CARD OF 'duologuelaw18.RedexTurns'. -/
def redexTurnsCard : Claim7 := { stood := { row := redexTurnsRow, standIns := [], harness := (true, "7551a3a46548d40cd10c57eb7e3eb6ecb9b30394686acd6e801e11f015c87786"), looks := true }, kinds := [], alts := [], laidByText := true, laidKinds := [.data, .data, .data, .sentinel, .sentinel], laidTests := true, laidLooks := .later }
def RedexTurnsCardSaid : Prop := Claim7.holds Tryd.pinned (.plain (OpenSpec.ofChange redexTurnsSpec)) redexTurnsCard

/-- THE SECOND FORM's CARD OF 'duologuelaw16.SubstKeeps'. -/
def substKeepsUptoCard : Claim7 := { stood := { row := substKeepsUptoRow, standIns := [], harness := (true, "7551a3a46548d40cd10c57eb7e3eb6ecb9b30394686acd6e801e11f015c87786"), looks := true }, kinds := [], alts := [], laidByText := true, laidKinds := [.data, .data, .data], laidTests := true, laidLooks := .later }
def SubstKeepsUptoCardSaid : Prop := Claim7.holds Tryd.pinned (.plain (OpenSpec.upto substKeepsSpec)) substKeepsUptoCard

/-- THE SECOND FORM's CARD OF 'duologuelaw18.RedexLists'. -/
def redexListsUptoCard : Claim7 := { stood := { row := redexListsUptoRow, standIns := [], harness := (true, "7551a3a46548d40cd10c57eb7e3eb6ecb9b30394686acd6e801e11f015c87786"), looks := true }, kinds := [], alts := [], laidByText := true, laidKinds := [.data, .data, .data, .sentinel, .sentinel], laidTests := true, laidLooks := .later }
def RedexListsUptoCardSaid : Prop := Claim7.holds Tryd.pinned (.plain (OpenSpec.upto redexListsSpec)) redexListsUptoCard

/-- THE SECOND FORM's CARD OF 'duologuelaw18.RedexPrograms'. -/
def redexProgramsUptoCard : Claim7 := { stood := { row := redexProgramsUptoRow, standIns := [], harness := (true, "7551a3a46548d40cd10c57eb7e3eb6ecb9b30394686acd6e801e11f015c87786"), looks := true }, kinds := [], alts := [], laidByText := true, laidKinds := [.data, .data, .data, .sentinel, .sentinel], laidTests := true, laidLooks := .later }
def RedexProgramsUptoCardSaid : Prop := Claim7.holds Tryd.pinned (.plain (OpenSpec.upto redexProgramsSpec)) redexProgramsUptoCard

/-- THE SECOND FORM's CARD OF 'duologuelaw18.RedexPicks'. -/
def redexPicksUptoCard : Claim7 := { stood := { row := redexPicksUptoRow, standIns := [], harness := (true, "7551a3a46548d40cd10c57eb7e3eb6ecb9b30394686acd6e801e11f015c87786"), looks := true }, kinds := [], alts := [], laidByText := true, laidKinds := [.data, .data, .data, .sentinel, .sentinel], laidTests := true, laidLooks := .later }
def RedexPicksUptoCardSaid : Prop := Claim7.holds Tryd.pinned (.plain (OpenSpec.upto redexPicksSpec)) redexPicksUptoCard

/-- THE SECOND FORM's CARD OF 'duologuelaw18.RedexApart'. -/
def redexApartUptoCard : Claim7 := { stood := { row := redexApartUptoRow, standIns := [], harness := (true, "7551a3a46548d40cd10c57eb7e3eb6ecb9b30394686acd6e801e11f015c87786"), looks := true }, kinds := [], alts := [], laidByText := true, laidKinds := [.data, .data, .data, .sentinel, .sentinel], laidTests := true, laidLooks := .later }
def RedexApartUptoCardSaid : Prop := Claim7.holds Tryd.pinned (.plain (OpenSpec.upto redexApartSpec)) redexApartUptoCard

/-- THE SECOND FORM's CARD OF 'duologuelaw18.RedexTurns'. -/
def redexTurnsUptoCard : Claim7 := { stood := { row := redexTurnsUptoRow, standIns := [], harness := (true, "7551a3a46548d40cd10c57eb7e3eb6ecb9b30394686acd6e801e11f015c87786"), looks := true }, kinds := [], alts := [], laidByText := true, laidKinds := [.data, .data, .data, .sentinel, .sentinel], laidTests := true, laidLooks := .later }
def RedexTurnsUptoCardSaid : Prop := Claim7.holds Tryd.pinned (.plain (OpenSpec.upto redexTurnsSpec)) redexTurnsUptoCard
end Rows
end Go.Proofs.YtmjngcfigfkafaaDoor

/-
  DERIVED. GIVEN WITH THE SEED: THE CARDS: each row of YtcheafeaioflmaaDoorRows.lean that lists a variable, with what it lists TIED to the program's text (the seventh form; the later family's looks); each row that meets fmt, with fmt's text TOLD by the authors' own Lean function (tested against real Go, not proved from fmt's source: count such statements apart). THE CARD IS WHAT COUNTS. Prove the row's statement (the work); the ties are given (YtcheafeaioflmaaDoorTie.lean); close each card by the builder's one call (the guide's Derived/Test/ToyasCard.lean, 'card_holds'). Laid BY PROGRAM, IN A SANDBOX (cutbox-door.mjs). By AI agents, Wed Nov 11 2026. No macro, syntax, notation, axiom, sorry.
-/
import Derived.Test.YtcheafeaioflmaaDoorRows
import GoSem.ClaimSeven
namespace Go.Proofs.YtcheafeaioflmaaDoor
namespace Rows

/-- THE TIED CARD OF 'mudlarklaw06.AccessTexts'. -/
def accessTextsCard : Claim7 := { stood := { row := accessTextsRow, standIns := [], harness := (true, "0eca1db8879884b89b08ec9e77b9efef5a628d8d72b7266bb0c108ee8a73c925"), looks := true }, kinds := [], alts := [], laidByText := true, laidKinds := [.data, .data, .data], laidTests := true, laidLooks := .later }
def AccessTextsCardSaid : Prop := Claim7.holds Tryd.pinned (.plain (OpenSpec.ofChange accessTextsSpec)) accessTextsCard

/-- THE TIED CARD OF 'mudlarklaw06.AccessApart'. -/
def accessApartCard : Claim7 := { stood := { row := accessApartRow, standIns := [], harness := (true, "0eca1db8879884b89b08ec9e77b9efef5a628d8d72b7266bb0c108ee8a73c925"), looks := true }, kinds := [], alts := [], laidByText := true, laidKinds := [.data, .data, .data], laidTests := true, laidLooks := .later }
def AccessApartCardSaid : Prop := Claim7.holds Tryd.pinned (.plain (OpenSpec.ofChange accessApartSpec)) accessApartCard

/-- THE TIED CARD OF 'mudlarklaw06.AccessChanges'. -/
def accessChangesCard : Claim7 := { stood := { row := accessChangesRow, standIns := [], harness := (true, "0eca1db8879884b89b08ec9e77b9efef5a628d8d72b7266bb0c108ee8a73c925"), looks := true }, kinds := [], alts := [], laidByText := true, laidKinds := [.data, .data, .data], laidTests := true, laidLooks := .later }
def AccessChangesCardSaid : Prop := Claim7.holds Tryd.pinned (.plain (OpenSpec.ofChange accessChangesSpec)) accessChangesCard

/-- THE TIED CARD OF 'mudlarklaw03.ConfigReads'. -/
def configReadsCard : Claim7 := { stood := { row := configReadsRow, standIns := [], harness := (true, "0eca1db8879884b89b08ec9e77b9efef5a628d8d72b7266bb0c108ee8a73c925"), looks := true }, kinds := [], alts := [], laidByText := true, laidKinds := [.data, .data, .data, .data, .sentinel, .sentinel, .pinned], laidTests := true, laidLooks := .later }
def ConfigReadsCardSaid : Prop := Claim7.holds Tryd.pinned (.plain (OpenSpec.ofChange configReadsSpec)) configReadsCard

/-- THE TIED CARD OF 'mudlarklaw03.ConfigTells'. -/
def configTellsCard : Claim7 := { stood := { row := configTellsRow, standIns := [], harness := (true, "0eca1db8879884b89b08ec9e77b9efef5a628d8d72b7266bb0c108ee8a73c925"), looks := true }, kinds := [], alts := [], laidByText := true, laidKinds := [.data, .data, .data, .data, .sentinel, .sentinel, .pinned], laidTests := true, laidLooks := .later }
def ConfigTellsCardSaid : Prop := Claim7.holds Tryd.pinned (.plain (OpenSpec.ofChange configTellsSpec)) configTellsCard

/-- THE TIED CARD OF 'mudlarklaw03.ConfigGrows'. -/
def configGrowsCard : Claim7 := { stood := { row := configGrowsRow, standIns := [], harness := (true, "0eca1db8879884b89b08ec9e77b9efef5a628d8d72b7266bb0c108ee8a73c925"), looks := true }, kinds := [], alts := [], laidByText := true, laidKinds := [.data, .data, .data, .data, .sentinel, .sentinel, .pinned], laidTests := true, laidLooks := .later }
def ConfigGrowsCardSaid : Prop := Claim7.holds Tryd.pinned (.plain (OpenSpec.ofChange configGrowsSpec)) configGrowsCard

/-- THE TIED CARD OF 'mudlarklaw08.OpTexts'. -/
def opTextsCard : Claim7 := { stood := { row := opTextsRow, standIns := [], harness := (true, "0eca1db8879884b89b08ec9e77b9efef5a628d8d72b7266bb0c108ee8a73c925"), looks := true }, kinds := [], alts := [], laidByText := true, laidKinds := [.data, .data, .data, .data, .sentinel, .sentinel, .pinned], laidTests := true, laidLooks := .later }
def OpTextsCardSaid : Prop := Claim7.holds Tryd.pinned (.plain (OpenSpec.ofChange opTextsSpec)) opTextsCard

/-- THE TIED CARD OF 'mudlarklaw08.OpReads'. -/
def opReadsCard : Claim7 := { stood := { row := opReadsRow, standIns := [], harness := (true, "0eca1db8879884b89b08ec9e77b9efef5a628d8d72b7266bb0c108ee8a73c925"), looks := true }, kinds := [], alts := [], laidByText := true, laidKinds := [.data, .data, .data, .data, .sentinel, .sentinel, .pinned], laidTests := true, laidLooks := .later }
def OpReadsCardSaid : Prop := Claim7.holds Tryd.pinned (.plain (OpenSpec.ofChange opReadsSpec)) opReadsCard

/-- THE TIED CARD OF 'mudlarklaw32.CensusRows'. -/
def censusRowsCard : Claim7 := { stood := { row := censusRowsRow, standIns := [], harness := (true, "0eca1db8879884b89b08ec9e77b9efef5a628d8d72b7266bb0c108ee8a73c925"), looks := true }, kinds := [], alts := [], laidByText := true, laidKinds := [.data, .data, .data], laidTests := true, laidLooks := .later }
def CensusRowsCardSaid : Prop := Claim7.holds Tryd.pinned (.plain (OpenSpec.ofChange censusRowsSpec)) censusRowsCard

/-- THE TIED CARD OF 'mudlarklaw04.PlaceApart'. -/
def placeApartCard : Claim7 := { stood := { row := placeApartRow, standIns := [], harness := (true, "0eca1db8879884b89b08ec9e77b9efef5a628d8d72b7266bb0c108ee8a73c925"), looks := true }, kinds := [], alts := [], laidByText := true, laidKinds := [.data, .data, .data], laidTests := true, laidLooks := .later }
def PlaceApartCardSaid : Prop := Claim7.holds Tryd.pinned (.plain (OpenSpec.ofChange placeApartSpec)) placeApartCard

/-- THE TIED CARD OF 'mudlarklaw29.ShowWrites'. -/
def showWritesCard : Claim7 := { stood := { row := showWritesRow, standIns := [], harness := (true, "0eca1db8879884b89b08ec9e77b9efef5a628d8d72b7266bb0c108ee8a73c925"), looks := true }, kinds := [], alts := [], laidByText := true, laidKinds := [.data, .data, .data], laidTests := true, laidLooks := .later }
def ShowWritesCardSaid : Prop := Claim7.holds Tryd.pinned (.plain (OpenSpec.ofChange showWritesSpec)) showWritesCard

/-- THE TIED CARD OF 'mudlarklaw29.ShowIdeals'. -/
def showIdealsCard : Claim7 := { stood := { row := showIdealsRow, standIns := [], harness := (true, "0eca1db8879884b89b08ec9e77b9efef5a628d8d72b7266bb0c108ee8a73c925"), looks := true }, kinds := [], alts := [], laidByText := true, laidKinds := [.data, .data, .data], laidTests := true, laidLooks := .later }
def ShowIdealsCardSaid : Prop := Claim7.holds Tryd.pinned (.plain (OpenSpec.ofChange showIdealsSpec)) showIdealsCard

/-- THE SECOND FORM's CARD OF 'mudlarklaw06.AccessTexts'. -/
def accessTextsUptoCard : Claim7 := { stood := { row := accessTextsUptoRow, standIns := [], harness := (true, "0eca1db8879884b89b08ec9e77b9efef5a628d8d72b7266bb0c108ee8a73c925"), looks := true }, kinds := [], alts := [], laidByText := true, laidKinds := [.data, .data, .data], laidTests := true, laidLooks := .later }
def AccessTextsUptoCardSaid : Prop := Claim7.holds Tryd.pinned (.plain (OpenSpec.upto accessTextsSpec)) accessTextsUptoCard

/-- THE SECOND FORM's CARD OF 'mudlarklaw06.AccessApart'. -/
def accessApartUptoCard : Claim7 := { stood := { row := accessApartUptoRow, standIns := [], harness := (true, "0eca1db8879884b89b08ec9e77b9efef5a628d8d72b7266bb0c108ee8a73c925"), looks := true }, kinds := [], alts := [], laidByText := true, laidKinds := [.data, .data, .data], laidTests := true, laidLooks := .later }
def AccessApartUptoCardSaid : Prop := Claim7.holds Tryd.pinned (.plain (OpenSpec.upto accessApartSpec)) accessApartUptoCard

/-- THE SECOND FORM's CARD OF 'mudlarklaw06.AccessChanges'. -/
def accessChangesUptoCard : Claim7 := { stood := { row := accessChangesUptoRow, standIns := [], harness := (true, "0eca1db8879884b89b08ec9e77b9efef5a628d8d72b7266bb0c108ee8a73c925"), looks := true }, kinds := [], alts := [], laidByText := true, laidKinds := [.data, .data, .data], laidTests := true, laidLooks := .later }
def AccessChangesUptoCardSaid : Prop := Claim7.holds Tryd.pinned (.plain (OpenSpec.upto accessChangesSpec)) accessChangesUptoCard

/-- THE SECOND FORM's CARD OF 'mudlarklaw03.ConfigReads'. -/
def configReadsUptoCard : Claim7 := { stood := { row := configReadsUptoRow, standIns := [], harness := (true, "0eca1db8879884b89b08ec9e77b9efef5a628d8d72b7266bb0c108ee8a73c925"), looks := true }, kinds := [], alts := [], laidByText := true, laidKinds := [.data, .data, .data, .data, .sentinel, .sentinel, .pinned], laidTests := true, laidLooks := .later }
def ConfigReadsUptoCardSaid : Prop := Claim7.holds Tryd.pinned (.plain (OpenSpec.upto configReadsSpec)) configReadsUptoCard

/-- THE SECOND FORM's CARD OF 'mudlarklaw03.ConfigTells'. -/
def configTellsUptoCard : Claim7 := { stood := { row := configTellsUptoRow, standIns := [], harness := (true, "0eca1db8879884b89b08ec9e77b9efef5a628d8d72b7266bb0c108ee8a73c925"), looks := true }, kinds := [], alts := [], laidByText := true, laidKinds := [.data, .data, .data, .data, .sentinel, .sentinel, .pinned], laidTests := true, laidLooks := .later }
def ConfigTellsUptoCardSaid : Prop := Claim7.holds Tryd.pinned (.plain (OpenSpec.upto configTellsSpec)) configTellsUptoCard

/-- THE SECOND FORM's CARD OF 'mudlarklaw03.ConfigGrows'. -/
def configGrowsUptoCard : Claim7 := { stood := { row := configGrowsUptoRow, standIns := [], harness := (true, "0eca1db8879884b89b08ec9e77b9efef5a628d8d72b7266bb0c108ee8a73c925"), looks := true }, kinds := [], alts := [], laidByText := true, laidKinds := [.data, .data, .data, .data, .sentinel, .sentinel, .pinned], laidTests := true, laidLooks := .later }
def ConfigGrowsUptoCardSaid : Prop := Claim7.holds Tryd.pinned (.plain (OpenSpec.upto configGrowsSpec)) configGrowsUptoCard

/-- THE SECOND FORM's CARD OF 'mudlarklaw08.OpTexts'. -/
def opTextsUptoCard : Claim7 := { stood := { row := opTextsUptoRow, standIns := [], harness := (true, "0eca1db8879884b89b08ec9e77b9efef5a628d8d72b7266bb0c108ee8a73c925"), looks := true }, kinds := [], alts := [], laidByText := true, laidKinds := [.data, .data, .data, .data, .sentinel, .sentinel, .pinned], laidTests := true, laidLooks := .later }
def OpTextsUptoCardSaid : Prop := Claim7.holds Tryd.pinned (.plain (OpenSpec.upto opTextsSpec)) opTextsUptoCard

/-- THE SECOND FORM's CARD OF 'mudlarklaw08.OpReads'. -/
def opReadsUptoCard : Claim7 := { stood := { row := opReadsUptoRow, standIns := [], harness := (true, "0eca1db8879884b89b08ec9e77b9efef5a628d8d72b7266bb0c108ee8a73c925"), looks := true }, kinds := [], alts := [], laidByText := true, laidKinds := [.data, .data, .data, .data, .sentinel, .sentinel, .pinned], laidTests := true, laidLooks := .later }
def OpReadsUptoCardSaid : Prop := Claim7.holds Tryd.pinned (.plain (OpenSpec.upto opReadsSpec)) opReadsUptoCard

/-- THE SECOND FORM's CARD OF 'mudlarklaw32.CensusRows'. -/
def censusRowsUptoCard : Claim7 := { stood := { row := censusRowsUptoRow, standIns := [], harness := (true, "0eca1db8879884b89b08ec9e77b9efef5a628d8d72b7266bb0c108ee8a73c925"), looks := true }, kinds := [], alts := [], laidByText := true, laidKinds := [.data, .data, .data], laidTests := true, laidLooks := .later }
def CensusRowsUptoCardSaid : Prop := Claim7.holds Tryd.pinned (.plain (OpenSpec.upto censusRowsSpec)) censusRowsUptoCard

/-- THE SECOND FORM's CARD OF 'mudlarklaw04.PlaceApart'. -/
def placeApartUptoCard : Claim7 := { stood := { row := placeApartUptoRow, standIns := [], harness := (true, "0eca1db8879884b89b08ec9e77b9efef5a628d8d72b7266bb0c108ee8a73c925"), looks := true }, kinds := [], alts := [], laidByText := true, laidKinds := [.data, .data, .data], laidTests := true, laidLooks := .later }
def PlaceApartUptoCardSaid : Prop := Claim7.holds Tryd.pinned (.plain (OpenSpec.upto placeApartSpec)) placeApartUptoCard

/-- THE SECOND FORM's CARD OF 'mudlarklaw29.ShowWrites'. -/
def showWritesUptoCard : Claim7 := { stood := { row := showWritesUptoRow, standIns := [], harness := (true, "0eca1db8879884b89b08ec9e77b9efef5a628d8d72b7266bb0c108ee8a73c925"), looks := true }, kinds := [], alts := [], laidByText := true, laidKinds := [.data, .data, .data], laidTests := true, laidLooks := .later }
def ShowWritesUptoCardSaid : Prop := Claim7.holds Tryd.pinned (.plain (OpenSpec.upto showWritesSpec)) showWritesUptoCard

/-- THE SECOND FORM's CARD OF 'mudlarklaw29.ShowIdeals'. -/
def showIdealsUptoCard : Claim7 := { stood := { row := showIdealsUptoRow, standIns := [], harness := (true, "0eca1db8879884b89b08ec9e77b9efef5a628d8d72b7266bb0c108ee8a73c925"), looks := true }, kinds := [], alts := [], laidByText := true, laidKinds := [.data, .data, .data], laidTests := true, laidLooks := .later }
def ShowIdealsUptoCardSaid : Prop := Claim7.holds Tryd.pinned (.plain (OpenSpec.upto showIdealsSpec)) showIdealsUptoCard
end Rows
end Go.Proofs.YtcheafeaioflmaaDoor

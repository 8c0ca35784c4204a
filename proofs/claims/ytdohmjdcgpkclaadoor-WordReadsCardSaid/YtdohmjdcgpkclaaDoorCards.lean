/-
  DERIVED. GIVEN WITH THE SEED: THE CARDS: each row of YtdohmjdcgpkclaaDoorRows.lean that lists a variable, with what it lists TIED to the program's text (the seventh form; the later family's looks); each row that meets fmt, with fmt's text TOLD by the authors' own Lean function (tested against real Go, not proved from fmt's source: count such statements apart). THE CARD IS WHAT COUNTS. Prove the row's statement (the work); the ties are given (YtdohmjdcgpkclaaDoorTie.lean); close each card by the builder's one call (the guide's Derived/Test/ToyasCard.lean, 'card_holds'). Laid BY PROGRAM, IN A SANDBOX (cutbox-door.mjs). By AI agents, Wed Nov 11 2026. No macro, syntax, notation, axiom, sorry.
-/
import Derived.Test.YtdohmjdcgpkclaaDoorRows
import GoSem.ClaimSeven
namespace Go.Proofs.YtdohmjdcgpkclaaDoor
namespace Rows

/-- THE TIED CARD OF 'mudlarklaw01.WordTexts'. -/
def wordTextsCard : Claim7 := { stood := { row := wordTextsRow, standIns := [], harness := (true, "00ecf63bd31aa203d16c004ea25d2f94acc1d6f4dceac956c2d9f48cbefaae22"), looks := true }, kinds := [], alts := [], laidByText := true, laidKinds := [.data, .data, .data, .data, .sentinel, .sentinel, .pinned], laidTests := true, laidLooks := .later }
def WordTextsCardSaid : Prop := Claim7.holds Tryd.pinned (.plain (OpenSpec.ofChange wordTextsSpec)) wordTextsCard

/-- THE TIED CARD OF 'mudlarklaw01.WordReads'. -/
def wordReadsCard : Claim7 := { stood := { row := wordReadsRow, standIns := [], harness := (true, "00ecf63bd31aa203d16c004ea25d2f94acc1d6f4dceac956c2d9f48cbefaae22"), looks := true }, kinds := [], alts := [], laidByText := true, laidKinds := [.data, .data, .data, .data, .sentinel, .sentinel, .pinned], laidTests := true, laidLooks := .later }
def WordReadsCardSaid : Prop := Claim7.holds Tryd.pinned (.plain (OpenSpec.ofChange wordReadsSpec)) wordReadsCard

/-- THE TIED CARD OF 'mudlarklaw01.WordCells'. -/
def wordCellsCard : Claim7 := { stood := { row := wordCellsRow, standIns := [], harness := (true, "00ecf63bd31aa203d16c004ea25d2f94acc1d6f4dceac956c2d9f48cbefaae22"), looks := true }, kinds := [], alts := [], laidByText := true, laidKinds := [.data, .data, .data], laidTests := true, laidLooks := .later }
def WordCellsCardSaid : Prop := Claim7.holds Tryd.pinned (.plain (OpenSpec.ofChange wordCellsSpec)) wordCellsCard

/-- THE TIED CARD OF 'mudlarklaw32.CensusRows'. -/
def censusRowsCard : Claim7 := { stood := { row := censusRowsRow, standIns := [], harness := (true, "00ecf63bd31aa203d16c004ea25d2f94acc1d6f4dceac956c2d9f48cbefaae22"), looks := true }, kinds := [], alts := [], laidByText := true, laidKinds := [.data, .data, .data], laidTests := true, laidLooks := .later }
def CensusRowsCardSaid : Prop := Claim7.holds Tryd.pinned (.plain (OpenSpec.ofChange censusRowsSpec)) censusRowsCard

/-- THE TIED CARD OF 'mudlarklaw04.PlaceNames'. -/
def placeNamesCard : Claim7 := { stood := { row := placeNamesRow, standIns := [], harness := (true, "00ecf63bd31aa203d16c004ea25d2f94acc1d6f4dceac956c2d9f48cbefaae22"), looks := true }, kinds := [], alts := [], laidByText := true, laidKinds := [.data, .data, .data], laidTests := true, laidLooks := .later }
def PlaceNamesCardSaid : Prop := Claim7.holds Tryd.pinned (.plain (OpenSpec.ofChange placeNamesSpec)) placeNamesCard

/-- THE TIED CARD OF 'mudlarklaw04.PlaceApart'. -/
def placeApartCard : Claim7 := { stood := { row := placeApartRow, standIns := [], harness := (true, "00ecf63bd31aa203d16c004ea25d2f94acc1d6f4dceac956c2d9f48cbefaae22"), looks := true }, kinds := [], alts := [], laidByText := true, laidKinds := [.data, .data, .data], laidTests := true, laidLooks := .later }
def PlaceApartCardSaid : Prop := Claim7.holds Tryd.pinned (.plain (OpenSpec.ofChange placeApartSpec)) placeApartCard

/-- THE TIED CARD OF 'mudlarklaw08.OpPlain'. -/
def opPlainCard : Claim7 := { stood := { row := opPlainRow, standIns := [], harness := (true, "00ecf63bd31aa203d16c004ea25d2f94acc1d6f4dceac956c2d9f48cbefaae22"), looks := true }, kinds := [], alts := [], laidByText := true, laidKinds := [.data, .data, .data], laidTests := true, laidLooks := .later }
def OpPlainCardSaid : Prop := Claim7.holds Tryd.pinned (.plain (OpenSpec.ofChange opPlainSpec)) opPlainCard

/-- THE TIED CARD OF 'mudlarklaw08.OpChecks'. -/
def opChecksCard : Claim7 := { stood := { row := opChecksRow, standIns := [], harness := (true, "00ecf63bd31aa203d16c004ea25d2f94acc1d6f4dceac956c2d9f48cbefaae22"), looks := true }, kinds := [], alts := [], laidByText := true, laidKinds := [.data, .data, .data], laidTests := true, laidLooks := .later }
def OpChecksCardSaid : Prop := Claim7.holds Tryd.pinned (.plain (OpenSpec.ofChange opChecksSpec)) opChecksCard

/-- THE TIED CARD OF 'mudlarklaw08.OpTexts'. -/
def opTextsCard : Claim7 := { stood := { row := opTextsRow, standIns := [], harness := (true, "00ecf63bd31aa203d16c004ea25d2f94acc1d6f4dceac956c2d9f48cbefaae22"), looks := true }, kinds := [], alts := [], laidByText := true, laidKinds := [.data, .data, .data, .data, .sentinel, .sentinel, .pinned], laidTests := true, laidLooks := .later }
def OpTextsCardSaid : Prop := Claim7.holds Tryd.pinned (.plain (OpenSpec.ofChange opTextsSpec)) opTextsCard

/-- THE TIED CARD OF 'mudlarklaw08.OpReads'. -/
def opReadsCard : Claim7 := { stood := { row := opReadsRow, standIns := [], harness := (true, "00ecf63bd31aa203d16c004ea25d2f94acc1d6f4dceac956c2d9f48cbefaae22"), looks := true }, kinds := [], alts := [], laidByText := true, laidKinds := [.data, .data, .data, .data, .sentinel, .sentinel, .pinned], laidTests := true, laidLooks := .later }
def OpReadsCardSaid : Prop := Claim7.holds Tryd.pinned (.plain (OpenSpec.ofChange opReadsSpec)) opReadsCard

/-- THE TIED CARD OF 'mudlarklaw30.BuildLong'. -/
def buildLongCard : Claim7 := { stood := { row := buildLongRow, standIns := [], harness := (true, "00ecf63bd31aa203d16c004ea25d2f94acc1d6f4dceac956c2d9f48cbefaae22"), looks := true }, kinds := [], alts := [], laidByText := true, laidKinds := [.data, .data, .data, .sentinel, .sentinel], laidTests := true, laidLooks := .later }
def BuildLongCardSaid : Prop := Claim7.holds Tryd.pinned (.plain (OpenSpec.ofChange buildLongSpec)) buildLongCard

/-- THE TIED CARD OF 'mudlarklaw30.BuildOps'. -/
def buildOpsCard : Claim7 := { stood := { row := buildOpsRow, standIns := [], harness := (true, "00ecf63bd31aa203d16c004ea25d2f94acc1d6f4dceac956c2d9f48cbefaae22"), looks := true }, kinds := [], alts := [], laidByText := true, laidKinds := [.data, .data, .data, .sentinel, .sentinel], laidTests := true, laidLooks := .later }
def BuildOpsCardSaid : Prop := Claim7.holds Tryd.pinned (.plain (OpenSpec.ofChange buildOpsSpec)) buildOpsCard

/-- THE SECOND FORM's CARD OF 'mudlarklaw01.WordTexts'. -/
def wordTextsUptoCard : Claim7 := { stood := { row := wordTextsUptoRow, standIns := [], harness := (true, "00ecf63bd31aa203d16c004ea25d2f94acc1d6f4dceac956c2d9f48cbefaae22"), looks := true }, kinds := [], alts := [], laidByText := true, laidKinds := [.data, .data, .data, .data, .sentinel, .sentinel, .pinned], laidTests := true, laidLooks := .later }
def WordTextsUptoCardSaid : Prop := Claim7.holds Tryd.pinned (.plain (OpenSpec.upto wordTextsSpec)) wordTextsUptoCard

/-- THE SECOND FORM's CARD OF 'mudlarklaw01.WordReads'. -/
def wordReadsUptoCard : Claim7 := { stood := { row := wordReadsUptoRow, standIns := [], harness := (true, "00ecf63bd31aa203d16c004ea25d2f94acc1d6f4dceac956c2d9f48cbefaae22"), looks := true }, kinds := [], alts := [], laidByText := true, laidKinds := [.data, .data, .data, .data, .sentinel, .sentinel, .pinned], laidTests := true, laidLooks := .later }
def WordReadsUptoCardSaid : Prop := Claim7.holds Tryd.pinned (.plain (OpenSpec.upto wordReadsSpec)) wordReadsUptoCard

/-- THE SECOND FORM's CARD OF 'mudlarklaw01.WordCells'. -/
def wordCellsUptoCard : Claim7 := { stood := { row := wordCellsUptoRow, standIns := [], harness := (true, "00ecf63bd31aa203d16c004ea25d2f94acc1d6f4dceac956c2d9f48cbefaae22"), looks := true }, kinds := [], alts := [], laidByText := true, laidKinds := [.data, .data, .data], laidTests := true, laidLooks := .later }
def WordCellsUptoCardSaid : Prop := Claim7.holds Tryd.pinned (.plain (OpenSpec.upto wordCellsSpec)) wordCellsUptoCard

/-- THE SECOND FORM's CARD OF 'mudlarklaw32.CensusRows'. -/
def censusRowsUptoCard : Claim7 := { stood := { row := censusRowsUptoRow, standIns := [], harness := (true, "00ecf63bd31aa203d16c004ea25d2f94acc1d6f4dceac956c2d9f48cbefaae22"), looks := true }, kinds := [], alts := [], laidByText := true, laidKinds := [.data, .data, .data], laidTests := true, laidLooks := .later }
def CensusRowsUptoCardSaid : Prop := Claim7.holds Tryd.pinned (.plain (OpenSpec.upto censusRowsSpec)) censusRowsUptoCard

/-- THE SECOND FORM's CARD OF 'mudlarklaw04.PlaceNames'. -/
def placeNamesUptoCard : Claim7 := { stood := { row := placeNamesUptoRow, standIns := [], harness := (true, "00ecf63bd31aa203d16c004ea25d2f94acc1d6f4dceac956c2d9f48cbefaae22"), looks := true }, kinds := [], alts := [], laidByText := true, laidKinds := [.data, .data, .data], laidTests := true, laidLooks := .later }
def PlaceNamesUptoCardSaid : Prop := Claim7.holds Tryd.pinned (.plain (OpenSpec.upto placeNamesSpec)) placeNamesUptoCard

/-- THE SECOND FORM's CARD OF 'mudlarklaw04.PlaceApart'. -/
def placeApartUptoCard : Claim7 := { stood := { row := placeApartUptoRow, standIns := [], harness := (true, "00ecf63bd31aa203d16c004ea25d2f94acc1d6f4dceac956c2d9f48cbefaae22"), looks := true }, kinds := [], alts := [], laidByText := true, laidKinds := [.data, .data, .data], laidTests := true, laidLooks := .later }
def PlaceApartUptoCardSaid : Prop := Claim7.holds Tryd.pinned (.plain (OpenSpec.upto placeApartSpec)) placeApartUptoCard

/-- THE SECOND FORM's CARD OF 'mudlarklaw08.OpPlain'. -/
def opPlainUptoCard : Claim7 := { stood := { row := opPlainUptoRow, standIns := [], harness := (true, "00ecf63bd31aa203d16c004ea25d2f94acc1d6f4dceac956c2d9f48cbefaae22"), looks := true }, kinds := [], alts := [], laidByText := true, laidKinds := [.data, .data, .data], laidTests := true, laidLooks := .later }
def OpPlainUptoCardSaid : Prop := Claim7.holds Tryd.pinned (.plain (OpenSpec.upto opPlainSpec)) opPlainUptoCard

/-- THE SECOND FORM's CARD OF 'mudlarklaw08.OpChecks'. -/
def opChecksUptoCard : Claim7 := { stood := { row := opChecksUptoRow, standIns := [], harness := (true, "00ecf63bd31aa203d16c004ea25d2f94acc1d6f4dceac956c2d9f48cbefaae22"), looks := true }, kinds := [], alts := [], laidByText := true, laidKinds := [.data, .data, .data], laidTests := true, laidLooks := .later }
def OpChecksUptoCardSaid : Prop := Claim7.holds Tryd.pinned (.plain (OpenSpec.upto opChecksSpec)) opChecksUptoCard

/-- THE SECOND FORM's CARD OF 'mudlarklaw08.OpTexts'. -/
def opTextsUptoCard : Claim7 := { stood := { row := opTextsUptoRow, standIns := [], harness := (true, "00ecf63bd31aa203d16c004ea25d2f94acc1d6f4dceac956c2d9f48cbefaae22"), looks := true }, kinds := [], alts := [], laidByText := true, laidKinds := [.data, .data, .data, .data, .sentinel, .sentinel, .pinned], laidTests := true, laidLooks := .later }
def OpTextsUptoCardSaid : Prop := Claim7.holds Tryd.pinned (.plain (OpenSpec.upto opTextsSpec)) opTextsUptoCard

/-- THE SECOND FORM's CARD OF 'mudlarklaw08.OpReads'. -/
def opReadsUptoCard : Claim7 := { stood := { row := opReadsUptoRow, standIns := [], harness := (true, "00ecf63bd31aa203d16c004ea25d2f94acc1d6f4dceac956c2d9f48cbefaae22"), looks := true }, kinds := [], alts := [], laidByText := true, laidKinds := [.data, .data, .data, .data, .sentinel, .sentinel, .pinned], laidTests := true, laidLooks := .later }
def OpReadsUptoCardSaid : Prop := Claim7.holds Tryd.pinned (.plain (OpenSpec.upto opReadsSpec)) opReadsUptoCard

/-- THE SECOND FORM's CARD OF 'mudlarklaw30.BuildLong'. -/
def buildLongUptoCard : Claim7 := { stood := { row := buildLongUptoRow, standIns := [], harness := (true, "00ecf63bd31aa203d16c004ea25d2f94acc1d6f4dceac956c2d9f48cbefaae22"), looks := true }, kinds := [], alts := [], laidByText := true, laidKinds := [.data, .data, .data, .sentinel, .sentinel], laidTests := true, laidLooks := .later }
def BuildLongUptoCardSaid : Prop := Claim7.holds Tryd.pinned (.plain (OpenSpec.upto buildLongSpec)) buildLongUptoCard

/-- THE SECOND FORM's CARD OF 'mudlarklaw30.BuildOps'. -/
def buildOpsUptoCard : Claim7 := { stood := { row := buildOpsUptoRow, standIns := [], harness := (true, "00ecf63bd31aa203d16c004ea25d2f94acc1d6f4dceac956c2d9f48cbefaae22"), looks := true }, kinds := [], alts := [], laidByText := true, laidKinds := [.data, .data, .data, .sentinel, .sentinel], laidTests := true, laidLooks := .later }
def BuildOpsUptoCardSaid : Prop := Claim7.holds Tryd.pinned (.plain (OpenSpec.upto buildOpsSpec)) buildOpsUptoCard
end Rows
end Go.Proofs.YtdohmjdcgpkclaaDoor

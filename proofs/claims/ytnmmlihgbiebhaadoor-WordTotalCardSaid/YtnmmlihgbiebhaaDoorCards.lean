/-
  DERIVED. GIVEN WITH THE SEED: THE CARDS: each row of YtnmmlihgbiebhaaDoorRows.lean that lists a variable, with what it lists TIED to the program's text (the seventh form; the later family's looks); each row that meets fmt, with fmt's text TOLD by the authors' own Lean function (tested against real Go, not proved from fmt's source: count such statements apart). THE CARD IS WHAT COUNTS. Prove the row's statement (the work); the ties are given (YtnmmlihgbiebhaaDoorTie.lean); close each card by the builder's one call (the guide's Derived/Test/ToyasCard.lean, 'card_holds'). Laid BY PROGRAM, IN A SANDBOX (cutbox-door.mjs). By AI agents, Wed Nov 11 2026. No macro, syntax, notation, axiom, sorry.
-/
import Derived.Test.YtnmmlihgbiebhaaDoorRows
import GoSem.ClaimSeven
namespace Go.Proofs.YtnmmlihgbiebhaaDoor
namespace Rows

/-- THE TIED CARD OF 'mudlarklaw01.WordKinds'. -/
def wordKindsCard : Claim7 := { stood := { row := wordKindsRow, standIns := [], harness := (true, "876a0f96a45012fe9d334bfde4876a0b95b23c11ee7ea5fa76aff484ead548c4"), looks := false }, kinds := [], alts := [], laidByText := true, laidKinds := [.data, .data, .data], laidTests := true, laidLooks := .later }
def WordKindsCardSaid : Prop := Claim7.holds Tryd.pinned (.plain (OpenSpec.ofChange wordKindsSpec)) wordKindsCard

/-- THE TIED CARD OF 'mudlarklaw01.WordTotal'. -/
def wordTotalCard : Claim7 := { stood := { row := wordTotalRow, standIns := [], harness := (true, "876a0f96a45012fe9d334bfde4876a0b95b23c11ee7ea5fa76aff484ead548c4"), looks := false }, kinds := [], alts := [], laidByText := true, laidKinds := [.data, .data, .data], laidTests := true, laidLooks := .later }
def WordTotalCardSaid : Prop := Claim7.holds Tryd.pinned (.plain (OpenSpec.ofChange wordTotalSpec)) wordTotalCard

/-- THE TIED CARD OF 'mudlarklaw01.WordCells'. -/
def wordCellsCard : Claim7 := { stood := { row := wordCellsRow, standIns := [], harness := (true, "876a0f96a45012fe9d334bfde4876a0b95b23c11ee7ea5fa76aff484ead548c4"), looks := false }, kinds := [], alts := [], laidByText := true, laidKinds := [.data, .data, .data], laidTests := true, laidLooks := .later }
def WordCellsCardSaid : Prop := Claim7.holds Tryd.pinned (.plain (OpenSpec.ofChange wordCellsSpec)) wordCellsCard

/-- THE TIED CARD OF 'mudlarklaw04.PlaceApart'. -/
def placeApartCard : Claim7 := { stood := { row := placeApartRow, standIns := [], harness := (true, "876a0f96a45012fe9d334bfde4876a0b95b23c11ee7ea5fa76aff484ead548c4"), looks := false }, kinds := [], alts := [], laidByText := true, laidKinds := [.data, .data, .data], laidTests := true, laidLooks := .later }
def PlaceApartCardSaid : Prop := Claim7.holds Tryd.pinned (.plain (OpenSpec.ofChange placeApartSpec)) placeApartCard

/-- THE TIED CARD OF 'mudlarklaw32.CensusRows'. -/
def censusRowsCard : Claim7 := { stood := { row := censusRowsRow, standIns := [], harness := (true, "876a0f96a45012fe9d334bfde4876a0b95b23c11ee7ea5fa76aff484ead548c4"), looks := false }, kinds := [], alts := [], laidByText := true, laidKinds := [.data, .data, .data], laidTests := true, laidLooks := .later }
def CensusRowsCardSaid : Prop := Claim7.holds Tryd.pinned (.plain (OpenSpec.ofChange censusRowsSpec)) censusRowsCard

/-- THE TIED CARD OF 'mudlarklaw04.PlaceNames'. -/
def placeNamesCard : Claim7 := { stood := { row := placeNamesRow, standIns := [], harness := (true, "876a0f96a45012fe9d334bfde4876a0b95b23c11ee7ea5fa76aff484ead548c4"), looks := false }, kinds := [], alts := [], laidByText := true, laidKinds := [.data, .data, .data], laidTests := true, laidLooks := .later }
def PlaceNamesCardSaid : Prop := Claim7.holds Tryd.pinned (.plain (OpenSpec.ofChange placeNamesSpec)) placeNamesCard

/-- THE TIED CARD OF 'mudlarklaw08.OpPlain'. -/
def opPlainCard : Claim7 := { stood := { row := opPlainRow, standIns := [], harness := (true, "876a0f96a45012fe9d334bfde4876a0b95b23c11ee7ea5fa76aff484ead548c4"), looks := false }, kinds := [], alts := [], laidByText := true, laidKinds := [.data, .data, .data], laidTests := true, laidLooks := .later }
def OpPlainCardSaid : Prop := Claim7.holds Tryd.pinned (.plain (OpenSpec.ofChange opPlainSpec)) opPlainCard

/-- THE TIED CARD OF 'mudlarklaw08.OpChecks'. -/
def opChecksCard : Claim7 := { stood := { row := opChecksRow, standIns := [], harness := (true, "876a0f96a45012fe9d334bfde4876a0b95b23c11ee7ea5fa76aff484ead548c4"), looks := false }, kinds := [], alts := [], laidByText := true, laidKinds := [.data, .data, .data], laidTests := true, laidLooks := .later }
def OpChecksCardSaid : Prop := Claim7.holds Tryd.pinned (.plain (OpenSpec.ofChange opChecksSpec)) opChecksCard

/-- THE TIED CARD OF 'mudlarklaw29.ShowWrites'. -/
def showWritesCard : Claim7 := { stood := { row := showWritesRow, standIns := [], harness := (true, "876a0f96a45012fe9d334bfde4876a0b95b23c11ee7ea5fa76aff484ead548c4"), looks := false }, kinds := [], alts := [], laidByText := true, laidKinds := [.data, .data, .data], laidTests := true, laidLooks := .later }
def ShowWritesCardSaid : Prop := Claim7.holds Tryd.pinned (.plain (OpenSpec.ofChange showWritesSpec)) showWritesCard

/-- THE TIED CARD OF 'mudlarklaw06.AccessApart'. -/
def accessApartCard : Claim7 := { stood := { row := accessApartRow, standIns := [], harness := (true, "876a0f96a45012fe9d334bfde4876a0b95b23c11ee7ea5fa76aff484ead548c4"), looks := false }, kinds := [], alts := [], laidByText := true, laidKinds := [.data, .data, .data], laidTests := true, laidLooks := .later }
def AccessApartCardSaid : Prop := Claim7.holds Tryd.pinned (.plain (OpenSpec.ofChange accessApartSpec)) accessApartCard

/-- THE SECOND FORM's CARD OF 'mudlarklaw01.WordKinds'. -/
def wordKindsUptoCard : Claim7 := { stood := { row := wordKindsUptoRow, standIns := [], harness := (true, "876a0f96a45012fe9d334bfde4876a0b95b23c11ee7ea5fa76aff484ead548c4"), looks := false }, kinds := [], alts := [], laidByText := true, laidKinds := [.data, .data, .data], laidTests := true, laidLooks := .later }
def WordKindsUptoCardSaid : Prop := Claim7.holds Tryd.pinned (.plain (OpenSpec.upto wordKindsSpec)) wordKindsUptoCard

/-- THE SECOND FORM's CARD OF 'mudlarklaw01.WordTotal'. -/
def wordTotalUptoCard : Claim7 := { stood := { row := wordTotalUptoRow, standIns := [], harness := (true, "876a0f96a45012fe9d334bfde4876a0b95b23c11ee7ea5fa76aff484ead548c4"), looks := false }, kinds := [], alts := [], laidByText := true, laidKinds := [.data, .data, .data], laidTests := true, laidLooks := .later }
def WordTotalUptoCardSaid : Prop := Claim7.holds Tryd.pinned (.plain (OpenSpec.upto wordTotalSpec)) wordTotalUptoCard

/-- THE SECOND FORM's CARD OF 'mudlarklaw01.WordCells'. -/
def wordCellsUptoCard : Claim7 := { stood := { row := wordCellsUptoRow, standIns := [], harness := (true, "876a0f96a45012fe9d334bfde4876a0b95b23c11ee7ea5fa76aff484ead548c4"), looks := false }, kinds := [], alts := [], laidByText := true, laidKinds := [.data, .data, .data], laidTests := true, laidLooks := .later }
def WordCellsUptoCardSaid : Prop := Claim7.holds Tryd.pinned (.plain (OpenSpec.upto wordCellsSpec)) wordCellsUptoCard

/-- THE SECOND FORM's CARD OF 'mudlarklaw04.PlaceApart'. -/
def placeApartUptoCard : Claim7 := { stood := { row := placeApartUptoRow, standIns := [], harness := (true, "876a0f96a45012fe9d334bfde4876a0b95b23c11ee7ea5fa76aff484ead548c4"), looks := false }, kinds := [], alts := [], laidByText := true, laidKinds := [.data, .data, .data], laidTests := true, laidLooks := .later }
def PlaceApartUptoCardSaid : Prop := Claim7.holds Tryd.pinned (.plain (OpenSpec.upto placeApartSpec)) placeApartUptoCard

/-- THE SECOND FORM's CARD OF 'mudlarklaw32.CensusRows'. -/
def censusRowsUptoCard : Claim7 := { stood := { row := censusRowsUptoRow, standIns := [], harness := (true, "876a0f96a45012fe9d334bfde4876a0b95b23c11ee7ea5fa76aff484ead548c4"), looks := false }, kinds := [], alts := [], laidByText := true, laidKinds := [.data, .data, .data], laidTests := true, laidLooks := .later }
def CensusRowsUptoCardSaid : Prop := Claim7.holds Tryd.pinned (.plain (OpenSpec.upto censusRowsSpec)) censusRowsUptoCard

/-- THE SECOND FORM's CARD OF 'mudlarklaw04.PlaceNames'. -/
def placeNamesUptoCard : Claim7 := { stood := { row := placeNamesUptoRow, standIns := [], harness := (true, "876a0f96a45012fe9d334bfde4876a0b95b23c11ee7ea5fa76aff484ead548c4"), looks := false }, kinds := [], alts := [], laidByText := true, laidKinds := [.data, .data, .data], laidTests := true, laidLooks := .later }
def PlaceNamesUptoCardSaid : Prop := Claim7.holds Tryd.pinned (.plain (OpenSpec.upto placeNamesSpec)) placeNamesUptoCard

/-- THE SECOND FORM's CARD OF 'mudlarklaw08.OpPlain'. -/
def opPlainUptoCard : Claim7 := { stood := { row := opPlainUptoRow, standIns := [], harness := (true, "876a0f96a45012fe9d334bfde4876a0b95b23c11ee7ea5fa76aff484ead548c4"), looks := false }, kinds := [], alts := [], laidByText := true, laidKinds := [.data, .data, .data], laidTests := true, laidLooks := .later }
def OpPlainUptoCardSaid : Prop := Claim7.holds Tryd.pinned (.plain (OpenSpec.upto opPlainSpec)) opPlainUptoCard

/-- THE SECOND FORM's CARD OF 'mudlarklaw08.OpChecks'. -/
def opChecksUptoCard : Claim7 := { stood := { row := opChecksUptoRow, standIns := [], harness := (true, "876a0f96a45012fe9d334bfde4876a0b95b23c11ee7ea5fa76aff484ead548c4"), looks := false }, kinds := [], alts := [], laidByText := true, laidKinds := [.data, .data, .data], laidTests := true, laidLooks := .later }
def OpChecksUptoCardSaid : Prop := Claim7.holds Tryd.pinned (.plain (OpenSpec.upto opChecksSpec)) opChecksUptoCard

/-- THE SECOND FORM's CARD OF 'mudlarklaw29.ShowWrites'. -/
def showWritesUptoCard : Claim7 := { stood := { row := showWritesUptoRow, standIns := [], harness := (true, "876a0f96a45012fe9d334bfde4876a0b95b23c11ee7ea5fa76aff484ead548c4"), looks := false }, kinds := [], alts := [], laidByText := true, laidKinds := [.data, .data, .data], laidTests := true, laidLooks := .later }
def ShowWritesUptoCardSaid : Prop := Claim7.holds Tryd.pinned (.plain (OpenSpec.upto showWritesSpec)) showWritesUptoCard

/-- THE SECOND FORM's CARD OF 'mudlarklaw06.AccessApart'. -/
def accessApartUptoCard : Claim7 := { stood := { row := accessApartUptoRow, standIns := [], harness := (true, "876a0f96a45012fe9d334bfde4876a0b95b23c11ee7ea5fa76aff484ead548c4"), looks := false }, kinds := [], alts := [], laidByText := true, laidKinds := [.data, .data, .data], laidTests := true, laidLooks := .later }
def AccessApartUptoCardSaid : Prop := Claim7.holds Tryd.pinned (.plain (OpenSpec.upto accessApartSpec)) accessApartUptoCard
end Rows
end Go.Proofs.YtnmmlihgbiebhaaDoor

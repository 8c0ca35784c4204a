/-
  DERIVED. GIVEN WITH THE SEED: THE CARDS: each row of YtnbigldfklehgaaDoorRows.lean that lists a variable, with what it lists TIED to the program's text (the seventh form; the later family's looks); each row that meets fmt, with fmt's text TOLD by the authors' own Lean function (tested against real Go, not proved from fmt's source: count such statements apart). THE CARD IS WHAT COUNTS. Prove the row's statement (the work); the ties are given (YtnbigldfklehgaaDoorTie.lean); close each card by the builder's one call (the guide's Derived/Test/ToyasCard.lean, 'card_holds'). Laid BY PROGRAM, IN A SANDBOX (cutbox-door.mjs). By AI agents, Wed Nov 11 2026. No macro, syntax, notation, axiom, sorry.
-/
import Derived.Test.YtnbigldfklehgaaDoorRows
import GoSem.ClaimSeven
namespace Go.Proofs.YtnbigldfklehgaaDoor
namespace Rows

/-- THE TIED CARD OF 'mudlarklaw02.ColourNames'. -/
def colourNamesCard : Claim7 := { stood := { row := colourNamesRow, standIns := [], harness := (true, "a74de0b191db9d040f91ea51797d13dcbda95bf372f8193cede03f64ef9597ce"), looks := false }, kinds := [], alts := [], laidByText := true, laidKinds := [.data], laidTests := true, laidLooks := .later }
def ColourNamesCardSaid : Prop := Claim7.holds Tryd.pinned (.plain (OpenSpec.ofChange colourNamesSpec)) colourNamesCard

/-- THE TIED CARD OF 'mudlarklaw02.ColourReads'. -/
def colourReadsCard : Claim7 := { stood := { row := colourReadsRow, standIns := [], harness := (true, "a74de0b191db9d040f91ea51797d13dcbda95bf372f8193cede03f64ef9597ce"), looks := false }, kinds := [], alts := [], laidByText := true, laidKinds := [.data], laidTests := true, laidLooks := .later }
def ColourReadsCardSaid : Prop := Claim7.holds Tryd.pinned (.plain (OpenSpec.ofChange colourReadsSpec)) colourReadsCard

/-- THE SECOND FORM's CARD OF 'mudlarklaw02.ColourNames'. -/
def colourNamesUptoCard : Claim7 := { stood := { row := colourNamesUptoRow, standIns := [], harness := (true, "a74de0b191db9d040f91ea51797d13dcbda95bf372f8193cede03f64ef9597ce"), looks := false }, kinds := [], alts := [], laidByText := true, laidKinds := [.data], laidTests := true, laidLooks := .later }
def ColourNamesUptoCardSaid : Prop := Claim7.holds Tryd.pinned (.plain (OpenSpec.upto colourNamesSpec)) colourNamesUptoCard

/-- THE SECOND FORM's CARD OF 'mudlarklaw02.ColourReads'. -/
def colourReadsUptoCard : Claim7 := { stood := { row := colourReadsUptoRow, standIns := [], harness := (true, "a74de0b191db9d040f91ea51797d13dcbda95bf372f8193cede03f64ef9597ce"), looks := false }, kinds := [], alts := [], laidByText := true, laidKinds := [.data], laidTests := true, laidLooks := .later }
def ColourReadsUptoCardSaid : Prop := Claim7.holds Tryd.pinned (.plain (OpenSpec.upto colourReadsSpec)) colourReadsUptoCard
end Rows
end Go.Proofs.YtnbigldfklehgaaDoor

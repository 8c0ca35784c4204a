/-
  DERIVED. GIVEN WITH THE SEED: THE CARDS: each row of YtnbigldfklehgabDoorRows.lean that lists a variable, with what it lists TIED to the program's text (the seventh form; the later family's looks); each row that meets fmt, with fmt's text TOLD by the authors' own Lean function (tested against real Go, not proved from fmt's source: count such statements apart). THE CARD IS WHAT COUNTS. Prove the row's statement (the work); the ties are given (YtnbigldfklehgabDoorTie.lean); close each card by the builder's one call (the guide's Derived/Test/ToyasCard.lean, 'card_holds'). Laid BY PROGRAM, IN A SANDBOX (cutbox-door.mjs). By AI agents, Wed Nov 11 2026. No macro, syntax, notation, axiom, sorry.
-/
import Derived.Test.YtnbigldfklehgabDoorRows
import GoSem.ClaimSeven
namespace Go.Proofs.YtnbigldfklehgabDoor
namespace Rows

/-- THE TIED CARD OF 'mudlarklaw02.ColourLetters'. -/
def colourLettersCard : Claim7 := { stood := { row := colourLettersRow, standIns := [], harness := (true, "f311395547a890d5f21a3003a5f77117b623b35e743f829c42a3a7c8482301ea"), looks := false }, kinds := [], alts := [], laidByText := true, laidKinds := [.data], laidTests := true, laidLooks := .later }
def ColourLettersCardSaid : Prop := Claim7.holds Tryd.pinned (.plain (OpenSpec.ofChange colourLettersSpec)) colourLettersCard

/-- THE SECOND FORM's CARD OF 'mudlarklaw02.ColourLetters'. -/
def colourLettersUptoCard : Claim7 := { stood := { row := colourLettersUptoRow, standIns := [], harness := (true, "f311395547a890d5f21a3003a5f77117b623b35e743f829c42a3a7c8482301ea"), looks := false }, kinds := [], alts := [], laidByText := true, laidKinds := [.data], laidTests := true, laidLooks := .later }
def ColourLettersUptoCardSaid : Prop := Claim7.holds Tryd.pinned (.plain (OpenSpec.upto colourLettersSpec)) colourLettersUptoCard
end Rows
end Go.Proofs.YtnbigldfklehgabDoor

/-
  DERIVED. GIVEN WITH THE SEED: THE CARDS: each row of YtipoklnoknkfhaaDoorRows.lean that lists a variable, with what it lists TIED to the program's text (the seventh form; the later family's looks); each row that meets fmt, with fmt's text TOLD by the authors' own Lean function (tested against real Go, not proved from fmt's source: count such statements apart). THE CARD IS WHAT COUNTS. Prove the row's statement (the work); the ties are given (YtipoklnoknkfhaaDoorTie.lean); close each card by the builder's one call (the guide's Derived/Test/ToyasCard.lean, 'card_holds'). Laid BY PROGRAM, IN A SANDBOX (cutbox-door.mjs). By AI agents, Wed Nov 11 2026. No macro, syntax, notation, axiom, sorry.
-/
import Derived.Test.YtipoklnoknkfhaaDoorRows
import GoSem.ClaimSeven
namespace Go.Proofs.YtipoklnoknkfhaaDoor
namespace Rows

/-- THE TIED CARD OF 'mudlarklaw29.ShowWrites'. -/
def showWritesCard : Claim7 := { stood := { row := showWritesRow, standIns := [], harness := (true, "6fd265afe469ded342d45be0ed3fc5854c8b26c3d79fcc3686974f583d26c714"), looks := true }, kinds := [], alts := [], laidByText := true, laidKinds := [.data, .data, .data], laidTests := true, laidLooks := .later }
def ShowWritesCardSaid : Prop := Claim7.holds Tryd.pinned (.plain (OpenSpec.ofChange showWritesSpec)) showWritesCard

/-- THE TIED CARD OF 'mudlarklaw29.ShowIdeals'. -/
def showIdealsCard : Claim7 := { stood := { row := showIdealsRow, standIns := [], harness := (true, "6fd265afe469ded342d45be0ed3fc5854c8b26c3d79fcc3686974f583d26c714"), looks := true }, kinds := [], alts := [], laidByText := true, laidKinds := [.data, .data, .data], laidTests := true, laidLooks := .later }
def ShowIdealsCardSaid : Prop := Claim7.holds Tryd.pinned (.plain (OpenSpec.ofChange showIdealsSpec)) showIdealsCard

/-- THE TIED CARD OF 'mudlarklaw30.BuildLong'. -/
def buildLongCard : Claim7 := { stood := { row := buildLongRow, standIns := [], harness := (true, "6fd265afe469ded342d45be0ed3fc5854c8b26c3d79fcc3686974f583d26c714"), looks := true }, kinds := [], alts := [], laidByText := true, laidKinds := [.data, .data, .data, .sentinel, .sentinel], laidTests := true, laidLooks := .later }
def BuildLongCardSaid : Prop := Claim7.holds Tryd.pinned (.plain (OpenSpec.ofChange buildLongSpec)) buildLongCard

/-- THE TIED CARD OF 'mudlarklaw30.BuildOps'. -/
def buildOpsCard : Claim7 := { stood := { row := buildOpsRow, standIns := [], harness := (true, "6fd265afe469ded342d45be0ed3fc5854c8b26c3d79fcc3686974f583d26c714"), looks := true }, kinds := [], alts := [], laidByText := true, laidKinds := [.data, .data, .data, .sentinel, .sentinel], laidTests := true, laidLooks := .later }
def BuildOpsCardSaid : Prop := Claim7.holds Tryd.pinned (.plain (OpenSpec.ofChange buildOpsSpec)) buildOpsCard

/-- THE TIED CARD OF 'mudlarklaw21.ScriptRounds'. -/
def scriptRoundsCard : Claim7 := { stood := { row := scriptRoundsRow, standIns := [], harness := (true, "6fd265afe469ded342d45be0ed3fc5854c8b26c3d79fcc3686974f583d26c714"), looks := true }, kinds := [], alts := [], laidByText := true, laidKinds := [.data, .data, .data, .data, .sentinel, .sentinel, .pinned], laidTests := true, laidLooks := .later }
def ScriptRoundsCardSaid : Prop := Claim7.holds Tryd.pinned (.plain (OpenSpec.ofChange scriptRoundsSpec)) scriptRoundsCard

/-- THE TIED CARD OF 'mudlarklaw21.ScriptLines'. -/
def scriptLinesCard : Claim7 := { stood := { row := scriptLinesRow, standIns := [], harness := (true, "6fd265afe469ded342d45be0ed3fc5854c8b26c3d79fcc3686974f583d26c714"), looks := true }, kinds := [], alts := [], laidByText := true, laidKinds := [.data, .data, .data, .data, .sentinel, .sentinel, .pinned], laidTests := true, laidLooks := .later }
def ScriptLinesCardSaid : Prop := Claim7.holds Tryd.pinned (.plain (OpenSpec.ofChange scriptLinesSpec)) scriptLinesCard

/-- THE SECOND FORM's CARD OF 'mudlarklaw29.ShowWrites'. -/
def showWritesUptoCard : Claim7 := { stood := { row := showWritesUptoRow, standIns := [], harness := (true, "6fd265afe469ded342d45be0ed3fc5854c8b26c3d79fcc3686974f583d26c714"), looks := true }, kinds := [], alts := [], laidByText := true, laidKinds := [.data, .data, .data], laidTests := true, laidLooks := .later }
def ShowWritesUptoCardSaid : Prop := Claim7.holds Tryd.pinned (.plain (OpenSpec.upto showWritesSpec)) showWritesUptoCard

/-- THE SECOND FORM's CARD OF 'mudlarklaw29.ShowIdeals'. -/
def showIdealsUptoCard : Claim7 := { stood := { row := showIdealsUptoRow, standIns := [], harness := (true, "6fd265afe469ded342d45be0ed3fc5854c8b26c3d79fcc3686974f583d26c714"), looks := true }, kinds := [], alts := [], laidByText := true, laidKinds := [.data, .data, .data], laidTests := true, laidLooks := .later }
def ShowIdealsUptoCardSaid : Prop := Claim7.holds Tryd.pinned (.plain (OpenSpec.upto showIdealsSpec)) showIdealsUptoCard

/-- THE SECOND FORM's CARD OF 'mudlarklaw30.BuildLong'. -/
def buildLongUptoCard : Claim7 := { stood := { row := buildLongUptoRow, standIns := [], harness := (true, "6fd265afe469ded342d45be0ed3fc5854c8b26c3d79fcc3686974f583d26c714"), looks := true }, kinds := [], alts := [], laidByText := true, laidKinds := [.data, .data, .data, .sentinel, .sentinel], laidTests := true, laidLooks := .later }
def BuildLongUptoCardSaid : Prop := Claim7.holds Tryd.pinned (.plain (OpenSpec.upto buildLongSpec)) buildLongUptoCard

/-- THE SECOND FORM's CARD OF 'mudlarklaw30.BuildOps'. -/
def buildOpsUptoCard : Claim7 := { stood := { row := buildOpsUptoRow, standIns := [], harness := (true, "6fd265afe469ded342d45be0ed3fc5854c8b26c3d79fcc3686974f583d26c714"), looks := true }, kinds := [], alts := [], laidByText := true, laidKinds := [.data, .data, .data, .sentinel, .sentinel], laidTests := true, laidLooks := .later }
def BuildOpsUptoCardSaid : Prop := Claim7.holds Tryd.pinned (.plain (OpenSpec.upto buildOpsSpec)) buildOpsUptoCard

/-- THE SECOND FORM's CARD OF 'mudlarklaw21.ScriptRounds'. -/
def scriptRoundsUptoCard : Claim7 := { stood := { row := scriptRoundsUptoRow, standIns := [], harness := (true, "6fd265afe469ded342d45be0ed3fc5854c8b26c3d79fcc3686974f583d26c714"), looks := true }, kinds := [], alts := [], laidByText := true, laidKinds := [.data, .data, .data, .data, .sentinel, .sentinel, .pinned], laidTests := true, laidLooks := .later }
def ScriptRoundsUptoCardSaid : Prop := Claim7.holds Tryd.pinned (.plain (OpenSpec.upto scriptRoundsSpec)) scriptRoundsUptoCard

/-- THE SECOND FORM's CARD OF 'mudlarklaw21.ScriptLines'. -/
def scriptLinesUptoCard : Claim7 := { stood := { row := scriptLinesUptoRow, standIns := [], harness := (true, "6fd265afe469ded342d45be0ed3fc5854c8b26c3d79fcc3686974f583d26c714"), looks := true }, kinds := [], alts := [], laidByText := true, laidKinds := [.data, .data, .data, .data, .sentinel, .sentinel, .pinned], laidTests := true, laidLooks := .later }
def ScriptLinesUptoCardSaid : Prop := Claim7.holds Tryd.pinned (.plain (OpenSpec.upto scriptLinesSpec)) scriptLinesUptoCard
end Rows
end Go.Proofs.YtipoklnoknkfhaaDoor

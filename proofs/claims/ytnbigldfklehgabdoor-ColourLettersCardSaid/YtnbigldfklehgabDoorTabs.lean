/- A world in which the listed variables hold what the rows say of them. -/
import Derived.Test.YtnbigldfklehgabDoorRows
import Derived.Lib.LaidTab
namespace Go.Proofs.YtnbigldfklehgabDoor
open Go
def setGlob (P : Program) (name : String) (cs : Array Value) (h : Array Obj) : Array Obj := h.modify ((P.globalNamed name).getD 0) fun
  | .cells _ t frozen => .cells cs t frozen
  | o => o
noncomputable def laidWorld (os : Os) : World :=
  { World.holding Tryd.prog os ⟨#[], #[], []⟩ with heap := setGlob Tryd.prog "mudlark/colour.names" #[.string ⟨#[119, 104, 105, 116, 101]⟩, .string ⟨#[103, 114, 101, 121]⟩, .string ⟨#[98, 108, 97, 99, 107]⟩] ((World.holding Tryd.prog os ⟨#[], #[], []⟩).heap) }
end Go.Proofs.YtnbigldfklehgabDoor

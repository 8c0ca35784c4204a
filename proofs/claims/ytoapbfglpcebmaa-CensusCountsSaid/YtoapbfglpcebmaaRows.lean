/-
  No cell of these rows narrows 'for every input' (looked for: loops, veiled, ifaces, maps, wideKeys, modest, calm, conditions, laid).
  DERIVED. THE GIVEN ROWS OF THIS SEAT. 6 by the template 'for every input the law returns true; each argument reads behind the call as it read before'; 0 by the template 'total and deterministic' (their statements: YtoapbfglpcebmaaTotals.lean).
  GIVEN WITH THE SEED: the statements are not yours to turn. If you find one false, say at which input.
  Laid BY PROGRAM, IN A SANDBOX (cutbox-rows.mjs): the forced cells as the released guide's own fill.sh prints them over the translation 297b18d7e417970e… (all of the seat's roots in one cut). By AI agents, Wed Nov 11 2026. No macro, syntax, notation, axiom, sorry.
-/
import Derived.Test.YtoapbfglpcebmaaChecked
import GoSem.Claim
import GoSem.ClaimJoined
import GoSem.ClaimMapViews
import Derived.JoinedTies
import Derived.KernelRfl
namespace Go.Proofs.Ytoapbfglpcebmaa
/- THE CELL 'sum', in the pinned program and in every row, IS THE sha256 OF THE DUMP (.gsa) THAT YtoapbfglpcebmaaProg.lean LOADS. Nothing in Lean hashes anything: it is a label: what it is worth is what the hold of that sum in a sandbox is worth. -/
noncomputable def Try.pinned : Pinned := { name := "ytoapbfglpcebmaa", sum := "297b18d7e417970e1314201ed64b379eabd1e2e82e997d88c668197e526a30bf", checked := Try.checked }
namespace Rows
def none {H : Type} : Left H := { results := [], args := [] }

/-- 'mudlarklaw04.PlaceRoots': WHATEVER THE INPUT: true; the input reads as it did. -/
def placeRootsSpec : ChangeSpec := { name := "placeRoots", fn := fun _ => fun
  | [d] => { results := [.lit (.bool true)], args := [d] }
  | _ => none }
def placeRootsRow : OpenClaim := { program := "ytoapbfglpcebmaa", sum := "297b18d7e417970e1314201ed64b379eabd1e2e82e997d88c668197e526a30bf", func := "mudlark/mudlarklaw04.PlaceRoots", spec := "placeRoots", apart := false }
def PlaceRootsSaid : Prop := placeRootsRow.holds Try.pinned (OpenSpec.ofChange placeRootsSpec)

/-- ITS FALSE NEIGHBOUR: 'it returns false'. Refute it at one input. -/
def placeRootsWrong : ChangeSpec := { name := "placeRoots", fn := fun _ => fun
  | [d] => { results := [.lit (.bool false)], args := [d] }
  | _ => none }
def PlaceRootsWrongFalsely : Prop := placeRootsRow.holds Try.pinned (OpenSpec.ofChange placeRootsWrong)

/-- 'mudlarklaw32.CensusCounts': WHATEVER THE INPUT: true; the input reads as it did. -/
def censusCountsSpec : ChangeSpec := { name := "censusCounts", fn := fun _ => fun
  | [d1, d2] => { results := [.lit (.bool true)], args := [d1, d2] }
  | _ => none }
def censusCountsRow : OpenClaim := { program := "ytoapbfglpcebmaa", sum := "297b18d7e417970e1314201ed64b379eabd1e2e82e997d88c668197e526a30bf", func := "mudlark/mudlarklaw32.CensusCounts", spec := "censusCounts", apart := false }
def CensusCountsSaid : Prop := censusCountsRow.holds Try.pinned (OpenSpec.ofChange censusCountsSpec)

/-- ITS FALSE NEIGHBOUR: 'it returns false'. Refute it at one input. -/
def censusCountsWrong : ChangeSpec := { name := "censusCounts", fn := fun _ => fun
  | [d1, d2] => { results := [.lit (.bool false)], args := [d1, d2] }
  | _ => none }
def CensusCountsWrongFalsely : Prop := censusCountsRow.holds Try.pinned (OpenSpec.ofChange censusCountsWrong)

/-- 'mudlarklaw09.IdealPairs': WHATEVER THE INPUT: true; the input reads as it did. -/
def idealPairsSpec : ChangeSpec := { name := "idealPairs", fn := fun _ => fun
  | [d1, d2, d3] => { results := [.lit (.bool true)], args := [d1, d2, d3] }
  | _ => none }
def idealPairsRow : OpenClaim := { program := "ytoapbfglpcebmaa", sum := "297b18d7e417970e1314201ed64b379eabd1e2e82e997d88c668197e526a30bf", func := "mudlark/mudlarklaw09.IdealPairs", spec := "idealPairs", unfollowed := true, recurses := true, apart := false }
def IdealPairsSaid : Prop := idealPairsRow.holds Try.pinned (OpenSpec.ofChange idealPairsSpec)

/-- ITS FALSE NEIGHBOUR: 'it returns false'. Refute it at one input. -/
def idealPairsWrong : ChangeSpec := { name := "idealPairs", fn := fun _ => fun
  | [d1, d2, d3] => { results := [.lit (.bool false)], args := [d1, d2, d3] }
  | _ => none }
def IdealPairsWrongFalsely : Prop := idealPairsRow.holds Try.pinned (OpenSpec.ofChange idealPairsWrong)

/-- 'mudlarklaw09.IdealPlays': WHATEVER THE INPUT: true; the input reads as it did. -/
def idealPlaysSpec : ChangeSpec := { name := "idealPlays", fn := fun _ => fun
  | [d1, d2, d3, d4] => { results := [.lit (.bool true)], args := [d1, d2, d3, d4] }
  | _ => none }
def idealPlaysRow : OpenClaim := { program := "ytoapbfglpcebmaa", sum := "297b18d7e417970e1314201ed64b379eabd1e2e82e997d88c668197e526a30bf", func := "mudlark/mudlarklaw09.IdealPlays", spec := "idealPlays", apart := false }
def IdealPlaysSaid : Prop := idealPlaysRow.holds Try.pinned (OpenSpec.ofChange idealPlaysSpec)

/-- ITS FALSE NEIGHBOUR: 'it returns false'. Refute it at one input. -/
def idealPlaysWrong : ChangeSpec := { name := "idealPlays", fn := fun _ => fun
  | [d1, d2, d3, d4] => { results := [.lit (.bool false)], args := [d1, d2, d3, d4] }
  | _ => none }
def IdealPlaysWrongFalsely : Prop := idealPlaysRow.holds Try.pinned (OpenSpec.ofChange idealPlaysWrong)

/-- 'mudlarklaw09.IdealFull': WHATEVER THE INPUT: true; the input reads as it did. -/
def idealFullSpec : ChangeSpec := { name := "idealFull", fn := fun _ => fun
  | [d1, d2, d3, d4] => { results := [.lit (.bool true)], args := [d1, d2, d3, d4] }
  | _ => none }
def idealFullRow : OpenClaim := { program := "ytoapbfglpcebmaa", sum := "297b18d7e417970e1314201ed64b379eabd1e2e82e997d88c668197e526a30bf", func := "mudlark/mudlarklaw09.IdealFull", spec := "idealFull", apart := false }
def IdealFullSaid : Prop := idealFullRow.holds Try.pinned (OpenSpec.ofChange idealFullSpec)

/-- ITS FALSE NEIGHBOUR: 'it returns false'. Refute it at one input. -/
def idealFullWrong : ChangeSpec := { name := "idealFull", fn := fun _ => fun
  | [d1, d2, d3, d4] => { results := [.lit (.bool false)], args := [d1, d2, d3, d4] }
  | _ => none }
def IdealFullWrongFalsely : Prop := idealFullRow.holds Try.pinned (OpenSpec.ofChange idealFullWrong)

/-- 'mudlarklaw09.IdealApart': WHATEVER THE INPUT: true; the input reads as it did. -/
def idealApartSpec : ChangeSpec := { name := "idealApart", fn := fun _ => fun
  | [d1, d2, d3, d4] => { results := [.lit (.bool true)], args := [d1, d2, d3, d4] }
  | _ => none }
def idealApartRow : OpenClaim := { program := "ytoapbfglpcebmaa", sum := "297b18d7e417970e1314201ed64b379eabd1e2e82e997d88c668197e526a30bf", func := "mudlark/mudlarklaw09.IdealApart", spec := "idealApart", apart := false }
def IdealApartSaid : Prop := idealApartRow.holds Try.pinned (OpenSpec.ofChange idealApartSpec)

/-- ITS FALSE NEIGHBOUR: 'it returns false'. Refute it at one input. -/
def idealApartWrong : ChangeSpec := { name := "idealApart", fn := fun _ => fun
  | [d1, d2, d3, d4] => { results := [.lit (.bool false)], args := [d1, d2, d3, d4] }
  | _ => none }
def IdealApartWrongFalsely : Prop := idealApartRow.holds Try.pinned (OpenSpec.ofChange idealApartWrong)

/- THE SECOND FORM. 'bulk': how many values and letters a reading holds, each counted each time it is reached (what is shared counts as often as it is met; a slice's spare places count too). A statement '..UptoSaid' is the law's where the arguments, and the package variables that the reading takes, are together of bulk at most 1048576: NARROWER than '..Said'. Prove '..Said' where nothing that the law and all that it calls make is longer than what came in: it says more and counts as full. Else prove '..UptoSaid'. A law counts once. -/
mutual
def uptoBulk {H : Type} : DataW H → Nat
  | .lit (.string bytes) => bytes.length + 1
  | .lit _ => 1
  | .nil => 1
  | .ptr d => uptoBulk d + 1
  | .slice elems spare => uptoBulkAll elems + uptoBulkAll spare + 1
  | .agg parts => uptoBulkAll parts + 1
  | .iface _ d => uptoBulk d + 1
  | .map entries => uptoBulkEntries entries + 1
  | .held _ => 1
def uptoBulkAll {H : Type} : List (DataW H) → Nat
  | [] => 0
  | d :: r => uptoBulk d + uptoBulkAll r
def uptoBulkEntries {H : Type} : List (Lit × DataW H) → Nat
  | [] => 0
  | x :: r => uptoBulkEntry x + uptoBulkEntries r
def uptoBulkEntry {H : Type} : Lit × DataW H → Nat
  | (.string bytes, d) => bytes.length + uptoBulk d + 1
  | (_, d) => uptoBulk d + 1
 end
def uptoSmall : (H : Type) → List (DataW H) → Bool := fun _ ds => decide (uptoBulkAll ds ≤ 1048576)
def OpenSpec.upto (s : _root_.Go.ChangeSpec) : _root_.Go.OpenSpec := { _root_.Go.OpenSpec.ofChange s with cond := some uptoSmall }

/-- 'mudlarklaw04.PlaceRoots', WHERE WHAT IT READS IS OF BULK AT MOST 1048576: true; the input reads as it did. -/
def placeRootsUptoRow : OpenClaim := { program := "ytoapbfglpcebmaa", sum := "297b18d7e417970e1314201ed64b379eabd1e2e82e997d88c668197e526a30bf", func := "mudlark/mudlarklaw04.PlaceRoots", spec := "placeRoots", apart := false, narrowed := true }
def PlaceRootsUptoSaid : Prop := placeRootsUptoRow.holds Try.pinned (OpenSpec.upto placeRootsSpec)

/-- 'mudlarklaw32.CensusCounts', WHERE WHAT IT READS IS OF BULK AT MOST 1048576: true; the input reads as it did. -/
def censusCountsUptoRow : OpenClaim := { program := "ytoapbfglpcebmaa", sum := "297b18d7e417970e1314201ed64b379eabd1e2e82e997d88c668197e526a30bf", func := "mudlark/mudlarklaw32.CensusCounts", spec := "censusCounts", apart := false, narrowed := true }
def CensusCountsUptoSaid : Prop := censusCountsUptoRow.holds Try.pinned (OpenSpec.upto censusCountsSpec)

/-- 'mudlarklaw09.IdealPairs', WHERE WHAT IT READS IS OF BULK AT MOST 1048576: true; the input reads as it did. -/
def idealPairsUptoRow : OpenClaim := { program := "ytoapbfglpcebmaa", sum := "297b18d7e417970e1314201ed64b379eabd1e2e82e997d88c668197e526a30bf", func := "mudlark/mudlarklaw09.IdealPairs", spec := "idealPairs", unfollowed := true, recurses := true, apart := false, narrowed := true }
def IdealPairsUptoSaid : Prop := idealPairsUptoRow.holds Try.pinned (OpenSpec.upto idealPairsSpec)

/-- 'mudlarklaw09.IdealPlays', WHERE WHAT IT READS IS OF BULK AT MOST 1048576: true; the input reads as it did. -/
def idealPlaysUptoRow : OpenClaim := { program := "ytoapbfglpcebmaa", sum := "297b18d7e417970e1314201ed64b379eabd1e2e82e997d88c668197e526a30bf", func := "mudlark/mudlarklaw09.IdealPlays", spec := "idealPlays", apart := false, narrowed := true }
def IdealPlaysUptoSaid : Prop := idealPlaysUptoRow.holds Try.pinned (OpenSpec.upto idealPlaysSpec)

/-- 'mudlarklaw09.IdealFull', WHERE WHAT IT READS IS OF BULK AT MOST 1048576: true; the input reads as it did. -/
def idealFullUptoRow : OpenClaim := { program := "ytoapbfglpcebmaa", sum := "297b18d7e417970e1314201ed64b379eabd1e2e82e997d88c668197e526a30bf", func := "mudlark/mudlarklaw09.IdealFull", spec := "idealFull", apart := false, narrowed := true }
def IdealFullUptoSaid : Prop := idealFullUptoRow.holds Try.pinned (OpenSpec.upto idealFullSpec)

/-- 'mudlarklaw09.IdealApart', WHERE WHAT IT READS IS OF BULK AT MOST 1048576: true; the input reads as it did. -/
def idealApartUptoRow : OpenClaim := { program := "ytoapbfglpcebmaa", sum := "297b18d7e417970e1314201ed64b379eabd1e2e82e997d88c668197e526a30bf", func := "mudlark/mudlarklaw09.IdealApart", spec := "idealApart", apart := false, narrowed := true }
def IdealApartUptoSaid : Prop := idealApartUptoRow.holds Try.pinned (OpenSpec.upto idealApartSpec)

end Rows
end Go.Proofs.Ytoapbfglpcebmaa

/-
  NARROWER THAN 'FOR EVERY INPUT', by the rows' own cells (each row's printed sentence says how): WordKinds: laid · WordTotal: laid · WordCells: laid · PlaceApart: laid · CensusRows: laid · PlaceNames: laid · OpPlain: laid · OpChecks: laid · ShowWrites: laid · AccessApart: laid.
  DERIVED. THE GIVEN ROWS OF THIS SEAT. 10 by the template 'for every input the law returns true; each argument reads behind the call as it read before'; 0 by the template 'total and deterministic' (their statements: YtnmmlihgbiebhaaDoorTotals.lean).
  GIVEN WITH THE SEED: the statements are not yours to turn. If you find one false, say at which input.
  Laid BY PROGRAM, IN A SANDBOX (cutbox-rows.mjs): the forced cells as the released guide's own fill.sh prints them over the translation 333b839ef58dccd4… (all of the seat's roots in one cut). By AI agents, Wed Nov 11 2026. No macro, syntax, notation, axiom, sorry.
-/
import Derived.Test.YtnmmlihgbiebhaaDoorChecked
import GoSem.Claim
import GoSem.ClaimJoined
import GoSem.ClaimMapViews
import Derived.JoinedTies
import Derived.KernelRfl
namespace Go.Proofs.YtnmmlihgbiebhaaDoor
/- THE CELL 'sum', in the pinned program and in every row, IS THE sha256 OF THE DUMP (.gsa) THAT YtnmmlihgbiebhaaDoorProg.lean LOADS. Nothing in Lean hashes anything: it is a label: what it is worth is what the hold of that sum in a sandbox is worth. -/
noncomputable def Tryd.pinned : Pinned := { name := "ytnmmlihgbiebhaadoor", sum := "333b839ef58dccd4968b179ecec0286cae639d1ecb461d2817a0ba2d8a0cdc2c", checked := Tryd.checked }
namespace Rows
def none {H : Type} : Left H := { results := [], args := [] }

/- WHAT THE LISTED PACKAGE-LEVEL VARIABLES READ AS WHEN THE CALL BEGINS. Each datum BY PROGRAM (the guide's laid-datum.mjs) off the statement by which the dump's own 'gosem.cut.vars' lays the variable. In a bare row this is a premise. The card (YtnmmlihgbiebhaaDoorCards.lean) ties it to the program's text. -/
def laid_math_bits_deBruijn32tab {H : Type} : DataW H := .agg [.lit (.int .u8 0), .lit (.int .u8 1), .lit (.int .u8 28), .lit (.int .u8 2), .lit (.int .u8 29), .lit (.int .u8 14), .lit (.int .u8 24), .lit (.int .u8 3), .lit (.int .u8 30), .lit (.int .u8 22), .lit (.int .u8 20), .lit (.int .u8 15), .lit (.int .u8 25), .lit (.int .u8 17), .lit (.int .u8 4), .lit (.int .u8 8), .lit (.int .u8 31), .lit (.int .u8 27), .lit (.int .u8 13), .lit (.int .u8 23), .lit (.int .u8 21), .lit (.int .u8 19), .lit (.int .u8 16), .lit (.int .u8 7), .lit (.int .u8 26), .lit (.int .u8 12), .lit (.int .u8 18), .lit (.int .u8 6), .lit (.int .u8 11), .lit (.int .u8 5), .lit (.int .u8 10), .lit (.int .u8 9)]
def laid_math_bits_deBruijn64tab {H : Type} : DataW H := .agg [.lit (.int .u8 0), .lit (.int .u8 1), .lit (.int .u8 56), .lit (.int .u8 2), .lit (.int .u8 57), .lit (.int .u8 49), .lit (.int .u8 28), .lit (.int .u8 3), .lit (.int .u8 61), .lit (.int .u8 58), .lit (.int .u8 42), .lit (.int .u8 50), .lit (.int .u8 38), .lit (.int .u8 29), .lit (.int .u8 17), .lit (.int .u8 4), .lit (.int .u8 62), .lit (.int .u8 47), .lit (.int .u8 59), .lit (.int .u8 36), .lit (.int .u8 45), .lit (.int .u8 43), .lit (.int .u8 51), .lit (.int .u8 22), .lit (.int .u8 53), .lit (.int .u8 39), .lit (.int .u8 33), .lit (.int .u8 30), .lit (.int .u8 24), .lit (.int .u8 18), .lit (.int .u8 12), .lit (.int .u8 5), .lit (.int .u8 63), .lit (.int .u8 55), .lit (.int .u8 48), .lit (.int .u8 27), .lit (.int .u8 60), .lit (.int .u8 41), .lit (.int .u8 37), .lit (.int .u8 16), .lit (.int .u8 46), .lit (.int .u8 35), .lit (.int .u8 44), .lit (.int .u8 21), .lit (.int .u8 52), .lit (.int .u8 32), .lit (.int .u8 23), .lit (.int .u8 11), .lit (.int .u8 54), .lit (.int .u8 26), .lit (.int .u8 40), .lit (.int .u8 15), .lit (.int .u8 34), .lit (.int .u8 20), .lit (.int .u8 31), .lit (.int .u8 10), .lit (.int .u8 25), .lit (.int .u8 14), .lit (.int .u8 19), .lit (.int .u8 9), .lit (.int .u8 13), .lit (.int .u8 8), .lit (.int .u8 7), .lit (.int .u8 6)]
def laid_internal_strconv_uint64pow10 {H : Type} : DataW H := .agg [.lit (.int .u64 1), .lit (.int .u64 10), .lit (.int .u64 100), .lit (.int .u64 1000), .lit (.int .u64 10000), .lit (.int .u64 100000), .lit (.int .u64 1000000), .lit (.int .u64 10000000), .lit (.int .u64 100000000), .lit (.int .u64 1000000000), .lit (.int .u64 10000000000), .lit (.int .u64 100000000000), .lit (.int .u64 1000000000000), .lit (.int .u64 10000000000000), .lit (.int .u64 100000000000000), .lit (.int .u64 1000000000000000), .lit (.int .u64 10000000000000000), .lit (.int .u64 100000000000000000), .lit (.int .u64 1000000000000000000), .lit (.int .u64 10000000000000000000)]

/-- 'mudlarklaw01.WordKinds': WHATEVER THE INPUT: true; the input reads as it did. -/
def wordKindsSpec : ChangeSpec := { name := "wordKinds", fn := fun _ => fun
  | [d1, d2] => { results := [.lit (.bool true)], args := [d1, d2] }
  | _ => none }
def wordKindsRow : OpenClaim := { program := "ytnmmlihgbiebhaadoor", sum := "333b839ef58dccd4968b179ecec0286cae639d1ecb461d2817a0ba2d8a0cdc2c", func := "mudlark/mudlarklaw01.WordKinds", spec := "wordKinds", named := ["internal/strconv.uint64pow10", "math/bits.deBruijn32tab", "math/bits.deBruijn64tab"], apart := false, laid := [("math/bits.deBruijn32tab", laid_math_bits_deBruijn32tab), ("math/bits.deBruijn64tab", laid_math_bits_deBruijn64tab), ("internal/strconv.uint64pow10", laid_internal_strconv_uint64pow10)] }
def WordKindsSaid : Prop := wordKindsRow.holds Tryd.pinned (OpenSpec.ofChange wordKindsSpec)

/-- ITS FALSE NEIGHBOUR: 'it returns false'. Refute it at one input. -/
def wordKindsWrong : ChangeSpec := { name := "wordKinds", fn := fun _ => fun
  | [d1, d2] => { results := [.lit (.bool false)], args := [d1, d2] }
  | _ => none }
def WordKindsWrongFalsely : Prop := wordKindsRow.holds Tryd.pinned (OpenSpec.ofChange wordKindsWrong)

/-- 'mudlarklaw01.WordTotal': WHATEVER THE INPUT: true; the input reads as it did. -/
def wordTotalSpec : ChangeSpec := { name := "wordTotal", fn := fun _ => fun
  | [d] => { results := [.lit (.bool true)], args := [d] }
  | _ => none }
def wordTotalRow : OpenClaim := { program := "ytnmmlihgbiebhaadoor", sum := "333b839ef58dccd4968b179ecec0286cae639d1ecb461d2817a0ba2d8a0cdc2c", func := "mudlark/mudlarklaw01.WordTotal", spec := "wordTotal", named := ["internal/strconv.uint64pow10", "math/bits.deBruijn32tab", "math/bits.deBruijn64tab"], apart := false, laid := [("math/bits.deBruijn32tab", laid_math_bits_deBruijn32tab), ("math/bits.deBruijn64tab", laid_math_bits_deBruijn64tab), ("internal/strconv.uint64pow10", laid_internal_strconv_uint64pow10)] }
def WordTotalSaid : Prop := wordTotalRow.holds Tryd.pinned (OpenSpec.ofChange wordTotalSpec)

/-- ITS FALSE NEIGHBOUR: 'it returns false'. Refute it at one input. -/
def wordTotalWrong : ChangeSpec := { name := "wordTotal", fn := fun _ => fun
  | [d] => { results := [.lit (.bool false)], args := [d] }
  | _ => none }
def WordTotalWrongFalsely : Prop := wordTotalRow.holds Tryd.pinned (OpenSpec.ofChange wordTotalWrong)

/-- 'mudlarklaw01.WordCells': WHATEVER THE INPUT: true; the input reads as it did. -/
def wordCellsSpec : ChangeSpec := { name := "wordCells", fn := fun _ => fun
  | [d] => { results := [.lit (.bool true)], args := [d] }
  | _ => none }
def wordCellsRow : OpenClaim := { program := "ytnmmlihgbiebhaadoor", sum := "333b839ef58dccd4968b179ecec0286cae639d1ecb461d2817a0ba2d8a0cdc2c", func := "mudlark/mudlarklaw01.WordCells", spec := "wordCells", unfollowed := true, recurses := true, named := ["internal/strconv.uint64pow10", "math/bits.deBruijn32tab", "math/bits.deBruijn64tab"], apart := false, laid := [("math/bits.deBruijn32tab", laid_math_bits_deBruijn32tab), ("math/bits.deBruijn64tab", laid_math_bits_deBruijn64tab), ("internal/strconv.uint64pow10", laid_internal_strconv_uint64pow10)] }
def WordCellsSaid : Prop := wordCellsRow.holds Tryd.pinned (OpenSpec.ofChange wordCellsSpec)

/-- ITS FALSE NEIGHBOUR: 'it returns false'. Refute it at one input. -/
def wordCellsWrong : ChangeSpec := { name := "wordCells", fn := fun _ => fun
  | [d] => { results := [.lit (.bool false)], args := [d] }
  | _ => none }
def WordCellsWrongFalsely : Prop := wordCellsRow.holds Tryd.pinned (OpenSpec.ofChange wordCellsWrong)

/-- 'mudlarklaw04.PlaceApart': WHATEVER THE INPUT: true; the input reads as it did. -/
def placeApartSpec : ChangeSpec := { name := "placeApart", fn := fun _ => fun
  | [d] => { results := [.lit (.bool true)], args := [d] }
  | _ => none }
def placeApartRow : OpenClaim := { program := "ytnmmlihgbiebhaadoor", sum := "333b839ef58dccd4968b179ecec0286cae639d1ecb461d2817a0ba2d8a0cdc2c", func := "mudlark/mudlarklaw04.PlaceApart", spec := "placeApart", unfollowed := true, recurses := true, named := ["internal/strconv.uint64pow10", "math/bits.deBruijn32tab", "math/bits.deBruijn64tab"], apart := false, laid := [("math/bits.deBruijn32tab", laid_math_bits_deBruijn32tab), ("math/bits.deBruijn64tab", laid_math_bits_deBruijn64tab), ("internal/strconv.uint64pow10", laid_internal_strconv_uint64pow10)] }
def PlaceApartSaid : Prop := placeApartRow.holds Tryd.pinned (OpenSpec.ofChange placeApartSpec)

/-- ITS FALSE NEIGHBOUR: 'it returns false'. Refute it at one input. -/
def placeApartWrong : ChangeSpec := { name := "placeApart", fn := fun _ => fun
  | [d] => { results := [.lit (.bool false)], args := [d] }
  | _ => none }
def PlaceApartWrongFalsely : Prop := placeApartRow.holds Tryd.pinned (OpenSpec.ofChange placeApartWrong)

/-- 'mudlarklaw32.CensusRows': WHATEVER THE INPUT: true; the input reads as it did. -/
def censusRowsSpec : ChangeSpec := { name := "censusRows", fn := fun _ => fun
  | [d] => { results := [.lit (.bool true)], args := [d] }
  | _ => none }
def censusRowsRow : OpenClaim := { program := "ytnmmlihgbiebhaadoor", sum := "333b839ef58dccd4968b179ecec0286cae639d1ecb461d2817a0ba2d8a0cdc2c", func := "mudlark/mudlarklaw32.CensusRows", spec := "censusRows", unfollowed := true, recurses := true, named := ["internal/strconv.uint64pow10", "math/bits.deBruijn32tab", "math/bits.deBruijn64tab"], apart := false, laid := [("math/bits.deBruijn32tab", laid_math_bits_deBruijn32tab), ("math/bits.deBruijn64tab", laid_math_bits_deBruijn64tab), ("internal/strconv.uint64pow10", laid_internal_strconv_uint64pow10)] }
def CensusRowsSaid : Prop := censusRowsRow.holds Tryd.pinned (OpenSpec.ofChange censusRowsSpec)

/-- ITS FALSE NEIGHBOUR: 'it returns false'. Refute it at one input. -/
def censusRowsWrong : ChangeSpec := { name := "censusRows", fn := fun _ => fun
  | [d] => { results := [.lit (.bool false)], args := [d] }
  | _ => none }
def CensusRowsWrongFalsely : Prop := censusRowsRow.holds Tryd.pinned (OpenSpec.ofChange censusRowsWrong)

/-- 'mudlarklaw04.PlaceNames': WHATEVER THE INPUT: true; the input reads as it did. -/
def placeNamesSpec : ChangeSpec := { name := "placeNames", fn := fun _ => fun
  | [d1, d2] => { results := [.lit (.bool true)], args := [d1, d2] }
  | _ => none }
def placeNamesRow : OpenClaim := { program := "ytnmmlihgbiebhaadoor", sum := "333b839ef58dccd4968b179ecec0286cae639d1ecb461d2817a0ba2d8a0cdc2c", func := "mudlark/mudlarklaw04.PlaceNames", spec := "placeNames", named := ["internal/strconv.uint64pow10", "math/bits.deBruijn32tab", "math/bits.deBruijn64tab"], apart := false, laid := [("math/bits.deBruijn32tab", laid_math_bits_deBruijn32tab), ("math/bits.deBruijn64tab", laid_math_bits_deBruijn64tab), ("internal/strconv.uint64pow10", laid_internal_strconv_uint64pow10)] }
def PlaceNamesSaid : Prop := placeNamesRow.holds Tryd.pinned (OpenSpec.ofChange placeNamesSpec)

/-- ITS FALSE NEIGHBOUR: 'it returns false'. Refute it at one input. -/
def placeNamesWrong : ChangeSpec := { name := "placeNames", fn := fun _ => fun
  | [d1, d2] => { results := [.lit (.bool false)], args := [d1, d2] }
  | _ => none }
def PlaceNamesWrongFalsely : Prop := placeNamesRow.holds Tryd.pinned (OpenSpec.ofChange placeNamesWrong)

/-- 'mudlarklaw08.OpPlain': WHATEVER THE INPUT: true; the input reads as it did. -/
def opPlainSpec : ChangeSpec := { name := "opPlain", fn := fun _ => fun
  | [d1, d2, d3] => { results := [.lit (.bool true)], args := [d1, d2, d3] }
  | _ => none }
def opPlainRow : OpenClaim := { program := "ytnmmlihgbiebhaadoor", sum := "333b839ef58dccd4968b179ecec0286cae639d1ecb461d2817a0ba2d8a0cdc2c", func := "mudlark/mudlarklaw08.OpPlain", spec := "opPlain", inPlace := ["internal/abi.NoEscape", "internal/bytealg.MakeNoZero"], unfollowed := true, recurses := true, named := ["internal/strconv.uint64pow10", "math/bits.deBruijn32tab", "math/bits.deBruijn64tab"], apart := false, laid := [("math/bits.deBruijn32tab", laid_math_bits_deBruijn32tab), ("math/bits.deBruijn64tab", laid_math_bits_deBruijn64tab), ("internal/strconv.uint64pow10", laid_internal_strconv_uint64pow10)] }
def OpPlainSaid : Prop := opPlainRow.holds Tryd.pinned (OpenSpec.ofChange opPlainSpec)

/-- ITS FALSE NEIGHBOUR: 'it returns false'. Refute it at one input. -/
def opPlainWrong : ChangeSpec := { name := "opPlain", fn := fun _ => fun
  | [d1, d2, d3] => { results := [.lit (.bool false)], args := [d1, d2, d3] }
  | _ => none }
def OpPlainWrongFalsely : Prop := opPlainRow.holds Tryd.pinned (OpenSpec.ofChange opPlainWrong)

/-- 'mudlarklaw08.OpChecks': WHATEVER THE INPUT: true; the input reads as it did. -/
def opChecksSpec : ChangeSpec := { name := "opChecks", fn := fun _ => fun
  | [d1, d2, d3] => { results := [.lit (.bool true)], args := [d1, d2, d3] }
  | _ => none }
def opChecksRow : OpenClaim := { program := "ytnmmlihgbiebhaadoor", sum := "333b839ef58dccd4968b179ecec0286cae639d1ecb461d2817a0ba2d8a0cdc2c", func := "mudlark/mudlarklaw08.OpChecks", spec := "opChecks", inPlace := ["internal/abi.NoEscape", "internal/bytealg.MakeNoZero"], unfollowed := true, recurses := true, named := ["internal/strconv.uint64pow10", "math/bits.deBruijn32tab", "math/bits.deBruijn64tab"], apart := false, laid := [("math/bits.deBruijn32tab", laid_math_bits_deBruijn32tab), ("math/bits.deBruijn64tab", laid_math_bits_deBruijn64tab), ("internal/strconv.uint64pow10", laid_internal_strconv_uint64pow10)] }
def OpChecksSaid : Prop := opChecksRow.holds Tryd.pinned (OpenSpec.ofChange opChecksSpec)

/-- ITS FALSE NEIGHBOUR: 'it returns false'. Refute it at one input. -/
def opChecksWrong : ChangeSpec := { name := "opChecks", fn := fun _ => fun
  | [d1, d2, d3] => { results := [.lit (.bool false)], args := [d1, d2, d3] }
  | _ => none }
def OpChecksWrongFalsely : Prop := opChecksRow.holds Tryd.pinned (OpenSpec.ofChange opChecksWrong)

/-- 'mudlarklaw29.ShowWrites': WHATEVER THE INPUT: true; the input reads as it did. -/
def showWritesSpec : ChangeSpec := { name := "showWrites", fn := fun _ => fun
  | [d1, d2, d3, d4, d5] => { results := [.lit (.bool true)], args := [d1, d2, d3, d4, d5] }
  | _ => none }
def showWritesRow : OpenClaim := { program := "ytnmmlihgbiebhaadoor", sum := "333b839ef58dccd4968b179ecec0286cae639d1ecb461d2817a0ba2d8a0cdc2c", func := "mudlark/mudlarklaw29.ShowWrites", spec := "showWrites", inPlace := ["internal/abi.NoEscape"], unfollowed := true, recurses := true, named := ["internal/strconv.uint64pow10", "math/bits.deBruijn32tab", "math/bits.deBruijn64tab"], apart := false, laid := [("math/bits.deBruijn32tab", laid_math_bits_deBruijn32tab), ("math/bits.deBruijn64tab", laid_math_bits_deBruijn64tab), ("internal/strconv.uint64pow10", laid_internal_strconv_uint64pow10)] }
def ShowWritesSaid : Prop := showWritesRow.holds Tryd.pinned (OpenSpec.ofChange showWritesSpec)

/-- ITS FALSE NEIGHBOUR: 'it returns false'. Refute it at one input. -/
def showWritesWrong : ChangeSpec := { name := "showWrites", fn := fun _ => fun
  | [d1, d2, d3, d4, d5] => { results := [.lit (.bool false)], args := [d1, d2, d3, d4, d5] }
  | _ => none }
def ShowWritesWrongFalsely : Prop := showWritesRow.holds Tryd.pinned (OpenSpec.ofChange showWritesWrong)

/-- 'mudlarklaw06.AccessApart': WHATEVER THE INPUT: true; the input reads as it did. -/
def accessApartSpec : ChangeSpec := { name := "accessApart", fn := fun _ => fun
  | [d1, d2, d3] => { results := [.lit (.bool true)], args := [d1, d2, d3] }
  | _ => none }
def accessApartRow : OpenClaim := { program := "ytnmmlihgbiebhaadoor", sum := "333b839ef58dccd4968b179ecec0286cae639d1ecb461d2817a0ba2d8a0cdc2c", func := "mudlark/mudlarklaw06.AccessApart", spec := "accessApart", inPlace := ["internal/abi.NoEscape", "internal/bytealg.MakeNoZero"], named := ["internal/strconv.uint64pow10", "math/bits.deBruijn32tab", "math/bits.deBruijn64tab"], apart := false, laid := [("math/bits.deBruijn32tab", laid_math_bits_deBruijn32tab), ("math/bits.deBruijn64tab", laid_math_bits_deBruijn64tab), ("internal/strconv.uint64pow10", laid_internal_strconv_uint64pow10)] }
def AccessApartSaid : Prop := accessApartRow.holds Tryd.pinned (OpenSpec.ofChange accessApartSpec)

/-- ITS FALSE NEIGHBOUR: 'it returns false'. Refute it at one input. -/
def accessApartWrong : ChangeSpec := { name := "accessApart", fn := fun _ => fun
  | [d1, d2, d3] => { results := [.lit (.bool false)], args := [d1, d2, d3] }
  | _ => none }
def AccessApartWrongFalsely : Prop := accessApartRow.holds Tryd.pinned (OpenSpec.ofChange accessApartWrong)

/- THE SECOND FORM. 'bulk': how many values and letters a reading holds, each counted each time it is reached (what is shared counts as often as it is met; a slice's spare places count too). A statement '..UptoSaid' is the law's where the arguments, and the package variables that the reading takes, are together of bulk at most 1048576: NARROWER than '..Said'. Prove '..Said' where nothing that the law and all that it calls make is longer than what came in: it says more and counts as full. Else prove '..UptoSaid'. A law counts once. -/
mutual
def uptoBulk {H : Type} : DataW H → Nat
  | .lit (.string bytes) => bytes.length + 1
  | .lit _ => 1
  | .nil => 1
  | .ptr d => uptoBulk d + 1
  | .slice elems spare => uptoBulkAll elems + uptoBulkAll spare + 1
  | .agg parts => uptoBulkAll parts + 1
  | .iface _ d => uptoBulk d + 1
  | .map entries => uptoBulkEntries entries + 1
  | .held _ => 1
def uptoBulkAll {H : Type} : List (DataW H) → Nat
  | [] => 0
  | d :: r => uptoBulk d + uptoBulkAll r
def uptoBulkEntries {H : Type} : List (Lit × DataW H) → Nat
  | [] => 0
  | x :: r => uptoBulkEntry x + uptoBulkEntries r
def uptoBulkEntry {H : Type} : Lit × DataW H → Nat
  | (.string bytes, d) => bytes.length + uptoBulk d + 1
  | (_, d) => uptoBulk d + 1
 end
def uptoSmall : (H : Type) → List (DataW H) → Bool := fun _ ds => decide (uptoBulkAll ds ≤ 1048576)
def OpenSpec.upto (s : _root_.Go.ChangeSpec) : _root_.Go.OpenSpec := { _root_.Go.OpenSpec.ofChange s with cond := some uptoSmall }

/-- 'mudlarklaw01.WordKinds', WHERE WHAT IT READS IS OF BULK AT MOST 1048576: true; the input reads as it did. -/
def wordKindsUptoRow : OpenClaim := { program := "ytnmmlihgbiebhaadoor", sum := "333b839ef58dccd4968b179ecec0286cae639d1ecb461d2817a0ba2d8a0cdc2c", func := "mudlark/mudlarklaw01.WordKinds", spec := "wordKinds", named := ["internal/strconv.uint64pow10", "math/bits.deBruijn32tab", "math/bits.deBruijn64tab"], apart := false, laid := [("math/bits.deBruijn32tab", laid_math_bits_deBruijn32tab), ("math/bits.deBruijn64tab", laid_math_bits_deBruijn64tab), ("internal/strconv.uint64pow10", laid_internal_strconv_uint64pow10)], narrowed := true }
def WordKindsUptoSaid : Prop := wordKindsUptoRow.holds Tryd.pinned (OpenSpec.upto wordKindsSpec)

/-- 'mudlarklaw01.WordTotal', WHERE WHAT IT READS IS OF BULK AT MOST 1048576: true; the input reads as it did. -/
def wordTotalUptoRow : OpenClaim := { program := "ytnmmlihgbiebhaadoor", sum := "333b839ef58dccd4968b179ecec0286cae639d1ecb461d2817a0ba2d8a0cdc2c", func := "mudlark/mudlarklaw01.WordTotal", spec := "wordTotal", named := ["internal/strconv.uint64pow10", "math/bits.deBruijn32tab", "math/bits.deBruijn64tab"], apart := false, laid := [("math/bits.deBruijn32tab", laid_math_bits_deBruijn32tab), ("math/bits.deBruijn64tab", laid_math_bits_deBruijn64tab), ("internal/strconv.uint64pow10", laid_internal_strconv_uint64pow10)], narrowed := true }
def WordTotalUptoSaid : Prop := wordTotalUptoRow.holds Tryd.pinned (OpenSpec.upto wordTotalSpec)

/-- 'mudlarklaw01.WordCells', WHERE WHAT IT READS IS OF BULK AT MOST 1048576: true; the input reads as it did. -/
def wordCellsUptoRow : OpenClaim := { program := "ytnmmlihgbiebhaadoor", sum := "333b839ef58dccd4968b179ecec0286cae639d1ecb461d2817a0ba2d8a0cdc2c", func := "mudlark/mudlarklaw01.WordCells", spec := "wordCells", unfollowed := true, recurses := true, named := ["internal/strconv.uint64pow10", "math/bits.deBruijn32tab", "math/bits.deBruijn64tab"], apart := false, laid := [("math/bits.deBruijn32tab", laid_math_bits_deBruijn32tab), ("math/bits.deBruijn64tab", laid_math_bits_deBruijn64tab), ("internal/strconv.uint64pow10", laid_internal_strconv_uint64pow10)], narrowed := true }
def WordCellsUptoSaid : Prop := wordCellsUptoRow.holds Tryd.pinned (OpenSpec.upto wordCellsSpec)

/-- 'mudlarklaw04.PlaceApart', WHERE WHAT IT READS IS OF BULK AT MOST 1048576: true; the input reads as it did. -/
def placeApartUptoRow : OpenClaim := { program := "ytnmmlihgbiebhaadoor", sum := "333b839ef58dccd4968b179ecec0286cae639d1ecb461d2817a0ba2d8a0cdc2c", func := "mudlark/mudlarklaw04.PlaceApart", spec := "placeApart", unfollowed := true, recurses := true, named := ["internal/strconv.uint64pow10", "math/bits.deBruijn32tab", "math/bits.deBruijn64tab"], apart := false, laid := [("math/bits.deBruijn32tab", laid_math_bits_deBruijn32tab), ("math/bits.deBruijn64tab", laid_math_bits_deBruijn64tab), ("internal/strconv.uint64pow10", laid_internal_strconv_uint64pow10)], narrowed := true }
def PlaceApartUptoSaid : Prop := placeApartUptoRow.holds Tryd.pinned (OpenSpec.upto placeApartSpec)

/-- 'mudlarklaw32.CensusRows', WHERE WHAT IT READS IS OF BULK AT MOST 1048576: true; the input reads as it did. -/
def censusRowsUptoRow : OpenClaim := { program := "ytnmmlihgbiebhaadoor", sum := "333b839ef58dccd4968b179ecec0286cae639d1ecb461d2817a0ba2d8a0cdc2c", func := "mudlark/mudlarklaw32.CensusRows", spec := "censusRows", unfollowed := true, recurses := true, named := ["internal/strconv.uint64pow10", "math/bits.deBruijn32tab", "math/bits.deBruijn64tab"], apart := false, laid := [("math/bits.deBruijn32tab", laid_math_bits_deBruijn32tab), ("math/bits.deBruijn64tab", laid_math_bits_deBruijn64tab), ("internal/strconv.uint64pow10", laid_internal_strconv_uint64pow10)], narrowed := true }
def CensusRowsUptoSaid : Prop := censusRowsUptoRow.holds Tryd.pinned (OpenSpec.upto censusRowsSpec)

/-- 'mudlarklaw04.PlaceNames', WHERE WHAT IT READS IS OF BULK AT MOST 1048576: true; the input reads as it did. -/
def placeNamesUptoRow : OpenClaim := { program := "ytnmmlihgbiebhaadoor", sum := "333b839ef58dccd4968b179ecec0286cae639d1ecb461d2817a0ba2d8a0cdc2c", func := "mudlark/mudlarklaw04.PlaceNames", spec := "placeNames", named := ["internal/strconv.uint64pow10", "math/bits.deBruijn32tab", "math/bits.deBruijn64tab"], apart := false, laid := [("math/bits.deBruijn32tab", laid_math_bits_deBruijn32tab), ("math/bits.deBruijn64tab", laid_math_bits_deBruijn64tab), ("internal/strconv.uint64pow10", laid_internal_strconv_uint64pow10)], narrowed := true }
def PlaceNamesUptoSaid : Prop := placeNamesUptoRow.holds Tryd.pinned (OpenSpec.upto placeNamesSpec)

/-- 'mudlarklaw08.OpPlain', WHERE WHAT IT READS IS OF BULK AT MOST 1048576: true; the input reads as it did. -/
def opPlainUptoRow : OpenClaim := { program := "ytnmmlihgbiebhaadoor", sum := "333b839ef58dccd4968b179ecec0286cae639d1ecb461d2817a0ba2d8a0cdc2c", func := "mudlark/mudlarklaw08.OpPlain", spec := "opPlain", inPlace := ["internal/abi.NoEscape", "internal/bytealg.MakeNoZero"], unfollowed := true, recurses := true, named := ["internal/strconv.uint64pow10", "math/bits.deBruijn32tab", "math/bits.deBruijn64tab"], apart := false, laid := [("math/bits.deBruijn32tab", laid_math_bits_deBruijn32tab), ("math/bits.deBruijn64tab", laid_math_bits_deBruijn64tab), ("internal/strconv.uint64pow10", laid_internal_strconv_uint64pow10)], narrowed := true }
def OpPlainUptoSaid : Prop := opPlainUptoRow.holds Tryd.pinned (OpenSpec.upto opPlainSpec)

/-- 'mudlarklaw08.OpChecks', WHERE WHAT IT READS IS OF BULK AT MOST 1048576: true; the input reads as it did. -/
def opChecksUptoRow : OpenClaim := { program := "ytnmmlihgbiebhaadoor", sum := "333b839ef58dccd4968b179ecec0286cae639d1ecb461d2817a0ba2d8a0cdc2c", func := "mudlark/mudlarklaw08.OpChecks", spec := "opChecks", inPlace := ["internal/abi.NoEscape", "internal/bytealg.MakeNoZero"], unfollowed := true, recurses := true, named := ["internal/strconv.uint64pow10", "math/bits.deBruijn32tab", "math/bits.deBruijn64tab"], apart := false, laid := [("math/bits.deBruijn32tab", laid_math_bits_deBruijn32tab), ("math/bits.deBruijn64tab", laid_math_bits_deBruijn64tab), ("internal/strconv.uint64pow10", laid_internal_strconv_uint64pow10)], narrowed := true }
def OpChecksUptoSaid : Prop := opChecksUptoRow.holds Tryd.pinned (OpenSpec.upto opChecksSpec)

/-- 'mudlarklaw29.ShowWrites', WHERE WHAT IT READS IS OF BULK AT MOST 1048576: true; the input reads as it did. -/
def showWritesUptoRow : OpenClaim := { program := "ytnmmlihgbiebhaadoor", sum := "333b839ef58dccd4968b179ecec0286cae639d1ecb461d2817a0ba2d8a0cdc2c", func := "mudlark/mudlarklaw29.ShowWrites", spec := "showWrites", inPlace := ["internal/abi.NoEscape"], unfollowed := true, recurses := true, named := ["internal/strconv.uint64pow10", "math/bits.deBruijn32tab", "math/bits.deBruijn64tab"], apart := false, laid := [("math/bits.deBruijn32tab", laid_math_bits_deBruijn32tab), ("math/bits.deBruijn64tab", laid_math_bits_deBruijn64tab), ("internal/strconv.uint64pow10", laid_internal_strconv_uint64pow10)], narrowed := true }
def ShowWritesUptoSaid : Prop := showWritesUptoRow.holds Tryd.pinned (OpenSpec.upto showWritesSpec)

/-- 'mudlarklaw06.AccessApart', WHERE WHAT IT READS IS OF BULK AT MOST 1048576: true; the input reads as it did. -/
def accessApartUptoRow : OpenClaim := { program := "ytnmmlihgbiebhaadoor", sum := "333b839ef58dccd4968b179ecec0286cae639d1ecb461d2817a0ba2d8a0cdc2c", func := "mudlark/mudlarklaw06.AccessApart", spec := "accessApart", inPlace := ["internal/abi.NoEscape", "internal/bytealg.MakeNoZero"], named := ["internal/strconv.uint64pow10", "math/bits.deBruijn32tab", "math/bits.deBruijn64tab"], apart := false, laid := [("math/bits.deBruijn32tab", laid_math_bits_deBruijn32tab), ("math/bits.deBruijn64tab", laid_math_bits_deBruijn64tab), ("internal/strconv.uint64pow10", laid_internal_strconv_uint64pow10)], narrowed := true }
def AccessApartUptoSaid : Prop := accessApartUptoRow.holds Tryd.pinned (OpenSpec.upto accessApartSpec)

end Rows
end Go.Proofs.YtnmmlihgbiebhaaDoor

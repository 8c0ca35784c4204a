/- What a row's list gives: the table of powers of ten. -/
import Derived.Test.YtipoklnoknkfhaaDoorRows
import Derived.Test.YtipoklnoknkfhaaDoorWordAll
import Derived.Lib.LaidTab
namespace Go.Proofs.YtipoklnoknkfhaaDoor
open Go Go.RowKit

theorem laid_tail {P : Program} {W : World} {x : String × DataW Unit} {rest : List (String × DataW Unit)} (h : laidMet P (x :: rest) W) : laidMet P rest W := by
  obtain ⟨ps, ⟨g, t, cs, fuel, p, q, _, _, _, _, hr, rfl⟩, hn, hc⟩ := h
  exact ⟨q, hr, (List.nodup_append.1 hn).2.1, fun b off hm => hc b off (List.mem_append_right _ hm)⟩
theorem tens_of_head {rest : List (String × DataW Unit)} {W : World} (h : laidMet Tryd.prog (("internal/strconv.uint64pow10", Rows.laid_internal_strconv_uint64pow10) :: rest) W) : Tens W :=
  Lib.tabIs_of_head (P := Tryd.prog) (g := 5) (t := 248) (e := 25) (n := 20) (k := .u64) (zs := Lib.pow10Tab) (rest := rest) (by kernel_rfl) (by kernel_rfl) Tryd.underlying248 Tryd.underlying25 (by kernel_rfl) (by kernel_rfl) h
end Go.Proofs.YtipoklnoknkfhaaDoor

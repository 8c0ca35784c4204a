/- What a row's list gives: the library's two errors. -/
import Derived.Test.YtcheafeaioflmaaDoorRows
import Derived.Test.YtcheafeaioflmaaDoorTens
import Derived.Test.YtcheafeaioflmaaDoorWordParse
import Derived.Stop.LaidErr
namespace Go.Proofs.YtcheafeaioflmaaDoor
open Go Go.RowKit

theorem es_star : "*" ++ "errors.errorString" = "*errors.errorString" := by decide
theorem es_row (u : TypeId) (h : Tryd.prog.typeName? 3 u = some "*errors.errorString") : u = 227 :=
  typeName_ptr_named (nm := "errors.errorString") (by rw [es_star]; kernel_rfl) (by kernel_rfl) (by decide) u (by rw [es_star]; exact h)
theorem err_of_head {n : String} {text : List UInt8} {r : List (String × DataW Unit)} {W : World} {g : Nat}
    (h : laidMet Tryd.prog ((n, .iface "*errors.errorString" (.ptr (.agg [.lit (.string text)]))) :: r) W)
    (hg : Tryd.prog.globalNamed n = some g) (ht : (Tryd.prog.globals[g]?).map (·.type) = some 115) :
    ∃ ev, W.cell? ⟨g, 0, none⟩ = some ev ∧ (ev = .nilIface ∨ ∃ te pe, ev = .iface te pe) := by
  obtain ⟨a0, s0, hv0, -, -, -⟩ := laid_sentinel h hg ht Tryd.underlying115 es_row Tryd.underlying227 Tryd.underlying229 rfl rfl Tryd.underlying9 (by kernel_rfl) (by kernel_rfl)
  exact ⟨_, (by have h0 := World.var?_cell hg hv0 0; simpa using h0), Or.inr ⟨_, _, rfl⟩⟩
theorem errs_of_head {rest : List (String × DataW Unit)} {W : World} (h : laidMet Tryd.prog (("strconv.ErrRange", Rows.laid_strconv_ErrRange) :: ("strconv.ErrSyntax", Rows.laid_strconv_ErrSyntax) :: rest) W) : Errs W :=
  ⟨err_of_head (laid_tail h) (g := 0) (by kernel_rfl) (by kernel_rfl), err_of_head h (g := 1) (by kernel_rfl) (by kernel_rfl)⟩
end Go.Proofs.YtcheafeaioflmaaDoor

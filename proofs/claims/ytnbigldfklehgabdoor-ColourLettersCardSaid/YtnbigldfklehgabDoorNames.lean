/- What a row's list gives: the names of colours. -/
import Derived.Test.YtnbigldfklehgabDoorRows
import Derived.Test.YtnbigldfklehgabDoorBase
import Derived.Lib.LaidTab
namespace Go.Proofs.YtnbigldfklehgabDoor
open Go Go.RowKit

/-- a list of texts, as a datum -/
def strData {H : Type} (zs : List (List UInt8)) : DataW H := .agg (zs.map fun z => .lit (.string z))
theorem cells_of_strs {H : Type} {enc : TypeId × Value → H} {P : Program} {w : World} {base : Nat} {sp : Nat → Bool} {held : Bool} {fuel : Nat} {t e : TypeId} {n : Nat} {cs : List Value} {zs : List (List UInt8)} {p : List MemPlace}
    (ht : P.underlying t = some (.array n e)) (he : P.underlying e = some .string) (hce : P.cellsOf e = 1) (hct : P.cellsOf t = n)
    (h : DataW.trod enc P w base sp held fuel t cs = some (strData zs, p)) : cs = zs.map fun z => Value.string ⟨z.toArray⟩ := by
  cases fuel with
  | zero => simp [DataW.trod] at h
  | succ fuel =>
    simp only [DataW.trod, ht, hce, hct, Nat.mul_one] at h
    split at h
    · rename_i hl
      obtain ⟨xs, hm, hx⟩ := Option.map_eq_some_iff.1 h
      have hxs : xs.map (·.1) = zs.map fun z => (DataW.lit (.string z) : DataW H) := by
        have := congrArg Prod.fst hx
        simpa [strData] using this
      have hxl : xs.length = n := by simpa using Lib.mapM_length hm
      have hzl : zs.length = n := by
        have := congrArg List.length hxs
        simp at this
        omega
      apply List.ext_getElem?
      intro i
      by_cases hi : i < n
      · obtain ⟨b, hb, hf⟩ := Lib.mapM_at hm i i (by simp [hi])
        obtain ⟨z, hc, hz, _⟩ := DataW.trod_string he hf
        have h1 : cs[i]? = some (.string z) := by
          have := congrArg (·[0]?) hc
          simpa [List.getElem?_take, List.getElem?_drop] using this
        have h2 : (xs.map (·.1))[i]? = some b.1 := by simp [hb]
        rw [hxs] at h2
        simp only [List.getElem?_map, Option.map_eq_some_iff] at h2
        obtain ⟨z', hz', hb'⟩ := h2
        rw [h1, List.getElem?_map, hz']
        simp only [Option.map_some, Option.some.injEq, Value.string.injEq]
        have e2 : z.data.toList = z' := by
          rw [hz] at hb'
          simpa using hb'.symm
        rw [← e2]
      · rw [List.getElem?_eq_none (by omega), List.getElem?_eq_none (by simp; omega)]
    · cases h

/-- the names of colours, as a world holds them -/
def Names (w : World) : Prop := w.var? Tryd.prog "mudlark/colour.names" = some #[.string ⟨#[119, 104, 105, 116, 101]⟩, .string ⟨#[103, 114, 101, 121]⟩, .string ⟨#[98, 108, 97, 99, 107]⟩]
theorem Names.below {w w' : World} {B : Nat} (h : Names w) (hB : w.heap.size ≤ B) (hb : Below B w w') : Names w' := by
  unfold Names World.var? at *
  cases hg : Tryd.prog.globalNamed "mudlark/colour.names" with
  | none => simp [hg] at h
  | some g =>
    simp only [hg, Option.bind_some] at h ⊢
    have hlt : g < w.heap.size := by
      rcases Nat.lt_or_ge g w.heap.size with h' | h'
      · exact h'
      · rw [Array.getElem?_eq_none h'] at h; simp at h
    rw [hb.block g (by omega)]
    exact h
theorem names_of_head {rest : List (String × DataW Unit)} {W : World} (h : laidMet Tryd.prog (("mudlark/colour.names", Rows.laid_mudlark_colour_names) :: rest) W) : Names W := by
  obtain ⟨ps, ⟨g', t', cs, fuel, p, q, hg', ht', hvar, hd, _, _⟩, _⟩ := h
  obtain rfl := Option.some.inj ((by kernel_rfl : Tryd.prog.globalNamed "mudlark/colour.names" = some 0).symm.trans hg')
  obtain rfl := Option.some.inj ((by kernel_rfl : (Tryd.prog.globals[0]?).map (·.type) = some 47).symm.trans ht')
  have e := cells_of_strs (zs := [[119, 104, 105, 116, 101], [103, 114, 101, 121], [98, 108, 97, 99, 107]]) Tryd.underlying47 Tryd.underlying9 (by kernel_rfl) (by kernel_rfl) hd
  unfold Names
  rw [hvar]
  congr 1
  exact Array.toList_inj.1 e
theorem Names.cells {w : World} (h : Names w) : w.cell? ⟨0, 0, none⟩ = some (.string ⟨#[119, 104, 105, 116, 101]⟩) ∧ w.cell? ⟨0, 1, none⟩ = some (.string ⟨#[103, 114, 101, 121]⟩) ∧ w.cell? ⟨0, 2, none⟩ = some (.string ⟨#[98, 108, 97, 99, 107]⟩) := by
  have hg : Tryd.prog.globalNamed "mudlark/colour.names" = some 0 := by kernel_rfl
  exact ⟨World.var?_cell hg h 0, World.var?_cell hg h 1, World.var?_cell hg h 2⟩
end Go.Proofs.YtnbigldfklehgabDoor

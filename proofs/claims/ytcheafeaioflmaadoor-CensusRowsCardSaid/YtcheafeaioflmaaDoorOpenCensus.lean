/- Arguments that came in, opened: a census. -/
import Derived.Test.YtcheafeaioflmaaDoorOpen
import Derived.Test.YtcheafeaioflmaaDoorCensusOpen
import Derived.OpenShut
import Derived.ChangeMaps5
import Derived.Deep.DeepHandedRow
namespace Go.Proofs.YtcheafeaioflmaaDoor
open Go Go.RowKit Go.WideShapes Go.ChangeShapes

section
variable {H : Type} {enc : TypeId × Value → H} {W : World} {base : Nat} {spare : Nat → Bool} {held : Bool}
/-- the number in a cell -/
def cellN (cs : List Value) (i : Nat) : Int := match cs[i]? with
  | some (.int _ n) => n
  | _ => 0
def CellOk (cs : List Value) (i : Nat) : Prop := cs[i]? = some (.int .i64 (cellN cs i)) ∧ -9223372036854775808 ≤ cellN cs i ∧ cellN cs i ≤ 9223372036854775807
theorem cell_ok {fuel : Nat} {cs l : List Value} {y : DataW H × List MemPlace} (i : Nat) (h : DataW.trod enc Tryd.prog W base spare held fuel 3 l = some y) (hl : l = (cs.drop i).take 1) : CellOk cs i := by
  obtain ⟨a, e, _, w⟩ := DataW.trod_int Tryd.underlying3 h
  have h1 : cs[i]? = some (.int .i64 a) := by
    have h2 : ((cs.drop i).take 1)[0]? = some (.int .i64 a) := by rw [← hl, e]; rfl
    simpa [List.getElem?_take, List.getElem?_drop] using h2
  have h3 : cellN cs i = a := by unfold cellN; rw [h1]
  refine ⟨by rw [h3]; exact h1, ?_⟩
  rw [h3]
  exact bounds_i64 w
set_option maxRecDepth 100000 in
theorem arr_ok {fuel n : Nat} {t : TypeId} {cs l : List Value} {y : DataW H × List MemPlace} (o : Nat) (ht : Tryd.prog.underlying t = some (.array n 3)) (h : DataW.trod enc Tryd.prog W base spare held fuel t l = some y) (hl : l = (cs.drop o).take n) (i : Nat) (hi : i < n) : CellOk cs (o + i) := by
  have h1 : Tryd.prog.cellsOf 3 = 1 := by kernel_rfl
  obtain ⟨xs, m, _, _, _, hx, hf⟩ := DataW.trod_array ht h
  have h2 := hf i hi
  rw [h1, List.getElem?_eq_getElem (by omega : i < xs.length)] at h2
  refine cell_ok (o + i) h2 ?_
  rw [hl, Nat.mul_one]
  apply List.ext_getElem?
  intro j
  simp only [List.getElem?_take, List.getElem?_drop]
  by_cases hj : j < 1
  · rw [if_pos hj, if_pos hj, if_pos (by omega)]
    congr 1
    omega
  · rw [if_neg hj, if_neg hj]
end
set_option maxRecDepth 100000 in
/-- a census that came in -/
theorem open_census {H : Type} {enc : TypeId × Value → H} {W : World} {v : Value} {d : DataW H} {p : List MemPlace} (hv : Value.okWide Tryd.prog W .any 0 67 v) (h : DataW.Trod enc Tryd.prog W 0 (fun _ => true) true 67 v d p) :
    ∃ f : Nat → Int, v = .agg (cl f).toArray ∧ ∀ i, -9223372036854775808 ≤ f i ∧ f i ≤ 9223372036854775807 := by
  obtain ⟨cs, rfl, hsz⟩ := okWide_struct Tryd.underlying67 hv
  have hC : Tryd.prog.cellsOf 67 = 24 := by kernel_rfl
  rw [hC] at hsz
  obtain ⟨fuel, hf⟩ := h
  obtain ⟨xs, m, _, _, _, hx, hg⟩ := DataW.trod_struct Tryd.underlying67 hf
  have c1 : Tryd.prog.cellsOf 3 = 1 := by kernel_rfl
  have c12 : Tryd.prog.cellsOf 64 = 12 := by kernel_rfl
  have c7 : Tryd.prog.cellsOf 65 = 7 := by kernel_rfl
  have hx7 : xs.length = 7 := hx
  have hcs : (Value.agg cs).cells.toList = cs.toList := rfl
  rw [hcs] at hg
  have g0 := hg 0 _ rfl
  have g1 := hg 1 _ rfl
  have g2 := hg 2 _ rfl
  have g3 := hg 3 _ rfl
  have g4 := hg 4 _ rfl
  have g5 := hg 5 _ rfl
  have g6 := hg 6 _ rfl
  rw [List.getElem?_eq_getElem (by omega)] at g0 g1 g2 g3 g4 g5 g6
  have hok : ∀ i, i < 24 → CellOk cs.toList i := by
    intro i hi
    by_cases h1 : i < 12
    · have := arr_ok (cs := cs.toList) 0 Tryd.underlying64 g0 (congrArg (fun k => List.take k (cs.toList.drop 0)) c12) i h1
      rwa [Nat.zero_add] at this
    · by_cases h2 : i < 19
      · have := arr_ok (cs := cs.toList) 12 Tryd.underlying65 g1 (congrArg (fun k => List.take k (cs.toList.drop 12)) c7) (i - 12) (by omega)
        rwa [show 12 + (i - 12) = i by omega] at this
      · obtain rfl | rfl | rfl | rfl | rfl : i = 19 ∨ i = 20 ∨ i = 21 ∨ i = 22 ∨ i = 23 := by omega
        · exact cell_ok 19 g2 (congrArg (fun k => List.take k (cs.toList.drop 19)) c1)
        · exact cell_ok 20 g3 (congrArg (fun k => List.take k (cs.toList.drop 20)) c1)
        · exact cell_ok 21 g4 (congrArg (fun k => List.take k (cs.toList.drop 21)) c1)
        · exact cell_ok 22 g5 (congrArg (fun k => List.take k (cs.toList.drop 22)) c1)
        · exact cell_ok 23 g6 (congrArg (fun k => List.take k (cs.toList.drop 23)) c1)
  refine ⟨cellN cs.toList, ?_, fun i => ?_⟩
  · congr 1
    rw [← Array.toList_inj]
    apply List.ext_getElem?
    intro i
    by_cases hi : i < 24
    · rw [(hok i hi).1]
      exact (cl_at _ i hi).symm
    · rw [List.getElem?_eq_none (by simp; omega), List.getElem?_eq_none (by rw [List.toList_toArray, cl_len]; omega)]
  · by_cases hi : i < 24
    · exact (hok i hi).2
    · have : cellN cs.toList i = 0 := by unfold cellN; rw [List.getElem?_eq_none (by simp; omega)]
      rw [this]
      omega
end Go.Proofs.YtcheafeaioflmaaDoor

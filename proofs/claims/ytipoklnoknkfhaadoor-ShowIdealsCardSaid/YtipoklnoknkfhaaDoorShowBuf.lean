/- The writer of words: its builder lies within it. -/
import Derived.Test.YtipoklnoknkfhaaDoorBase
import Derived.Test.YtipoklnoknkfhaaDoorShelf
import Derived.Shelf.Strings.Builder1
namespace Go.Proofs.YtipoklnoknkfhaaDoor
open Go Go.RowKit
set_option linter.unusedSimpArgs false
set_option linter.unusedVariables false

theorem sizeBuilderW : (Tryd.prog.info? 162).map (·.size) = some 2 := by kernel_rfl
theorem liesW : liesAt Tryd.prog Tryd.prog.depth 164 (4 / Tryd.prog.cellsOf 164) 1 162 1 = true := by kernel_rfl
theorem infoByteW : (Tryd.prog.info? 5).map (fun i => (i.zero, i.size, i.bytes)) = some (some (.int .u8 0), 1, 1) := by kernel_rfl

/-- a writer at a block: its builder's own address, its buffer, how many cells are left -/
def WrAt (B b : Nat) (src p v : Value) (bs : List Value) (left : Int) (w : World) : Prop :=
  B ≤ b ∧ w.heap[b]? = some (.cells #[src, p, v, .int .i64 left] 164 (0, 0)) ∧ w.ownsRow B 5 1 v bs.length bs ∧ v.ownBlock ≠ some b
section
variable {B b : Nat} {src p v : Value} {bs : List Value} {left : Int} {w : World}
theorem WrAt.lt (h : WrAt B b src p v bs left w) : b < w.heap.size := block_lt h.2.1
theorem WrAt.c0 (h : WrAt B b src p v bs left w) : w.cell? ⟨b, 0, none⟩ = some src := by rw [Lib.cell_of_heap h.2.1]; rfl
theorem WrAt.c1 (h : WrAt B b src p v bs left w) : w.cell? ⟨b, 1, none⟩ = some p := by rw [Lib.cell_of_heap h.2.1]; rfl
theorem WrAt.c2 (h : WrAt B b src p v bs left w) : w.cell? ⟨b, 2, none⟩ = some v := by rw [Lib.cell_of_heap h.2.1]; rfl
theorem WrAt.c3 (h : WrAt B b src p v bs left w) : w.cell? ⟨b, 3, none⟩ = some (.int .i64 left) := by rw [Lib.cell_of_heap h.2.1]; rfl
theorem WrAt.frozen (h : WrAt B b src p v bs left w) (j : Nat) : w.frozen? ⟨b, j, none⟩ = false := Lib.frozen_of_heap h.2.1 j
theorem WrAt.shape (h : WrAt B b src p v bs left w) : w.shape? b = some (164, 4) := by simp [World.shape?, h.2.1]
theorem WrAt.used (h : WrAt B b src p v bs left w) (q : Value) : WrAt B b src q v bs left (w.setCell ⟨b, 1, none⟩ q) := by
  obtain ⟨hB, hb, hown, hne⟩ := h
  refine ⟨hB, ?_, ?_, hne⟩
  · simp [World.setCell, Array.getElem?_modify, hb]
  · exact hown.kept (row := some b) ⟨rfl, rfl, rfl, by simp [World.setCell], fun k _ hk => Below.heap_setCell _ _ _ _ (fun e => hk (by simp [e]))⟩ (Or.inr hne)
theorem WrAt.less (h : WrAt B b src p v bs left w) (l' : Int) : WrAt B b src p v bs l' (w.setCell ⟨b, 3, none⟩ (.int .i64 l')) := by
  obtain ⟨hB, hb, hown, hne⟩ := h
  refine ⟨hB, ?_, ?_, hne⟩
  · simp [World.setCell, Array.getElem?_modify, hb]
  · exact hown.kept (row := some b) ⟨rfl, rfl, rfl, by simp [World.setCell], fun k _ hk => Below.heap_setCell _ _ _ _ (fun e => hk (by simp [e]))⟩ (Or.inr hne)
theorem WrAt.put {v' : Value} {bs' : List Value} (hB : B ≤ b) (hb : w.heap[b]? = some (.cells #[src, p, v, .int .i64 left] 164 (0, 0))) (hown : w.ownsRow B 5 1 v' bs'.length bs') : WrAt B b src p v' bs' left (w.setCell ⟨b, 2, none⟩ v') := by
  have hne := Lib.ownBlock_ne hown hb (by decide)
  refine ⟨hB, ?_, ?_, hne⟩
  · simp [World.setCell, Array.getElem?_modify, hb]
  · exact hown.kept (row := some b) ⟨rfl, rfl, rfl, by simp [World.setCell], fun k _ hk => Below.heap_setCell _ _ _ _ (fun e => hk (by simp [e]))⟩ (Or.inr hne)
theorem WrAt.drew (h : WrAt B b src p v bs left w) : WrAt B b src p v bs left w.drew := h
theorem WrAt.belowK {w' : World} (h : WrAt B b src p v bs left w) (hb : Below w.heap.size w w') : WrAt B b src p v bs left w' :=
  ⟨h.1, (hb.block _ h.lt).trans h.2.1, h.2.2.1.kept (row := some b) ⟨hb.os, hb.tape, hb.output, hb.size, fun k hk _ => hb.block k hk⟩ (Or.inr h.2.2.2), h.2.2.2⟩
end
set_option maxHeartbeats 1000000 in
set_option maxRecDepth 100000 in
theorem wcheck_used (b : Nat) (w : World) (h0 : w.cell? ⟨b, 1, none⟩ = some (.pointer (some ⟨b, 1, none⟩))) :
    Calls Tryd.prog 139 #[.pointer (some ⟨b, 1, none⟩)] w fun e w' => e = .returned (.tuple #[]) ∧ w' = w := by
  obtain ⟨j, hj, _⟩ := Option.map_eq_some_iff.1 sizeBuilderW
  go_enter Tryd.func139, Tryd.ntmps139
  go_wp2
  rw [Lib.run_neq_ptr_same w _ Tryd.underlying159 hj]
  go_wp2
  go_end0
  exact ⟨rfl, rfl⟩
set_option maxHeartbeats 1000000 in
set_option maxRecDepth 100000 in
theorem wcheck_fresh (b : Nat) (w : World) (h0 : w.cell? ⟨b, 1, none⟩ = some (.pointer none)) (hsh : w.shape? b = some (164, 4)) (hfz : w.frozen? ⟨b, 1, none⟩ = false) :
    Calls Tryd.prog 139 #[.pointer (some ⟨b, 1, none⟩)] w fun e w' => e = .returned (.tuple #[]) ∧ w' = w.setCell ⟨b, 1, none⟩ (.pointer (some ⟨b, 1, none⟩)) := by
  obtain ⟨j, hj, hjs⟩ := Option.map_eq_some_iff.1 sizeBuilderW
  go_enter Tryd.func139, Tryd.ntmps139
  go_wp2
  rw [Lib.run_to_unsafe w ⟨b, 1, none⟩ Tryd.underlying159 Tryd.underlying227 hj (by rw [hjs]; decide) hsh (show 1 < 4 by decide)]
  simp only [Result.andThen]
  rw [Oper.upon_value]
  go_wp2
  rw [run_callFunc_extern Tryd.func156 (by kernel_rfl) (by kernel_rfl) (by kernel_rfl) (e := Extern.AbiNoEscape.same) (by kernel_rfl)]
  rw [Lib.run_noEscape]
  simp only [Result.andThen]
  rw [Oper.upon_value]
  go_wp2
  rw [Lib.run_from_unsafe w ⟨b, 1, none⟩ Tryd.underlying227 Tryd.underlying159 hj hsh liesW]
  simp only [Result.andThen]
  rw [Oper.upon_value]
  go_wp2
  go_end0
  exact ⟨rfl, rfl⟩
/-- a writer, its builder fresh or used -/
def IsWr (B b : Nat) (src : Value) (bs : List Value) (left : Int) (w : World) : Prop := ∃ p v, (p = .pointer none ∨ p = .pointer (some ⟨b, 1, none⟩)) ∧ WrAt B b src p v bs left w
theorem wcheck_any (B b : Nat) (src : Value) (bs : List Value) (left : Int) (w : World) (h : IsWr B b src bs left w) :
    Calls Tryd.prog 139 #[.pointer (some ⟨b, 1, none⟩)] w fun e w' => e = .returned (.tuple #[]) ∧ ((∃ v, WrAt B b src (.pointer (some ⟨b, 1, none⟩)) v bs left w') ∧ Below B w w') := by
  obtain ⟨p, v, rfl | rfl, h⟩ := h
  · refine (wcheck_fresh b w h.c1 h.shape (h.frozen 1)).mono ?_
    rintro e w' ⟨rfl, rfl⟩
    exact ⟨rfl, ⟨v, h.used _⟩, (Below.refl B w).setCell (p := ⟨b, 1, none⟩) h.1 _⟩
  · refine (wcheck_used b w h.c1).mono ?_
    rintro e w' ⟨rfl, rfl⟩
    exact ⟨rfl, ⟨v, h⟩, Below.refl B _⟩
set_option maxHeartbeats 2000000 in
set_option maxRecDepth 100000 in
theorem wWriteString (B b : Nat) (src : Value) (bs : List Value) (left : Int) (s : ByteArray) (w : World) (h : IsWr B b src bs left w) (hlen : bs.length + s.size ≤ 140737488355328) (hBw : B ≤ w.heap.size) :
    Calls Tryd.prog 120 #[.pointer (some ⟨b, 1, none⟩), .string s] w fun e w' => e = .returned (.tuple #[.int .i64 s.size, .nilIface]) ∧ (IsWr B b src (bs ++ Lib.strCells s) left w' ∧ Below B w w') := by
  obtain ⟨i0, hi, hz0, hz1, hz2⟩ := info_parts infoByteW
  go_enter Tryd.func120, Tryd.ntmps120
  go_wp2_with fail
  refine (wcheck_any B b src bs left _ h).mono ?_
  rintro e w1 ⟨rfl, ⟨v, h1⟩, hb1⟩
  have c1 := h1.c1
  have c2 := h1.c2
  obtain ⟨hB, hbk, hown, hne⟩ := h1
  go_wp2_with (at_builtin; refine Lib.wpList_append_own_string _ rfl _ _ 160 9 rfl B 5 i0 Tryd.underlying160 Tryd.underlying9 hi hz0 hz1 hz2 _ _ _ rfl hown s rfl ?c3 ?c4 ?c5 ?_)
  case c3 => unfold maxLen; omega
  case c4 => omega
  case c5 => have := hb1.size; omega
  intro v' w2 hown' hgrow _
  have hlt : b < w1.heap.size := block_lt hbk
  have hb2 : w2.heap[b]? = some (.cells #[src, .pointer (some ⟨b, 1, none⟩), v, .int .i64 left] 164 (0, 0)) := by
    rw [hgrow.block b hlt (fun e => hne e.symm)]
    exact hbk
  have d1 : w2.cell? ⟨b, 1, none⟩ = some (.pointer (some ⟨b, 1, none⟩)) := by rw [Lib.cell_of_heap hb2]; rfl
  have d2 : w2.cell? ⟨b, 2, none⟩ = some v := by rw [Lib.cell_of_heap hb2]; rfl
  have f2 : w2.frozen? ⟨b, 2, none⟩ = false := Lib.frozen_of_heap hb2 2
  obtain ⟨ao, n', cap, rfl⟩ : ∃ ao n' cap, v' = .slice ao n' cap := by
    rcases hown'.2 with ⟨hv, _⟩ | ⟨g, cap, cur, hv, _⟩
    · exact ⟨_, _, _, hv⟩
    · exact ⟨_, _, _, hv⟩
  go_wp2
  go_ret2
  refine ⟨rfl, ⟨.pointer (some ⟨b, 1, none⟩), .slice ao n' cap, .inr rfl, ?_⟩, ?_⟩
  · exact WrAt.put hB hb2 (bs' := bs ++ Lib.strCells s) (by simpa [Lib.strCells_length] using hown')
  · exact (hb1.grown hgrow (by have := hb1.size; omega) (fun k hk => (hown.lt k hk).1)).setCell (p := ⟨b, 2, none⟩) hB _
set_option maxHeartbeats 2000000 in
set_option maxRecDepth 100000 in
theorem wWriteByte (B b : Nat) (src : Value) (bs : List Value) (left : Int) (c : Int) (w : World) (h : IsWr B b src bs left w) (hlen : bs.length + 1 ≤ 140737488355328) (hBw : B ≤ w.heap.size) :
    Calls Tryd.prog 122 #[.pointer (some ⟨b, 1, none⟩), .int .u8 c] w fun e w' => e = .returned .nilIface ∧ (IsWr B b src (bs ++ [.int .u8 c]) left w' ∧ Below B w w') := by
  obtain ⟨i0, hi, hz0, hz1, hz2⟩ := info_parts infoByteW
  go_enter Tryd.func122, Tryd.ntmps122
  go_wp2_with fail
  refine (wcheck_any B b src bs left _ h).mono ?_
  rintro e w1 ⟨rfl, ⟨v, h1⟩, hb1⟩
  have c1 := h1.c1
  have c2 := h1.c2
  obtain ⟨hB, hbk, hown, hne⟩ := h1
  go_wp2_with (at_builtin; refine wpList_append_own _ rfl _ _ 160 rfl B 5 i0 (.int .u8 0) 1 1 Tryd.underlying160 hi hz0 hz1 hz2 rfl (by decide) _ _ _ rfl (hown.alloc _) ⟨w1.heap.size, 0, none⟩ 1 1 [.int .u8 c] rfl rfl ?c1 ?c2 ?c3 ?c4 ?c5 ?_)
  case c1 =>
    intro j u hj
    match j, hj with
    | 0, hj => simp at hj; subst hj; simp [Addr.add]
  case c2 => intro u hu; simp at hu; subst hu; rfl
  case c3 => unfold maxLen; omega
  case c4 => omega
  case c5 => have := hb1.size; simp; omega
  intro v' w2 hown' hgrow _
  have hlt : b < w1.heap.size := block_lt hbk
  have hb2 : w2.heap[b]? = some (.cells #[src, .pointer (some ⟨b, 1, none⟩), v, .int .i64 left] 164 (0, 0)) := by
    rw [hgrow.block b (by simp; omega) (fun e => hne e.symm), Lib.alloc_old w1 _ b hlt]
    exact hbk
  have d1 : w2.cell? ⟨b, 1, none⟩ = some (.pointer (some ⟨b, 1, none⟩)) := by rw [Lib.cell_of_heap hb2]; rfl
  have d2 : w2.cell? ⟨b, 2, none⟩ = some v := by rw [Lib.cell_of_heap hb2]; rfl
  have f2 : w2.frozen? ⟨b, 2, none⟩ = false := Lib.frozen_of_heap hb2 2
  obtain ⟨g, cap, rfl⟩ : ∃ g cap, v' = .slice (some ⟨g, 0, none⟩) (bs.length + 1) cap := by
    rcases hown'.2 with ⟨_, h0⟩ | ⟨g, cap, cur, hv, _⟩
    · omega
    · exact ⟨g, cap, hv⟩
  go_wp2
  go_ret
  refine ⟨rfl, ⟨.pointer (some ⟨b, 1, none⟩), .slice (some ⟨g, 0, none⟩) (bs.length + 1) cap, .inr rfl, ?_⟩, ?_⟩
  · exact WrAt.put hB hb2 (bs' := bs ++ [.int .u8 c]) (by simpa using hown')
  · exact ((hb1.alloc (by have := hb1.size; omega) _).grown hgrow (by have := hb1.size; simp; omega) (fun k hk => (hown.lt k hk).1)).setCell (p := ⟨b, 2, none⟩) hB _
end Go.Proofs.YtipoklnoknkfhaaDoor

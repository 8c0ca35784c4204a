/- What the document tells of show: mudlarklaw29.awake; mudlarkref07.Great. -/
import Derived.Test.YtipoklnoknkfhaaDoorShowWrite
import Derived.Test.YtipoklnoknkfhaaDoorSpotM
import Derived.Test.YtipoklnoknkfhaaDoorStrEq
namespace Go.Proofs.YtipoklnoknkfhaaDoor
open Go Go.RowKit
set_option linter.unusedSimpArgs false
set_option linter.unusedVariables false

/-- more than is looked at? -/
def Cfg.great (c : Cfg) : Bool := decide (30 < c.cells) || decide (12 < c.muts) || decide (8 < c.regs) || decide (8 < c.globs)
set_option maxHeartbeats 4000000 in
set_option maxRecDepth 100000 in
theorem sgreat_any (w : World) (c : Cfg) :
    Calls Tryd.prog 10 #[c.v] w fun e w' => e = .returned (.bool c.great) ∧ Below w.heap.size w w' := by
  have HB0 : Hid (Below w.heap.size w (w.alloc c.obj)) := (Below.refl _ _).alloc (Nat.le_refl _) _
  have HE : Hid (c.great = (decide (30 < c.cells) || decide (12 < c.muts) || decide (8 < c.regs) || decide (8 < c.globs))) := rfl
  rw [HE.out]
  go_enter Tryd.func10, Tryd.ntmps10
  go_wp2_with fail
  all_goals
    go_ret
    exact ⟨by first | rfl | simp [*], HB0.out⟩
theorem fl_awake29 : (⟨2, 1, 1, 0⟩ : Cfg).fl 13 1 = [1, 0, 0, 0, 0, 0, 0, 0, 3, 0, 0, 0, 0] := by decide
def awk29 : List Int := [1, 0, 0, 0, 0, 0, 0, 2, 3, 0, 4, 0, 0]
theorem awk29_text : wtxt (prsOf ⟨2, 1, 1, 0⟩ awk29) 1 9 = ⟨#[40, 49, 32, 50, 41]⟩ := by decide +kernel
set_option maxHeartbeats 4000000 in
set_option maxRecDepth 100000 in
theorem show_awake (w : World) (ht : Tens w) : Calls Tryd.prog 9 #[] w fun e w' => e = .returned (.bool true) ∧ Below w.heap.size w w' := by
  have HT := Lib.hid ht
  have HB0 : Hid (Below w.heap.size w (w.alloc (⟨2, 1, 1, 0⟩ : Cfg).obj)) := (Below.refl _ _).alloc (Nat.le_refl _) _
  clear ht
  go_enter Tryd.func9, Tryd.ntmps9
  go_wp2_with fail
  refine (rfirst_ok _ ⟨2, 1, 1, 0⟩ 2 1 1 0 13 rfl rfl rfl rfl (by decide) rfl).mono ?_
  rintro e w1 ⟨gb, rfl, hg, hle, hb1⟩
  have HB1 : Hid (Below w.heap.size w w1) := HB0.out.trans (hb1.mono (by simp))
  have hg1 : w1.heap[gb]? = some (wordsObj [1, 0, 0, 0, 0, 0, 0, 0, 3, 0, 0, 0, 0]) := by rw [hg]; rw [show ((⟨2, 1, 1, 0⟩ : Cfg).cells - 1) = 1 by rfl, fl_awake29]
  have HG := Lib.hid hg1
  have hgl : w.heap.size + 1 ≤ gb := by simp at hle; omega
  have hn1 : ¬ gb = w.heap.size := by omega
  have hn2 : ¬ w.heap.size = gb := by omega
  obtain ⟨q0, q1, q2, q3⟩ := Cfg.cells_at ((hb1.block w.heap.size (by simp)).trans (heap_alloc_new w (⟨2, 1, 1, 0⟩ : Cfg).obj))
  have c7 := cell_of_block hg1 7
  have c8 := cell_of_block hg1 8
  have c10 := cell_of_block hg1 10
  have c11 := cell_of_block hg1 11
  have f7 := frozen_of_block hg1 7
  have f8 := frozen_of_block hg1 8
  have f10 := frozen_of_block hg1 10
  have f11 := frozen_of_block hg1 11
  simp only [List.map_cons, List.map_nil, List.getElem?_toArray, List.getElem?_cons_succ, List.getElem?_cons_zero] at c7 c8 c10 c11
  clear hb1 hg hg1 hle HB0
  go_wp2_with fail
  obtain ⟨W2, hW2⟩ : ∃ W, W = (((w1.setCell ⟨gb, 7, none⟩ (.int .u64 2)).setCell ⟨gb, 8, none⟩ (.int .u64 3)).setCell ⟨gb, 10, none⟩ (.int .u64 4)).setCell ⟨gb, 11, none⟩ (.int .u64 0) := ⟨_, rfl⟩
  rw [← hW2]
  have hg2 : W2.heap[gb]? = some (wordsObj awk29) := by
    rw [hW2]
    exact words_set (words_set (words_set (words_set HG.out 7 2) 8 3) 10 4) 11 0
  have hb2 : Below w.heap.size w W2 := by
    rw [hW2]
    exact (((HB1.out.setCell (p := ⟨gb, 7, none⟩) (by dsimp only; omega) _).setCell (p := ⟨gb, 8, none⟩) (by dsimp only; omega) _).setCell (p := ⟨gb, 10, none⟩) (by dsimp only; omega) _).setCell (p := ⟨gb, 11, none⟩) (by dsimp only; omega) _
  have hwd : Words W2 W2.heap.size (some ⟨gb, 0, none⟩) awk29 := ⟨by decide, fun _ => ⟨_, rfl, block_lt hg2, fun j hj => by
    have hz : (⟨gb, 0, none⟩ : Addr).add j = ⟨gb, j, none⟩ := by unfold Addr.add; split <;> simp_all
    rw [hz]
    exact words_cell hg2 j hj⟩⟩
  have hwr := write_ok W2 W2.heap.size ⟨2, 1, 1, 0⟩ (some ⟨gb, 0, none⟩) awk29 13 1 9 (by decide) (by decide) (Nat.le_refl _) hwd (by unfold wok; decide) (by unfold wok; decide) (HT.out.below (Nat.le_refl _) hb2)
  rw [awk29_text] at hwr
  have HWR := Lib.hid hwr
  have HB2 := Lib.hid hb2
  clear hW2 hg2 hb2 hwd hwr c7 c8 c10 c11 f7 f8 f10 f11 q0 q1 q2 q3 HG
  refine (HWR.out).mono ?_
  rintro e w3 ⟨rfl, hb3⟩
  have HB3 : Hid (Below w.heap.size w w3) := HB2.out.trans (hb3.mono HB2.out.size)
  clear hb3
  go_wp2_with fail
  go_ret
  exact ⟨rfl, HB3.out⟩
end Go.Proofs.YtipoklnoknkfhaaDoor

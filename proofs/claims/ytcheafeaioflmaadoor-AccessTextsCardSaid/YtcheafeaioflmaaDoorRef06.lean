/- The document's text of an access. -/
import Derived.Test.YtcheafeaioflmaaDoorAccRight
import Derived.Test.YtcheafeaioflmaaDoorWordParse
import Derived.Deep.RegionHeld3
namespace Go.Proofs.YtcheafeaioflmaaDoor
open Go Go.RowKit
set_option linter.unusedSimpArgs false
set_option linter.unusedVariables false

set_option maxHeartbeats 4000000 in
set_option maxRecDepth 100000 in
theorem r6_n (w : World) (c : Cfg) (a : Acc) (hf : a.Fits) (hn : c.name a.at_ = ⟨#[]⟩) :
    Calls Tryd.prog 16 #[c.v, a.v] w fun e w' => e = .returned (.string (a.text c)) ∧ Below w.heap.size w w' := by
  have HF := Lib.hid hf
  have HB0 : Hid (Below w.heap.size w ((w.alloc c.obj).alloc a.obj)) := ((Below.refl _ _).alloc (Nat.le_refl _) _).alloc (by simp) _
  obtain ⟨g0, g1⟩ := two_new w c.obj a.obj
  have HX0 := Lib.hid g1
  obtain ⟨c0, c1, c2, c3⟩ := Cfg.cells_at g0
  obtain ⟨x0, x1, x2, x3, x4, _⟩ := acc_cells g1
  have HC := Lib.hid (rname_any ((w.alloc c.obj).alloc a.obj) c a.at_)
  clear hf g0 g1
  have HT : Hid (a.text c = ⟨#[]⟩) := acc_text_not (fun h => h.1 hn)
  have nm1 := strT hn
  have nm2 := empT hn
  rw [HT.out]
  clear hn
  generalize c.name a.at_ = nm at *
  go_enter Tryd.func16, Tryd.ntmps16
  go_wp2_with fail
  refine HC.out.mono ?_
  rintro e w1 ⟨rfl, hb⟩
  have HB1 : Hid (Below w.heap.size w w1) := HB0.out.trans (hb.mono HB0.out.size)
  have HX1 : Hid (w1.heap[w.heap.size + 1]? = some a.obj) := (hb.block _ (by simp)).trans HX0.out
  clear x0 x1 x2 x3 x4 c0 c1 c2 c3 hb
  obtain ⟨x0, x1, x2, x3, x4, _⟩ := acc_cells HX1.out
  go_wp2_with fail
  go_ret
  exact ⟨rfl, HB1.out⟩
set_option maxHeartbeats 4000000 in
set_option maxRecDepth 100000 in
theorem r6_1x (w : World) (c : Cfg) (a : Acc) (hf : a.Fits) (hn : c.name a.at_ ≠ ⟨#[]⟩) (hk : a.kind = 1 ∧ ¬ a.x = 0) :
    Calls Tryd.prog 16 #[c.v, a.v] w fun e w' => e = .returned (.string (a.text c)) ∧ Below w.heap.size w w' := by
  have HF := Lib.hid hf
  have HB0 : Hid (Below w.heap.size w ((w.alloc c.obj).alloc a.obj)) := ((Below.refl _ _).alloc (Nat.le_refl _) _).alloc (by simp) _
  obtain ⟨g0, g1⟩ := two_new w c.obj a.obj
  have HX0 := Lib.hid g1
  obtain ⟨c0, c1, c2, c3⟩ := Cfg.cells_at g0
  obtain ⟨x0, x1, x2, x3, x4, _⟩ := acc_cells g1
  have HC := Lib.hid (rname_any ((w.alloc c.obj).alloc a.obj) c a.at_)
  clear hf g0 g1
  have k1_t : (a.kind == 1) = true := by simp; omega
  have x_f : (a.x == 0) = false := by simp; omega
  have HT : Hid (a.text c = ⟨#[]⟩) := acc_text_not (fun h => by rcases h.2 with h | h | h <;> omega)
  have nm1 := strF hn
  have nm2 := empF hn
  rw [HT.out]
  clear hn hk
  generalize c.name a.at_ = nm at *
  go_enter Tryd.func16, Tryd.ntmps16
  go_wp2_with fail
  refine HC.out.mono ?_
  rintro e w1 ⟨rfl, hb⟩
  have HB1 : Hid (Below w.heap.size w w1) := HB0.out.trans (hb.mono HB0.out.size)
  have HX1 : Hid (w1.heap[w.heap.size + 1]? = some a.obj) := (hb.block _ (by simp)).trans HX0.out
  clear x0 x1 x2 x3 x4 c0 c1 c2 c3 hb
  obtain ⟨x0, x1, x2, x3, x4, _⟩ := acc_cells HX1.out
  go_wp2_with fail
  refine (reftext_any _ a.old HF.out.o.1 HF.out.o.2).mono ?_
  rintro e w2 ⟨rfl, hb⟩
  have HB2 : Hid (Below w.heap.size w w2) := HB1.out.trans (hb.mono HB1.out.size)
  have HX2 : Hid (w2.heap[w.heap.size + 1]? = some a.obj) := (hb.block _ (block_lt HX1.out)).trans HX1.out
  have hsw := awt_size a.old HF.out.o.1 HF.out.o.2
  obtain ⟨tw, htw⟩ : ∃ s, s = wtext a.old := ⟨_, rfl⟩
  rw [← htw] at hsw ⊢
  have HTw := Lib.hid htw
  clear htw
  clear x0 x1 x2 x3 x4 hb
  obtain ⟨x0, x1, x2, x3, x4, _⟩ := acc_cells HX2.out
  have hz : ¬ 9223372036854775807 < 5 + tw.size := by omega
  go_wp2_with fail
  go_ret
  exact ⟨rfl, HB2.out⟩
set_option maxHeartbeats 4000000 in
set_option maxRecDepth 100000 in
theorem r6_1y (w : World) (c : Cfg) (a : Acc) (hf : a.Fits) (hn : c.name a.at_ ≠ ⟨#[]⟩) (hk : a.kind = 1 ∧ a.x = 0 ∧ ¬ a.y = 0) :
    Calls Tryd.prog 16 #[c.v, a.v] w fun e w' => e = .returned (.string (a.text c)) ∧ Below w.heap.size w w' := by
  have HF := Lib.hid hf
  have HB0 : Hid (Below w.heap.size w ((w.alloc c.obj).alloc a.obj)) := ((Below.refl _ _).alloc (Nat.le_refl _) _).alloc (by simp) _
  obtain ⟨g0, g1⟩ := two_new w c.obj a.obj
  have HX0 := Lib.hid g1
  obtain ⟨c0, c1, c2, c3⟩ := Cfg.cells_at g0
  obtain ⟨x0, x1, x2, x3, x4, _⟩ := acc_cells g1
  have HC := Lib.hid (rname_any ((w.alloc c.obj).alloc a.obj) c a.at_)
  clear hf g0 g1
  have k1_t : (a.kind == 1) = true := by simp; omega
  have x_t : (a.x == 0) = true := by simp; omega
  have y_f : (a.y == 0) = false := by simp; omega
  have HT : Hid (a.text c = ⟨#[]⟩) := acc_text_not (fun h => by rcases h.2 with h | h | h <;> omega)
  have nm1 := strF hn
  have nm2 := empF hn
  rw [HT.out]
  clear hn hk
  generalize c.name a.at_ = nm at *
  go_enter Tryd.func16, Tryd.ntmps16
  go_wp2_with fail
  refine HC.out.mono ?_
  rintro e w1 ⟨rfl, hb⟩
  have HB1 : Hid (Below w.heap.size w w1) := HB0.out.trans (hb.mono HB0.out.size)
  have HX1 : Hid (w1.heap[w.heap.size + 1]? = some a.obj) := (hb.block _ (by simp)).trans HX0.out
  clear x0 x1 x2 x3 x4 c0 c1 c2 c3 hb
  obtain ⟨x0, x1, x2, x3, x4, _⟩ := acc_cells HX1.out
  go_wp2_with fail
  refine (reftext_any _ a.old HF.out.o.1 HF.out.o.2).mono ?_
  rintro e w2 ⟨rfl, hb⟩
  have HB2 : Hid (Below w.heap.size w w2) := HB1.out.trans (hb.mono HB1.out.size)
  have HX2 : Hid (w2.heap[w.heap.size + 1]? = some a.obj) := (hb.block _ (block_lt HX1.out)).trans HX1.out
  have hsw := awt_size a.old HF.out.o.1 HF.out.o.2
  obtain ⟨tw, htw⟩ : ∃ s, s = wtext a.old := ⟨_, rfl⟩
  rw [← htw] at hsw ⊢
  have HTw := Lib.hid htw
  clear htw
  clear x0 x1 x2 x3 x4 hb
  obtain ⟨x0, x1, x2, x3, x4, _⟩ := acc_cells HX2.out
  have hz : ¬ 9223372036854775807 < 5 + tw.size := by omega
  go_wp2_with fail
  go_ret
  exact ⟨rfl, HB2.out⟩
set_option maxHeartbeats 4000000 in
set_option maxRecDepth 100000 in
theorem r6_2y (w : World) (c : Cfg) (a : Acc) (hf : a.Fits) (hn : c.name a.at_ ≠ ⟨#[]⟩) (hk : a.kind = 2 ∧ ¬ a.y = 0) :
    Calls Tryd.prog 16 #[c.v, a.v] w fun e w' => e = .returned (.string (a.text c)) ∧ Below w.heap.size w w' := by
  have HF := Lib.hid hf
  have HB0 : Hid (Below w.heap.size w ((w.alloc c.obj).alloc a.obj)) := ((Below.refl _ _).alloc (Nat.le_refl _) _).alloc (by simp) _
  obtain ⟨g0, g1⟩ := two_new w c.obj a.obj
  have HX0 := Lib.hid g1
  obtain ⟨c0, c1, c2, c3⟩ := Cfg.cells_at g0
  obtain ⟨x0, x1, x2, x3, x4, _⟩ := acc_cells g1
  have HC := Lib.hid (rname_any ((w.alloc c.obj).alloc a.obj) c a.at_)
  clear hf g0 g1
  have k1_f : (a.kind == 1) = false := by simp; omega
  have k2_t : (a.kind == 2) = true := by simp; omega
  have y_f : (a.y == 0) = false := by simp; omega
  have HT : Hid (a.text c = ⟨#[]⟩) := acc_text_not (fun h => by rcases h.2 with h | h | h <;> omega)
  have nm1 := strF hn
  have nm2 := empF hn
  rw [HT.out]
  clear hn hk
  generalize c.name a.at_ = nm at *
  go_enter Tryd.func16, Tryd.ntmps16
  go_wp2_with fail
  refine HC.out.mono ?_
  rintro e w1 ⟨rfl, hb⟩
  have HB1 : Hid (Below w.heap.size w w1) := HB0.out.trans (hb.mono HB0.out.size)
  have HX1 : Hid (w1.heap[w.heap.size + 1]? = some a.obj) := (hb.block _ (by simp)).trans HX0.out
  clear x0 x1 x2 x3 x4 c0 c1 c2 c3 hb
  obtain ⟨x0, x1, x2, x3, x4, _⟩ := acc_cells HX1.out
  go_wp2_with fail
  refine (reftext_any _ a.old HF.out.o.1 HF.out.o.2).mono ?_
  rintro e w2 ⟨rfl, hb⟩
  have HB2 : Hid (Below w.heap.size w w2) := HB1.out.trans (hb.mono HB1.out.size)
  have HX2 : Hid (w2.heap[w.heap.size + 1]? = some a.obj) := (hb.block _ (block_lt HX1.out)).trans HX1.out
  have hsw := awt_size a.old HF.out.o.1 HF.out.o.2
  obtain ⟨tw, htw⟩ : ∃ s, s = wtext a.old := ⟨_, rfl⟩
  rw [← htw] at hsw ⊢
  have HTw := Lib.hid htw
  clear htw
  clear x0 x1 x2 x3 x4 hb
  obtain ⟨x0, x1, x2, x3, x4, _⟩ := acc_cells HX2.out
  have hz : ¬ 9223372036854775807 < 5 + tw.size := by omega
  go_wp2_with fail
  go_ret
  exact ⟨rfl, HB2.out⟩
set_option maxHeartbeats 4000000 in
set_option maxRecDepth 100000 in
theorem r6_4y (w : World) (c : Cfg) (a : Acc) (hf : a.Fits) (hn : c.name a.at_ ≠ ⟨#[]⟩) (hk : a.kind = 4 ∧ ¬ a.y = 0) :
    Calls Tryd.prog 16 #[c.v, a.v] w fun e w' => e = .returned (.string (a.text c)) ∧ Below w.heap.size w w' := by
  have HF := Lib.hid hf
  have HB0 : Hid (Below w.heap.size w ((w.alloc c.obj).alloc a.obj)) := ((Below.refl _ _).alloc (Nat.le_refl _) _).alloc (by simp) _
  obtain ⟨g0, g1⟩ := two_new w c.obj a.obj
  have HX0 := Lib.hid g1
  obtain ⟨c0, c1, c2, c3⟩ := Cfg.cells_at g0
  obtain ⟨x0, x1, x2, x3, x4, _⟩ := acc_cells g1
  have HC := Lib.hid (rname_any ((w.alloc c.obj).alloc a.obj) c a.at_)
  clear hf g0 g1
  have k1_f : (a.kind == 1) = false := by simp; omega
  have k2_f : (a.kind == 2) = false := by simp; omega
  have k3_f : (a.kind == 3) = false := by simp; omega
  have k4_t : (a.kind == 4) = true := by simp; omega
  have y_f : (a.y == 0) = false := by simp; omega
  have HT : Hid (a.text c = ⟨#[]⟩) := acc_text_not (fun h => by rcases h.2 with h | h | h <;> omega)
  have nm1 := strF hn
  have nm2 := empF hn
  rw [HT.out]
  clear hn hk
  generalize c.name a.at_ = nm at *
  go_enter Tryd.func16, Tryd.ntmps16
  go_wp2_with fail
  refine HC.out.mono ?_
  rintro e w1 ⟨rfl, hb⟩
  have HB1 : Hid (Below w.heap.size w w1) := HB0.out.trans (hb.mono HB0.out.size)
  have HX1 : Hid (w1.heap[w.heap.size + 1]? = some a.obj) := (hb.block _ (by simp)).trans HX0.out
  clear x0 x1 x2 x3 x4 c0 c1 c2 c3 hb
  obtain ⟨x0, x1, x2, x3, x4, _⟩ := acc_cells HX1.out
  go_wp2_with fail
  refine (reftext_any _ a.old HF.out.o.1 HF.out.o.2).mono ?_
  rintro e w2 ⟨rfl, hb⟩
  have HB2 : Hid (Below w.heap.size w w2) := HB1.out.trans (hb.mono HB1.out.size)
  have HX2 : Hid (w2.heap[w.heap.size + 1]? = some a.obj) := (hb.block _ (block_lt HX1.out)).trans HX1.out
  have hsw := awt_size a.old HF.out.o.1 HF.out.o.2
  obtain ⟨tw, htw⟩ : ∃ s, s = wtext a.old := ⟨_, rfl⟩
  rw [← htw] at hsw ⊢
  have HTw := Lib.hid htw
  clear htw
  clear x0 x1 x2 x3 x4 hb
  obtain ⟨x0, x1, x2, x3, x4, _⟩ := acc_cells HX2.out
  have hz : ¬ 9223372036854775807 < 5 + tw.size := by omega
  go_wp2_with fail
  go_ret
  exact ⟨rfl, HB2.out⟩
set_option maxHeartbeats 4000000 in
set_option maxRecDepth 100000 in
theorem r6_o (w : World) (c : Cfg) (a : Acc) (hf : a.Fits) (hn : c.name a.at_ ≠ ⟨#[]⟩) (hk : a.kind < 1 ∨ 4 < a.kind) :
    Calls Tryd.prog 16 #[c.v, a.v] w fun e w' => e = .returned (.string (a.text c)) ∧ Below w.heap.size w w' := by
  have HF := Lib.hid hf
  have HB0 : Hid (Below w.heap.size w ((w.alloc c.obj).alloc a.obj)) := ((Below.refl _ _).alloc (Nat.le_refl _) _).alloc (by simp) _
  obtain ⟨g0, g1⟩ := two_new w c.obj a.obj
  have HX0 := Lib.hid g1
  obtain ⟨c0, c1, c2, c3⟩ := Cfg.cells_at g0
  obtain ⟨x0, x1, x2, x3, x4, _⟩ := acc_cells g1
  have HC := Lib.hid (rname_any ((w.alloc c.obj).alloc a.obj) c a.at_)
  clear hf g0 g1
  have k1_f : (a.kind == 1) = false := by simp; omega
  have k2_f : (a.kind == 2) = false := by simp; omega
  have k3_f : (a.kind == 3) = false := by simp; omega
  have k4_f : (a.kind == 4) = false := by simp; omega
  have HT : Hid (a.text c = ⟨#[]⟩) := acc_text_not (fun h => by rcases h.2 with h | h | h <;> omega)
  have nm1 := strF hn
  have nm2 := empF hn
  rw [HT.out]
  clear hn hk
  generalize c.name a.at_ = nm at *
  go_enter Tryd.func16, Tryd.ntmps16
  go_wp2_with fail
  refine HC.out.mono ?_
  rintro e w1 ⟨rfl, hb⟩
  have HB1 : Hid (Below w.heap.size w w1) := HB0.out.trans (hb.mono HB0.out.size)
  have HX1 : Hid (w1.heap[w.heap.size + 1]? = some a.obj) := (hb.block _ (by simp)).trans HX0.out
  clear x0 x1 x2 x3 x4 c0 c1 c2 c3 hb
  obtain ⟨x0, x1, x2, x3, x4, _⟩ := acc_cells HX1.out
  go_wp2_with fail
  refine (reftext_any _ a.old HF.out.o.1 HF.out.o.2).mono ?_
  rintro e w2 ⟨rfl, hb⟩
  have HB2 : Hid (Below w.heap.size w w2) := HB1.out.trans (hb.mono HB1.out.size)
  have HX2 : Hid (w2.heap[w.heap.size + 1]? = some a.obj) := (hb.block _ (block_lt HX1.out)).trans HX1.out
  have hsw := awt_size a.old HF.out.o.1 HF.out.o.2
  obtain ⟨tw, htw⟩ : ∃ s, s = wtext a.old := ⟨_, rfl⟩
  rw [← htw] at hsw ⊢
  have HTw := Lib.hid htw
  clear htw
  clear x0 x1 x2 x3 x4 hb
  obtain ⟨x0, x1, x2, x3, x4, _⟩ := acc_cells HX2.out
  have hz : ¬ 9223372036854775807 < 5 + tw.size := by omega
  go_wp2_with fail
  go_ret
  exact ⟨rfl, HB2.out⟩
set_option maxHeartbeats 4000000 in
set_option maxRecDepth 100000 in
theorem r6_1 (w : World) (c : Cfg) (a : Acc) (hf : a.Fits) (hn : c.name a.at_ ≠ ⟨#[]⟩) (hk : a.kind = 1 ∧ a.x = 0 ∧ a.y = 0) :
    Calls Tryd.prog 16 #[c.v, a.v] w fun e w' => e = .returned (.string (a.text c)) ∧ Below w.heap.size w w' := by
  have HF := Lib.hid hf
  have HB0 : Hid (Below w.heap.size w ((w.alloc c.obj).alloc a.obj)) := ((Below.refl _ _).alloc (Nat.le_refl _) _).alloc (by simp) _
  obtain ⟨g0, g1⟩ := two_new w c.obj a.obj
  have HX0 := Lib.hid g1
  obtain ⟨c0, c1, c2, c3⟩ := Cfg.cells_at g0
  obtain ⟨x0, x1, x2, x3, x4, _⟩ := acc_cells g1
  have HC := Lib.hid (rname_any ((w.alloc c.obj).alloc a.obj) c a.at_)
  clear hf g0 g1
  have k1_t : (a.kind == 1) = true := by simp; omega
  have x_t : (a.x == 0) = true := by simp; omega
  have y_t : (a.y == 0) = true := by simp; omega
  have hr : a.right c := ⟨hn, by omega⟩
  have HT : Hid (a.text c = ⟨(jbytes spB ((⟨#[108, 111, 97, 100]⟩ : ByteArray) :: c.name a.at_ :: ([] ++ [wasB, wtext a.old]))).toArray⟩) := by
    unfold Hid Acc.text Acc.texts Acc.args
    rw [if_pos hr, show accWord a.kind = (⟨#[108, 111, 97, 100]⟩ : ByteArray) by rw [show a.kind = 1 by omega]; rfl]
    rw [if_pos (by omega)]
  have nm1 := strF hn
  have nm2 := empF hn
  have hns := acc_name_size hr
  rw [HT.out]
  clear hn hk hr HT
  generalize c.name a.at_ = nm at *
  go_enter Tryd.func16, Tryd.ntmps16
  go_wp2_with fail
  refine HC.out.mono ?_
  rintro e w1 ⟨rfl, hb⟩
  have HB1 : Hid (Below w.heap.size w w1) := HB0.out.trans (hb.mono HB0.out.size)
  have HX1 : Hid (w1.heap[w.heap.size + 1]? = some a.obj) := (hb.block _ (by simp)).trans HX0.out
  clear x0 x1 x2 x3 x4 c0 c1 c2 c3 hb
  obtain ⟨x0, x1, x2, x3, x4, _⟩ := acc_cells HX1.out
  go_wp2_with fail
  refine (reftext_any _ a.old HF.out.o.1 HF.out.o.2).mono ?_
  rintro e w2 ⟨rfl, hb⟩
  have HB2 : Hid (Below w.heap.size w w2) := HB1.out.trans (hb.mono HB1.out.size)
  have HX2 : Hid (w2.heap[w.heap.size + 1]? = some a.obj) := (hb.block _ (block_lt HX1.out)).trans HX1.out
  have hsw := awt_size a.old HF.out.o.1 HF.out.o.2
  obtain ⟨tw, htw⟩ : ∃ s, s = wtext a.old := ⟨_, rfl⟩
  rw [← htw] at hsw ⊢
  have HTw := Lib.hid htw
  clear htw
  clear x0 x1 x2 x3 x4 hb
  obtain ⟨x0, x1, x2, x3, x4, _⟩ := acc_cells HX2.out
  have hz : ¬ 9223372036854775807 < 5 + tw.size := by omega
  have hz2 : ¬ 9223372036854775807 < 5 + nm.size := by omega
  have hz3 : ¬ 9223372036854775807 < 5 + nm.size + (5 + tw.size) := by omega
  have HBE := HB2
  go_wp2_with fail
  go_ret
  exact ⟨ret_str (bytes_ext (by rw [HTw.out]; simp [jbytes, jrest, spB, wasB, ByteArray.data_append])), HBE.out⟩
set_option maxHeartbeats 4000000 in
set_option maxRecDepth 100000 in
theorem r6_2 (w : World) (c : Cfg) (a : Acc) (hf : a.Fits) (hn : c.name a.at_ ≠ ⟨#[]⟩) (hk : a.kind = 2 ∧ a.y = 0) :
    Calls Tryd.prog 16 #[c.v, a.v] w fun e w' => e = .returned (.string (a.text c)) ∧ Below w.heap.size w w' := by
  have HF := Lib.hid hf
  have HB0 : Hid (Below w.heap.size w ((w.alloc c.obj).alloc a.obj)) := ((Below.refl _ _).alloc (Nat.le_refl _) _).alloc (by simp) _
  obtain ⟨g0, g1⟩ := two_new w c.obj a.obj
  have HX0 := Lib.hid g1
  obtain ⟨c0, c1, c2, c3⟩ := Cfg.cells_at g0
  obtain ⟨x0, x1, x2, x3, x4, _⟩ := acc_cells g1
  have HC := Lib.hid (rname_any ((w.alloc c.obj).alloc a.obj) c a.at_)
  clear hf g0 g1
  have k1_f : (a.kind == 1) = false := by simp; omega
  have k2_t : (a.kind == 2) = true := by simp; omega
  have y_t : (a.y == 0) = true := by simp; omega
  have hr : a.right c := ⟨hn, by omega⟩
  have HT : Hid (a.text c = ⟨(jbytes spB ((⟨#[115, 116, 111, 114, 101]⟩ : ByteArray) :: c.name a.at_ :: ([wtext a.x] ++ [wasB, wtext a.old]))).toArray⟩) := by
    unfold Hid Acc.text Acc.texts Acc.args
    rw [if_pos hr, show accWord a.kind = (⟨#[115, 116, 111, 114, 101]⟩ : ByteArray) by rw [show a.kind = 2 by omega]; rfl]
    rw [if_neg (by omega), if_neg (by omega)]
  have nm1 := strF hn
  have nm2 := empF hn
  have hns := acc_name_size hr
  rw [HT.out]
  clear hn hk hr HT
  generalize c.name a.at_ = nm at *
  go_enter Tryd.func16, Tryd.ntmps16
  go_wp2_with fail
  refine HC.out.mono ?_
  rintro e w1 ⟨rfl, hb⟩
  have HB1 : Hid (Below w.heap.size w w1) := HB0.out.trans (hb.mono HB0.out.size)
  have HX1 : Hid (w1.heap[w.heap.size + 1]? = some a.obj) := (hb.block _ (by simp)).trans HX0.out
  clear x0 x1 x2 x3 x4 c0 c1 c2 c3 hb
  obtain ⟨x0, x1, x2, x3, x4, _⟩ := acc_cells HX1.out
  go_wp2_with fail
  refine (reftext_any _ a.old HF.out.o.1 HF.out.o.2).mono ?_
  rintro e w2 ⟨rfl, hb⟩
  have HB2 : Hid (Below w.heap.size w w2) := HB1.out.trans (hb.mono HB1.out.size)
  have HX2 : Hid (w2.heap[w.heap.size + 1]? = some a.obj) := (hb.block _ (block_lt HX1.out)).trans HX1.out
  have hsw := awt_size a.old HF.out.o.1 HF.out.o.2
  obtain ⟨tw, htw⟩ : ∃ s, s = wtext a.old := ⟨_, rfl⟩
  rw [← htw] at hsw ⊢
  have HTw := Lib.hid htw
  clear htw
  clear x0 x1 x2 x3 x4 hb
  obtain ⟨x0, x1, x2, x3, x4, _⟩ := acc_cells HX2.out
  have hz : ¬ 9223372036854775807 < 5 + tw.size := by omega
  have hz2 : ¬ 9223372036854775807 < 6 + nm.size := by omega
  have hz3 : ¬ 9223372036854775807 < 6 + nm.size + 1 := by omega
  go_wp2_with fail
  refine (reftext_any _ a.x HF.out.x.1 HF.out.x.2).mono ?_
  rintro e w3 ⟨rfl, hb⟩
  have HB3 : Hid (Below w.heap.size w w3) := HB2.out.trans (hb.mono HB2.out.size)
  have HX3 : Hid (w3.heap[w.heap.size + 1]? = some a.obj) := (hb.block _ (block_lt HX2.out)).trans HX2.out
  have hsx := awt_size a.x HF.out.x.1 HF.out.x.2
  obtain ⟨tx, htx⟩ : ∃ s, s = wtext a.x := ⟨_, rfl⟩
  rw [← htx] at hsx ⊢
  have HTx := Lib.hid htx
  clear htx
  clear x0 x1 x2 x3 x4 hb
  obtain ⟨x0, x1, x2, x3, x4, _⟩ := acc_cells HX3.out
  have hz4 : ¬ 9223372036854775807 < 6 + nm.size + 1 + tx.size := by omega
  have hz5 : ¬ 9223372036854775807 < 6 + nm.size + 1 + tx.size + (5 + tw.size) := by omega
  have HBE := HB3
  go_wp2_with fail
  go_ret
  exact ⟨ret_str (bytes_ext (by rw [HTw.out, HTx.out]; simp [jbytes, jrest, spB, wasB, ByteArray.data_append])), HBE.out⟩
set_option maxHeartbeats 4000000 in
set_option maxRecDepth 100000 in
theorem r6_4 (w : World) (c : Cfg) (a : Acc) (hf : a.Fits) (hn : c.name a.at_ ≠ ⟨#[]⟩) (hk : a.kind = 4 ∧ a.y = 0) :
    Calls Tryd.prog 16 #[c.v, a.v] w fun e w' => e = .returned (.string (a.text c)) ∧ Below w.heap.size w w' := by
  have HF := Lib.hid hf
  have HB0 : Hid (Below w.heap.size w ((w.alloc c.obj).alloc a.obj)) := ((Below.refl _ _).alloc (Nat.le_refl _) _).alloc (by simp) _
  obtain ⟨g0, g1⟩ := two_new w c.obj a.obj
  have HX0 := Lib.hid g1
  obtain ⟨c0, c1, c2, c3⟩ := Cfg.cells_at g0
  obtain ⟨x0, x1, x2, x3, x4, _⟩ := acc_cells g1
  have HC := Lib.hid (rname_any ((w.alloc c.obj).alloc a.obj) c a.at_)
  clear hf g0 g1
  have k1_f : (a.kind == 1) = false := by simp; omega
  have k2_f : (a.kind == 2) = false := by simp; omega
  have k3_f : (a.kind == 3) = false := by simp; omega
  have k4_t : (a.kind == 4) = true := by simp; omega
  have y_t : (a.y == 0) = true := by simp; omega
  have hr : a.right c := ⟨hn, by omega⟩
  have HT : Hid (a.text c = ⟨(jbytes spB ((⟨#[97, 100, 100]⟩ : ByteArray) :: c.name a.at_ :: ([wtext a.x] ++ [wasB, wtext a.old]))).toArray⟩) := by
    unfold Hid Acc.text Acc.texts Acc.args
    rw [if_pos hr, show accWord a.kind = (⟨#[97, 100, 100]⟩ : ByteArray) by rw [show a.kind = 4 by omega]; rfl]
    rw [if_neg (by omega), if_neg (by omega)]
  have nm1 := strF hn
  have nm2 := empF hn
  have hns := acc_name_size hr
  rw [HT.out]
  clear hn hk hr HT
  generalize c.name a.at_ = nm at *
  go_enter Tryd.func16, Tryd.ntmps16
  go_wp2_with fail
  refine HC.out.mono ?_
  rintro e w1 ⟨rfl, hb⟩
  have HB1 : Hid (Below w.heap.size w w1) := HB0.out.trans (hb.mono HB0.out.size)
  have HX1 : Hid (w1.heap[w.heap.size + 1]? = some a.obj) := (hb.block _ (by simp)).trans HX0.out
  clear x0 x1 x2 x3 x4 c0 c1 c2 c3 hb
  obtain ⟨x0, x1, x2, x3, x4, _⟩ := acc_cells HX1.out
  go_wp2_with fail
  refine (reftext_any _ a.old HF.out.o.1 HF.out.o.2).mono ?_
  rintro e w2 ⟨rfl, hb⟩
  have HB2 : Hid (Below w.heap.size w w2) := HB1.out.trans (hb.mono HB1.out.size)
  have HX2 : Hid (w2.heap[w.heap.size + 1]? = some a.obj) := (hb.block _ (block_lt HX1.out)).trans HX1.out
  have hsw := awt_size a.old HF.out.o.1 HF.out.o.2
  obtain ⟨tw, htw⟩ : ∃ s, s = wtext a.old := ⟨_, rfl⟩
  rw [← htw] at hsw ⊢
  have HTw := Lib.hid htw
  clear htw
  clear x0 x1 x2 x3 x4 hb
  obtain ⟨x0, x1, x2, x3, x4, _⟩ := acc_cells HX2.out
  have hz : ¬ 9223372036854775807 < 5 + tw.size := by omega
  have hz2 : ¬ 9223372036854775807 < 4 + nm.size := by omega
  have hz3 : ¬ 9223372036854775807 < 4 + nm.size + 1 := by omega
  go_wp2_with fail
  refine (reftext_any _ a.x HF.out.x.1 HF.out.x.2).mono ?_
  rintro e w3 ⟨rfl, hb⟩
  have HB3 : Hid (Below w.heap.size w w3) := HB2.out.trans (hb.mono HB2.out.size)
  have HX3 : Hid (w3.heap[w.heap.size + 1]? = some a.obj) := (hb.block _ (block_lt HX2.out)).trans HX2.out
  have hsx := awt_size a.x HF.out.x.1 HF.out.x.2
  obtain ⟨tx, htx⟩ : ∃ s, s = wtext a.x := ⟨_, rfl⟩
  rw [← htx] at hsx ⊢
  have HTx := Lib.hid htx
  clear htx
  clear x0 x1 x2 x3 x4 hb
  obtain ⟨x0, x1, x2, x3, x4, _⟩ := acc_cells HX3.out
  have hz4 : ¬ 9223372036854775807 < 4 + nm.size + 1 + tx.size := by omega
  have hz5 : ¬ 9223372036854775807 < 4 + nm.size + 1 + tx.size + (5 + tw.size) := by omega
  have HBE := HB3
  go_wp2_with fail
  go_ret
  exact ⟨ret_str (bytes_ext (by rw [HTw.out, HTx.out]; simp [jbytes, jrest, spB, wasB, ByteArray.data_append])), HBE.out⟩
set_option maxHeartbeats 4000000 in
set_option maxRecDepth 100000 in
theorem r6_3 (w : World) (c : Cfg) (a : Acc) (hf : a.Fits) (hn : c.name a.at_ ≠ ⟨#[]⟩) (hk : a.kind = 3) :
    Calls Tryd.prog 16 #[c.v, a.v] w fun e w' => e = .returned (.string (a.text c)) ∧ Below w.heap.size w w' := by
  have HF := Lib.hid hf
  have HB0 : Hid (Below w.heap.size w ((w.alloc c.obj).alloc a.obj)) := ((Below.refl _ _).alloc (Nat.le_refl _) _).alloc (by simp) _
  obtain ⟨g0, g1⟩ := two_new w c.obj a.obj
  have HX0 := Lib.hid g1
  obtain ⟨c0, c1, c2, c3⟩ := Cfg.cells_at g0
  obtain ⟨x0, x1, x2, x3, x4, _⟩ := acc_cells g1
  have HC := Lib.hid (rname_any ((w.alloc c.obj).alloc a.obj) c a.at_)
  clear hf g0 g1
  have k1_f : (a.kind == 1) = false := by simp; omega
  have k2_f : (a.kind == 2) = false := by simp; omega
  have k3_t : (a.kind == 3) = true := by simp; omega
  have hr : a.right c := ⟨hn, by omega⟩
  have HT : Hid (a.text c = ⟨(jbytes spB ((⟨#[99, 97, 115]⟩ : ByteArray) :: c.name a.at_ :: ([wtext a.x, wtext a.y] ++ [wasB, wtext a.old]))).toArray⟩) := by
    unfold Hid Acc.text Acc.texts Acc.args
    rw [if_pos hr, show accWord a.kind = (⟨#[99, 97, 115]⟩ : ByteArray) by rw [show a.kind = 3 by omega]; rfl]
    rw [if_neg (by omega), if_pos (by omega)]
  have nm1 := strF hn
  have nm2 := empF hn
  have hns := acc_name_size hr
  rw [HT.out]
  clear hn hk hr HT
  generalize c.name a.at_ = nm at *
  go_enter Tryd.func16, Tryd.ntmps16
  go_wp2_with fail
  refine HC.out.mono ?_
  rintro e w1 ⟨rfl, hb⟩
  have HB1 : Hid (Below w.heap.size w w1) := HB0.out.trans (hb.mono HB0.out.size)
  have HX1 : Hid (w1.heap[w.heap.size + 1]? = some a.obj) := (hb.block _ (by simp)).trans HX0.out
  clear x0 x1 x2 x3 x4 c0 c1 c2 c3 hb
  obtain ⟨x0, x1, x2, x3, x4, _⟩ := acc_cells HX1.out
  go_wp2_with fail
  refine (reftext_any _ a.old HF.out.o.1 HF.out.o.2).mono ?_
  rintro e w2 ⟨rfl, hb⟩
  have HB2 : Hid (Below w.heap.size w w2) := HB1.out.trans (hb.mono HB1.out.size)
  have HX2 : Hid (w2.heap[w.heap.size + 1]? = some a.obj) := (hb.block _ (block_lt HX1.out)).trans HX1.out
  have hsw := awt_size a.old HF.out.o.1 HF.out.o.2
  obtain ⟨tw, htw⟩ : ∃ s, s = wtext a.old := ⟨_, rfl⟩
  rw [← htw] at hsw ⊢
  have HTw := Lib.hid htw
  clear htw
  clear x0 x1 x2 x3 x4 hb
  obtain ⟨x0, x1, x2, x3, x4, _⟩ := acc_cells HX2.out
  have hz : ¬ 9223372036854775807 < 5 + tw.size := by omega
  have hsx := awt_size a.x HF.out.x.1 HF.out.x.2
  have hsy := awt_size a.y HF.out.y.1 HF.out.y.2
  have HCX := Lib.hid (fun W => reftext_any W a.x HF.out.x.1 HF.out.x.2)
  have HCY := Lib.hid (fun W => reftext_any W a.y HF.out.y.1 HF.out.y.2)
  obtain ⟨tx, htx⟩ : ∃ s, s = wtext a.x := ⟨_, rfl⟩
  obtain ⟨ty, hty⟩ : ∃ s, s = wtext a.y := ⟨_, rfl⟩
  rw [← htx] at hsx HCX
  rw [← hty] at hsy HCY
  have HTx := Lib.hid htx
  have HTy := Lib.hid hty
  clear htx hty
  have hz2 : ¬ 9223372036854775807 < 4 + nm.size := by omega
  have hz3 : ¬ 9223372036854775807 < 4 + nm.size + 1 := by omega
  have hz4 : ¬ 9223372036854775807 < 4 + nm.size + 1 + tx.size := by omega
  have hz5 : ¬ 9223372036854775807 < 4 + nm.size + 1 + tx.size + 1 := by omega
  have hz6 : ¬ 9223372036854775807 < 4 + nm.size + 1 + tx.size + 1 + ty.size := by omega
  have hz7 : ¬ 9223372036854775807 < 4 + nm.size + 1 + tx.size + 1 + ty.size + (5 + tw.size) := by omega
  have HALL : Hid (∀ W, Below w2.heap.size w2 W → W.cell? ⟨w.heap.size + 1, 2, none⟩ = some (.int .u64 a.x) ∧ W.cell? ⟨w.heap.size + 1, 3, none⟩ = some (.int .u64 a.y) ∧ Below w2.heap.size w2 W) := fun W hB => by
    obtain ⟨f0, f1, f2, f3, f4, _⟩ := acc_cells ((hB.block _ (block_lt HX2.out)).trans HX2.out)
    exact ⟨f2, f3, hB⟩
  go_wp2_with fail
  go_region_held3 (fun W => W.cell? ⟨w.heap.size + 1, 2, none⟩ = some (.int .u64 a.x) ∧ W.cell? ⟨w.heap.size + 1, 3, none⟩ = some (.int .u64 a.y) ∧ Below w2.heap.size w2 W)
    (first | exact HALL.out _ (Below.refl _ _) | exact HALL.out _ (Below.refl _ _).drew | (go_split_ands; exact HALL.out _ (Below.trans (by assumption) (hb2.mono (Below.size (by assumption))))) | fail)
    (first | (go_at_call_of 72 (Value.int IntKind.u64 a.x); refine (HCX.out _).mono ?_; rintro e wq ⟨rfl, hb2⟩) | (go_at_call_of 72 (Value.int IntKind.u64 a.y); refine (HCY.out _).mono ?_; rintro e wq ⟨rfl, hb2⟩))
  all_goals
   go_wp2_with fail
   go_ret
   go_split_ands
   exact ⟨ret_str (bytes_ext (by rw [HTw.out, HTx.out, HTy.out]; simp [jbytes, jrest, spB, wasB, ByteArray.data_append])), HB2.out.trans (Below.mono (by assumption) HB2.out.size)⟩
theorem r6_any (w : World) (c : Cfg) (a : Acc) (hf : a.Fits) :
    Calls Tryd.prog 16 #[c.v, a.v] w fun e w' => e = .returned (.string (a.text c)) ∧ Below w.heap.size w w' := by
  by_cases hn : c.name a.at_ = ⟨#[]⟩
  · exact r6_n w c a hf hn
  by_cases h1 : a.kind = 1
  · by_cases hx : a.x = 0
    · by_cases hy : a.y = 0
      · exact r6_1 w c a hf hn ⟨h1, hx, hy⟩
      · exact r6_1y w c a hf hn ⟨h1, hx, hy⟩
    · exact r6_1x w c a hf hn ⟨h1, hx⟩
  by_cases h2 : a.kind = 2
  · by_cases hy : a.y = 0
    · exact r6_2 w c a hf hn ⟨h2, hy⟩
    · exact r6_2y w c a hf hn ⟨h2, hy⟩
  by_cases h3 : a.kind = 3
  · exact r6_3 w c a hf hn h3
  by_cases h4 : a.kind = 4
  · by_cases hy : a.y = 0
    · exact r6_4 w c a hf hn ⟨h4, hy⟩
    · exact r6_4y w c a hf hn ⟨h4, hy⟩
  exact r6_o w c a hf hn (by omega)
end Go.Proofs.YtcheafeaioflmaaDoor

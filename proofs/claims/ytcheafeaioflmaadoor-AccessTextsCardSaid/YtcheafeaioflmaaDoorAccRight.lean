/- access.Right, access.Changes: what they tell of any access. -/
import Derived.Test.YtcheafeaioflmaaDoorAccPure
import Derived.Test.YtcheafeaioflmaaDoorStrEq
namespace Go.Proofs.YtcheafeaioflmaaDoor
open Go Go.RowKit
set_option linter.unusedSimpArgs false
set_option linter.unusedVariables false

theorem two_new (w : World) (o p : Obj) : ((w.alloc o).alloc p).heap[w.heap.size]? = some o ∧ ((w.alloc o).alloc p).heap[w.heap.size + 1]? = some p := by
  refine ⟨?_, ?_⟩
  · rw [heap_alloc_old _ _ (by simp)]
    exact heap_alloc_new w o
  · have := heap_alloc_new (w.alloc o) p
    simpa using this
set_option maxHeartbeats 4000000 in
theorem aright_n (w : World) (c : Cfg) (a : Acc) (ht : Tens w) (hn : c.name a.at_ = ⟨#[]⟩) :
    Calls Tryd.prog 18 #[c.v, a.v] w fun e w' => e = .returned (.bool false) ∧ Below w.heap.size w w' := by
  have HB0 : Hid (Below w.heap.size w ((w.alloc c.mobj).alloc a.obj)) := ((Below.refl _ _).alloc (Nat.le_refl _) _).alloc (by simp) _
  obtain ⟨g0, g1⟩ := two_new w c.mobj a.obj
  have HX := Lib.hid g1
  obtain ⟨c0, c1, c2, c3⟩ := Cfg.mcells_at g0
  obtain ⟨x0, x1, x2, x3, x4, _⟩ := acc_cells g1
  have nm1 : ((c.name a.at_).toList == (⟨#[]⟩ : ByteArray).toList) = true := strT hn
  have nm2 : (c.name a.at_).toList.isEmpty = true := by exact empT hn
  have HC := Lib.hid (pname_any ((w.alloc c.mobj).alloc a.obj) c a.at_ (ht.below (Nat.le_refl _) HB0.out))
  clear hn g0 g1 ht
  generalize c.name a.at_ = nm at *
  go_enter Tryd.func18, Tryd.ntmps18
  go_wp2_with fail
  refine HC.out.mono ?_
  rintro e w1 ⟨rfl, hb⟩
  have HB1 : Hid (Below w.heap.size w w1) := HB0.out.trans (hb.mono HB0.out.size)
  have HX1 : w1.heap[w.heap.size + 1]? = some a.obj := (hb.block _ (by simp)).trans HX.out
  clear x0 x1 x2 x3 x4 c0 c1 c2 c3 hb
  obtain ⟨x0, x1, x2, x3, x4, _⟩ := acc_cells HX1
  clear HX1
  go_wp2_with fail
  go_ret
  exact ⟨by first | rfl | simp_all, by repeat (first | exact HB1.out | refine Below.drew ?_)⟩
set_option maxHeartbeats 4000000 in
theorem aright_1y (w : World) (c : Cfg) (a : Acc) (ht : Tens w) (hn : c.name a.at_ ≠ ⟨#[]⟩) (hk : a.kind = 1) (hx : a.x = 0) :
    Calls Tryd.prog 18 #[c.v, a.v] w fun e w' => e = .returned (.bool (decide (a.y = 0))) ∧ Below w.heap.size w w' := by
  have HB0 : Hid (Below w.heap.size w ((w.alloc c.mobj).alloc a.obj)) := ((Below.refl _ _).alloc (Nat.le_refl _) _).alloc (by simp) _
  obtain ⟨g0, g1⟩ := two_new w c.mobj a.obj
  have HX := Lib.hid g1
  obtain ⟨c0, c1, c2, c3⟩ := Cfg.mcells_at g0
  obtain ⟨x0, x1, x2, x3, x4, _⟩ := acc_cells g1
  have k1_t : (a.kind == 1) = true := by simpa using hk
  have x_t : (a.x == 0) = true := by simpa using hx
  have nm1 : ((c.name a.at_).toList == (⟨#[]⟩ : ByteArray).toList) = false := strF hn
  have nm2 : (c.name a.at_).toList.isEmpty = false := by exact empF hn
  have HC := Lib.hid (pname_any ((w.alloc c.mobj).alloc a.obj) c a.at_ (ht.below (Nat.le_refl _) HB0.out))
  clear hn hk hx g0 g1 ht
  generalize c.name a.at_ = nm at *
  go_enter Tryd.func18, Tryd.ntmps18
  go_wp2_with fail
  refine HC.out.mono ?_
  rintro e w1 ⟨rfl, hb⟩
  have HB1 : Hid (Below w.heap.size w w1) := HB0.out.trans (hb.mono HB0.out.size)
  have HX1 : w1.heap[w.heap.size + 1]? = some a.obj := (hb.block _ (by simp)).trans HX.out
  clear x0 x1 x2 x3 x4 c0 c1 c2 c3 hb
  obtain ⟨x0, x1, x2, x3, x4, _⟩ := acc_cells HX1
  clear HX1
  go_wp2_with fail
  go_ret
  exact ⟨by first | rfl | simp_all, by repeat (first | exact HB1.out | refine Below.drew ?_)⟩
set_option maxHeartbeats 4000000 in
theorem aright_1n (w : World) (c : Cfg) (a : Acc) (ht : Tens w) (hn : c.name a.at_ ≠ ⟨#[]⟩) (hk : a.kind = 1) (hx : ¬ a.x = 0) :
    Calls Tryd.prog 18 #[c.v, a.v] w fun e w' => e = .returned (.bool false) ∧ Below w.heap.size w w' := by
  have HB0 : Hid (Below w.heap.size w ((w.alloc c.mobj).alloc a.obj)) := ((Below.refl _ _).alloc (Nat.le_refl _) _).alloc (by simp) _
  obtain ⟨g0, g1⟩ := two_new w c.mobj a.obj
  have HX := Lib.hid g1
  obtain ⟨c0, c1, c2, c3⟩ := Cfg.mcells_at g0
  obtain ⟨x0, x1, x2, x3, x4, _⟩ := acc_cells g1
  have k1_t : (a.kind == 1) = true := by simpa using hk
  have x_f : (a.x == 0) = false := by simpa using hx
  have nm1 : ((c.name a.at_).toList == (⟨#[]⟩ : ByteArray).toList) = false := strF hn
  have nm2 : (c.name a.at_).toList.isEmpty = false := by exact empF hn
  have HC := Lib.hid (pname_any ((w.alloc c.mobj).alloc a.obj) c a.at_ (ht.below (Nat.le_refl _) HB0.out))
  clear hn hk hx g0 g1 ht
  generalize c.name a.at_ = nm at *
  go_enter Tryd.func18, Tryd.ntmps18
  go_wp2_with fail
  refine HC.out.mono ?_
  rintro e w1 ⟨rfl, hb⟩
  have HB1 : Hid (Below w.heap.size w w1) := HB0.out.trans (hb.mono HB0.out.size)
  have HX1 : w1.heap[w.heap.size + 1]? = some a.obj := (hb.block _ (by simp)).trans HX.out
  clear x0 x1 x2 x3 x4 c0 c1 c2 c3 hb
  obtain ⟨x0, x1, x2, x3, x4, _⟩ := acc_cells HX1
  clear HX1
  go_wp2_with fail
  go_ret
  exact ⟨by first | rfl | simp_all, by repeat (first | exact HB1.out | refine Below.drew ?_)⟩
set_option maxHeartbeats 4000000 in
theorem aright_2 (w : World) (c : Cfg) (a : Acc) (ht : Tens w) (hn : c.name a.at_ ≠ ⟨#[]⟩) (hk : a.kind = 2) :
    Calls Tryd.prog 18 #[c.v, a.v] w fun e w' => e = .returned (.bool (decide (a.y = 0))) ∧ Below w.heap.size w w' := by
  have HB0 : Hid (Below w.heap.size w ((w.alloc c.mobj).alloc a.obj)) := ((Below.refl _ _).alloc (Nat.le_refl _) _).alloc (by simp) _
  obtain ⟨g0, g1⟩ := two_new w c.mobj a.obj
  have HX := Lib.hid g1
  obtain ⟨c0, c1, c2, c3⟩ := Cfg.mcells_at g0
  obtain ⟨x0, x1, x2, x3, x4, _⟩ := acc_cells g1
  have k1_f : (a.kind == 1) = false := by simp; omega
  have k2_t : (a.kind == 2) = true := by simpa using hk
  have nm1 : ((c.name a.at_).toList == (⟨#[]⟩ : ByteArray).toList) = false := strF hn
  have nm2 : (c.name a.at_).toList.isEmpty = false := by exact empF hn
  have HC := Lib.hid (pname_any ((w.alloc c.mobj).alloc a.obj) c a.at_ (ht.below (Nat.le_refl _) HB0.out))
  clear hn hk g0 g1 ht
  generalize c.name a.at_ = nm at *
  go_enter Tryd.func18, Tryd.ntmps18
  go_wp2_with fail
  refine HC.out.mono ?_
  rintro e w1 ⟨rfl, hb⟩
  have HB1 : Hid (Below w.heap.size w w1) := HB0.out.trans (hb.mono HB0.out.size)
  have HX1 : w1.heap[w.heap.size + 1]? = some a.obj := (hb.block _ (by simp)).trans HX.out
  clear x0 x1 x2 x3 x4 c0 c1 c2 c3 hb
  obtain ⟨x0, x1, x2, x3, x4, _⟩ := acc_cells HX1
  clear HX1
  go_wp2_with fail
  go_ret
  exact ⟨by first | rfl | simp_all, by repeat (first | exact HB1.out | refine Below.drew ?_)⟩
set_option maxHeartbeats 4000000 in
theorem aright_4 (w : World) (c : Cfg) (a : Acc) (ht : Tens w) (hn : c.name a.at_ ≠ ⟨#[]⟩) (hk : a.kind = 4) :
    Calls Tryd.prog 18 #[c.v, a.v] w fun e w' => e = .returned (.bool (decide (a.y = 0))) ∧ Below w.heap.size w w' := by
  have HB0 : Hid (Below w.heap.size w ((w.alloc c.mobj).alloc a.obj)) := ((Below.refl _ _).alloc (Nat.le_refl _) _).alloc (by simp) _
  obtain ⟨g0, g1⟩ := two_new w c.mobj a.obj
  have HX := Lib.hid g1
  obtain ⟨c0, c1, c2, c3⟩ := Cfg.mcells_at g0
  obtain ⟨x0, x1, x2, x3, x4, _⟩ := acc_cells g1
  have k1_f : (a.kind == 1) = false := by simp; omega
  have k2_f : (a.kind == 2) = false := by simp; omega
  have k4_t : (a.kind == 4) = true := by simpa using hk
  have nm1 : ((c.name a.at_).toList == (⟨#[]⟩ : ByteArray).toList) = false := strF hn
  have nm2 : (c.name a.at_).toList.isEmpty = false := by exact empF hn
  have HC := Lib.hid (pname_any ((w.alloc c.mobj).alloc a.obj) c a.at_ (ht.below (Nat.le_refl _) HB0.out))
  clear hn hk g0 g1 ht
  generalize c.name a.at_ = nm at *
  go_enter Tryd.func18, Tryd.ntmps18
  go_wp2_with fail
  refine HC.out.mono ?_
  rintro e w1 ⟨rfl, hb⟩
  have HB1 : Hid (Below w.heap.size w w1) := HB0.out.trans (hb.mono HB0.out.size)
  have HX1 : w1.heap[w.heap.size + 1]? = some a.obj := (hb.block _ (by simp)).trans HX.out
  clear x0 x1 x2 x3 x4 c0 c1 c2 c3 hb
  obtain ⟨x0, x1, x2, x3, x4, _⟩ := acc_cells HX1
  clear HX1
  go_wp2_with fail
  go_ret
  exact ⟨by first | rfl | simp_all, by repeat (first | exact HB1.out | refine Below.drew ?_)⟩
set_option maxHeartbeats 4000000 in
theorem aright_o (w : World) (c : Cfg) (a : Acc) (ht : Tens w) (hn : c.name a.at_ ≠ ⟨#[]⟩) (hk : a.kind ≠ 1 ∧ a.kind ≠ 2 ∧ a.kind ≠ 4) :
    Calls Tryd.prog 18 #[c.v, a.v] w fun e w' => e = .returned (.bool (decide (a.kind = 3))) ∧ Below w.heap.size w w' := by
  have HB0 : Hid (Below w.heap.size w ((w.alloc c.mobj).alloc a.obj)) := ((Below.refl _ _).alloc (Nat.le_refl _) _).alloc (by simp) _
  obtain ⟨g0, g1⟩ := two_new w c.mobj a.obj
  have HX := Lib.hid g1
  obtain ⟨c0, c1, c2, c3⟩ := Cfg.mcells_at g0
  obtain ⟨x0, x1, x2, x3, x4, _⟩ := acc_cells g1
  have k1_f : (a.kind == 1) = false := by simp; omega
  have k2_f : (a.kind == 2) = false := by simp; omega
  have k4_f : (a.kind == 4) = false := by simp; omega
  have nm1 : ((c.name a.at_).toList == (⟨#[]⟩ : ByteArray).toList) = false := strF hn
  have nm2 : (c.name a.at_).toList.isEmpty = false := by exact empF hn
  have HC := Lib.hid (pname_any ((w.alloc c.mobj).alloc a.obj) c a.at_ (ht.below (Nat.le_refl _) HB0.out))
  clear hn hk g0 g1 ht
  generalize c.name a.at_ = nm at *
  go_enter Tryd.func18, Tryd.ntmps18
  go_wp2_with fail
  refine HC.out.mono ?_
  rintro e w1 ⟨rfl, hb⟩
  have HB1 : Hid (Below w.heap.size w w1) := HB0.out.trans (hb.mono HB0.out.size)
  have HX1 : w1.heap[w.heap.size + 1]? = some a.obj := (hb.block _ (by simp)).trans HX.out
  clear x0 x1 x2 x3 x4 c0 c1 c2 c3 hb
  obtain ⟨x0, x1, x2, x3, x4, _⟩ := acc_cells HX1
  clear HX1
  go_wp2_with fail
  go_ret
  exact ⟨by first | rfl | simp_all, by repeat (first | exact HB1.out | refine Below.drew ?_)⟩
theorem aright_any (w : World) (c : Cfg) (a : Acc) (ht : Tens w) :
    Calls Tryd.prog 18 #[c.v, a.v] w fun e w' => e = .returned (.bool (decide (a.right c))) ∧ Below w.heap.size w w' := by
  by_cases hn : c.name a.at_ = ⟨#[]⟩
  · rw [show decide (a.right c) = false from decide_eq_false (fun h => h.1 hn)]
    exact aright_n w c a ht hn
  by_cases h1 : a.kind = 1
  · by_cases hx : a.x = 0
    · have e : decide (a.right c) = decide (a.y = 0) := by
        refine decide_eq_decide.2 ⟨fun h => ?_, fun h => ⟨hn, .inl ⟨h1, hx, h⟩⟩⟩
        rcases h.2 with h | h | h
        · exact h.2.2
        · exact h.2
        · omega
      rw [e]
      exact aright_1y w c a ht hn h1 hx
    · rw [show decide (a.right c) = false from decide_eq_false (fun h => by rcases h.2 with h | h | h; exact hx h.2.1; omega; omega)]
      exact aright_1n w c a ht hn h1 hx
  by_cases h2 : a.kind = 2
  · have e : decide (a.right c) = decide (a.y = 0) := by
      refine decide_eq_decide.2 ⟨fun h => ?_, fun h => ⟨hn, .inr (.inl ⟨.inl h2, h⟩)⟩⟩
      rcases h.2 with h | h | h <;> omega
    rw [e]
    exact aright_2 w c a ht hn h2
  by_cases h4 : a.kind = 4
  · have e : decide (a.right c) = decide (a.y = 0) := by
      refine decide_eq_decide.2 ⟨fun h => ?_, fun h => ⟨hn, .inr (.inl ⟨.inr h4, h⟩)⟩⟩
      rcases h.2 with h | h | h <;> omega
    rw [e]
    exact aright_4 w c a ht hn h4
  have e : decide (a.right c) = decide (a.kind = 3) := by
    refine decide_eq_decide.2 ⟨fun h => ?_, fun h => ⟨hn, .inr (.inr h)⟩⟩
    rcases h.2 with h | h | h <;> omega
  rw [e]
  exact aright_o w c a ht hn ⟨h1, h2, h4⟩
/-- does an access change its word? -/
def Acc.chg (a : Acc) : Bool := if a.kind = 2 then !decide (a.x = a.old) else if a.kind = 3 then decide (a.x = a.old) && !decide (a.y = a.old) else if a.kind = 4 then !decide (a.x = 0) else false
theorem achg_2 (w : World) (a : Acc) (hk : a.kind = 2) :
    Calls Tryd.prog 22 #[a.v] w fun e w' => e = .returned (.bool a.chg) ∧ Below w.heap.size w w' := by
  have HR : Hid (a.chg = !decide (a.x = a.old)) := by
    unfold Hid Acc.chg
    rw [if_pos hk]
  have HB0 : Hid (Below w.heap.size w (w.alloc a.obj)) := (Below.refl _ _).alloc (Nat.le_refl _) _
  obtain ⟨x0, x1, x2, x3, x4, _⟩ := acc_cells (heap_alloc_new w a.obj)
  have k2_t : (a.kind == 2) = true := by simpa using hk
  rw [HR.out]
  clear hk
  go_enter Tryd.func22, Tryd.ntmps22
  go_wp2_with fail
  go_ret
  exact ⟨by first | rfl | simp_all, by repeat (first | exact HB0.out | refine Below.drew ?_)⟩
theorem achg_3y (w : World) (a : Acc) (hk : a.kind = 3) (hx : a.x = a.old) :
    Calls Tryd.prog 22 #[a.v] w fun e w' => e = .returned (.bool a.chg) ∧ Below w.heap.size w w' := by
  have HR : Hid (a.chg = !decide (a.y = a.old)) := by
    unfold Hid Acc.chg
    rw [if_neg (by omega), if_pos hk, decide_eq_true hx, Bool.true_and]
  have HB0 : Hid (Below w.heap.size w (w.alloc a.obj)) := (Below.refl _ _).alloc (Nat.le_refl _) _
  obtain ⟨x0, x1, x2, x3, x4, _⟩ := acc_cells (heap_alloc_new w a.obj)
  have k2_f : (a.kind == 2) = false := by simp; omega
  have k3_t : (a.kind == 3) = true := by simpa using hk
  have x_d : (a.x == a.old) = true := by simpa using hx
  rw [HR.out]
  clear hk hx
  go_enter Tryd.func22, Tryd.ntmps22
  go_wp2_with fail
  go_ret
  exact ⟨by first | rfl | simp_all, by repeat (first | exact HB0.out | refine Below.drew ?_)⟩
theorem achg_3n (w : World) (a : Acc) (hk : a.kind = 3) (hx : ¬ a.x = a.old) :
    Calls Tryd.prog 22 #[a.v] w fun e w' => e = .returned (.bool a.chg) ∧ Below w.heap.size w w' := by
  have HR : Hid (a.chg = false) := by
    unfold Hid Acc.chg
    rw [if_neg (by omega), if_pos hk, decide_eq_false hx, Bool.false_and]
  have HB0 : Hid (Below w.heap.size w (w.alloc a.obj)) := (Below.refl _ _).alloc (Nat.le_refl _) _
  obtain ⟨x0, x1, x2, x3, x4, _⟩ := acc_cells (heap_alloc_new w a.obj)
  have k2_f : (a.kind == 2) = false := by simp; omega
  have k3_t : (a.kind == 3) = true := by simpa using hk
  have x_d : (a.x == a.old) = false := by simpa using hx
  rw [HR.out]
  clear hk hx
  go_enter Tryd.func22, Tryd.ntmps22
  go_wp2_with fail
  go_ret
  exact ⟨by first | rfl | simp_all, by repeat (first | exact HB0.out | refine Below.drew ?_)⟩
theorem achg_4 (w : World) (a : Acc) (hk : a.kind = 4) :
    Calls Tryd.prog 22 #[a.v] w fun e w' => e = .returned (.bool a.chg) ∧ Below w.heap.size w w' := by
  have HR : Hid (a.chg = !decide (a.x = 0)) := by
    unfold Hid Acc.chg
    rw [if_neg (by omega), if_neg (by omega), if_pos hk]
  have HB0 : Hid (Below w.heap.size w (w.alloc a.obj)) := (Below.refl _ _).alloc (Nat.le_refl _) _
  obtain ⟨x0, x1, x2, x3, x4, _⟩ := acc_cells (heap_alloc_new w a.obj)
  have k2_f : (a.kind == 2) = false := by simp; omega
  have k3_f : (a.kind == 3) = false := by simp; omega
  have k4_t : (a.kind == 4) = true := by simpa using hk
  rw [HR.out]
  clear hk
  go_enter Tryd.func22, Tryd.ntmps22
  go_wp2_with fail
  go_ret
  exact ⟨by first | rfl | simp_all, by repeat (first | exact HB0.out | refine Below.drew ?_)⟩
theorem achg_o (w : World) (a : Acc) (hk : a.kind ≠ 2 ∧ a.kind ≠ 3 ∧ a.kind ≠ 4) :
    Calls Tryd.prog 22 #[a.v] w fun e w' => e = .returned (.bool a.chg) ∧ Below w.heap.size w w' := by
  have HR : Hid (a.chg = false) := by
    unfold Hid Acc.chg
    rw [if_neg hk.1, if_neg hk.2.1, if_neg hk.2.2]
  have HB0 : Hid (Below w.heap.size w (w.alloc a.obj)) := (Below.refl _ _).alloc (Nat.le_refl _) _
  obtain ⟨x0, x1, x2, x3, x4, _⟩ := acc_cells (heap_alloc_new w a.obj)
  have k2_f : (a.kind == 2) = false := by simp; omega
  have k3_f : (a.kind == 3) = false := by simp; omega
  have k4_f : (a.kind == 4) = false := by simp; omega
  rw [HR.out]
  clear hk
  go_enter Tryd.func22, Tryd.ntmps22
  go_wp2_with fail
  go_ret
  exact ⟨by first | rfl | simp_all, by repeat (first | exact HB0.out | refine Below.drew ?_)⟩
theorem achg_any (w : World) (a : Acc) :
    Calls Tryd.prog 22 #[a.v] w fun e w' => e = .returned (.bool a.chg) ∧ Below w.heap.size w w' := by
  by_cases h2 : a.kind = 2
  · exact achg_2 w a h2
  by_cases h3 : a.kind = 3
  · by_cases hx : a.x = a.old
    · exact achg_3y w a h3 hx
    · exact achg_3n w a h3 hx
  by_cases h4 : a.kind = 4
  · exact achg_4 w a h4
  exact achg_o w a ⟨h2, h3, h4⟩
end Go.Proofs.YtcheafeaioflmaaDoor

/- The contracts of the document's answer for operations: mudlarkref08 Name, Part, Number, Check. -/
import Derived.Test.YtipoklnoknkfhaaDoorOp
import Derived.Test.YtipoklnoknkfhaaDoorRefPl
namespace Go.Proofs.YtipoklnoknkfhaaDoor
open Go Go.RowKit
set_option linter.unusedSimpArgs false
set_option linter.unusedVariables false

theorem refname_any (w : World) (k : Int) : Calls Tryd.prog 95 #[.int .i64 k] w fun e w' => e = .returned (.string (fname k)) ∧ w' = w := by
  by_cases h : 1 ≤ k ∧ k ≤ 11
  · obtain rfl | rfl | rfl | rfl | rfl | rfl | rfl | rfl | rfl | rfl | rfl : k = 1 ∨ k = 2 ∨ k = 3 ∨ k = 4 ∨ k = 5 ∨ k = 6 ∨ k = 7 ∨ k = 8 ∨ k = 9 ∨ k = 10 ∨ k = 11 := by omega
    all_goals
      clear h
      go_enter Tryd.func95, Tryd.ntmps95
      go_wp2_with fail
      go_ret
      exact ⟨rfl, rfl⟩
  · have hn : Hid (fname k = ⟨#[]⟩) := by
      unfold Hid fname
      by_cases h0 : k ≤ 0
      · rw [show k.toNat = 0 by omega]; rfl
      · rw [List.getD_eq_getElem?_getD, List.getElem?_eq_none (by simp [fnames]; omega)]; rfl
    have t1 : (k == 1) = false := by rw [beq_eq_false_iff_ne]; omega
    have t2 : (k == 2) = false := by rw [beq_eq_false_iff_ne]; omega
    have t3 : (k == 3) = false := by rw [beq_eq_false_iff_ne]; omega
    have t4 : (k == 4) = false := by rw [beq_eq_false_iff_ne]; omega
    have t5 : (k == 5) = false := by rw [beq_eq_false_iff_ne]; omega
    have t6 : (k == 6) = false := by rw [beq_eq_false_iff_ne]; omega
    have t7 : (k == 7) = false := by rw [beq_eq_false_iff_ne]; omega
    have t8 : (k == 8) = false := by rw [beq_eq_false_iff_ne]; omega
    have t9 : (k == 9) = false := by rw [beq_eq_false_iff_ne]; omega
    have t10 : (k == 10) = false := by rw [beq_eq_false_iff_ne]; omega
    have t11 : (k == 11) = false := by rw [beq_eq_false_iff_ne]; omega
    clear h
    go_enter Tryd.func95, Tryd.ntmps95
    go_wp2_with fail
    go_ret
    exact ⟨by rw [hn.out]; rfl, rfl⟩
theorem fname_some (k : Int) (h : 1 ≤ k ∧ k ≤ 11) : (fname k).toList.isEmpty = false := by
  obtain rfl | rfl | rfl | rfl | rfl | rfl | rfl | rfl | rfl | rfl | rfl : k = 1 ∨ k = 2 ∨ k = 3 ∨ k = 4 ∨ k = 5 ∨ k = 6 ∨ k = 7 ∨ k = 8 ∨ k = 9 ∨ k = 10 ∨ k = 11 := by omega
  all_goals decide +kernel
def rpart (k : Int) (i : Nat) : Int :=
  if (1 < i ∧ k ≠ 3) ∨ (i = 1 ∧ k = 11) then 0 else if k = 1 ∧ i = 1 then 3 else if (k = 8 ∧ i = 1) ∨ (k = 9 ∧ i = 0) then 2 else 1
set_option maxHeartbeats 4000000 in
theorem refpart_any (w : World) (k : Int) (i : Nat) (h : 1 ≤ k ∧ k ≤ 11) (hi : i < 3) : Calls Tryd.prog 97 #[.int .i64 k, .int .i64 i] w fun e w' => e = .returned (.int .i64 (rpart k i)) ∧ w' = w := by
  have hs := fname_some k h
  obtain rfl | rfl | rfl : i = 0 ∨ i = 1 ∨ i = 2 := by omega
  all_goals
    obtain rfl | rfl | rfl | rfl | rfl | rfl | rfl | rfl | rfl | rfl | rfl : k = 1 ∨ k = 2 ∨ k = 3 ∨ k = 4 ∨ k = 5 ∨ k = 6 ∨ k = 7 ∨ k = 8 ∨ k = 9 ∨ k = 10 ∨ k = 11 := by omega
    all_goals
      clear h hi
      go_enter Tryd.func97, Tryd.ntmps97
      go_wp2_with fail
      refine (refname_any _ _).mono ?_
      rintro e w1 ⟨rfl, hw⟩
      obtain rfl := hw.symm
      clear hw
      generalize fname _ = nm at hs ⊢
      go_wp2_with fail
      go_ret
      exact ⟨rfl, rfl⟩
theorem refnumber_any (w : World) (x : Opr) (i : Nat) (h : i < 3) :
    Calls Tryd.prog 96 #[x.v, .int .i64 i] w fun e w' => e = .returned (.int .i64 (x.num i)) ∧ Below w.heap.size w w' := by
  obtain ⟨k0, k1, k2, k3⟩ := opr_cells (heap_alloc_new w x.obj)
  obtain rfl | rfl | rfl : i = 0 ∨ i = 1 ∨ i = 2 := by omega
  all_goals
    go_enter Tryd.func96, Tryd.ntmps96
    go_wp2_with fail
    go_ret
    exact ⟨rfl, (Below.refl _ _).alloc (Nat.le_refl _) _⟩

/-! ### Check -/
def rbad (c : Cfg) (x : Opr) (i : Nat) : Bool := (decide (rpart x.kind i ≠ 0) && decide (x.num i < 0)) || (decide (rpart x.kind i = 1) && decide (c.regs ≤ x.num i)) || (decide (rpart x.kind i = 2) && decide (c.globs ≤ x.num i))
theorem rbad_all (c : Cfg) (x : Opr) (h : 1 ≤ x.kind ∧ x.kind ≤ 11) : badFrom c x (fparts.getD x.kind.toNat []) 0 = (rbad c x 0 || rbad c x 1 || rbad c x 2) := by
  obtain hk | hk | hk | hk | hk | hk | hk | hk | hk | hk | hk : x.kind = 1 ∨ x.kind = 2 ∨ x.kind = 3 ∨ x.kind = 4 ∨ x.kind = 5 ∨ x.kind = 6 ∨ x.kind = 7 ∨ x.kind = 8 ∨ x.kind = 9 ∨ x.kind = 10 ∨ x.kind = 11 := by omega
  all_goals
    unfold rbad
    rw [hk]
    simp [badFrom, fparts, pbad, rpart, Bool.or_assoc]
theorem rpart_cases (k : Int) (i : Nat) : rpart k i = 0 ∨ rpart k i = 1 ∨ rpart k i = 2 ∨ rpart k i = 3 := by
  unfold rpart
  repeat' split
  all_goals omega
set_option maxHeartbeats 4000000 in
set_option maxRecDepth 100000 in
theorem refcheck_any (w : World) (c : Cfg) (x : Opr) :
    Calls Tryd.prog 55 #[c.v, x.v] w fun e w' => e = .returned (.int .i64 (x.err c)) ∧ Below w.heap.size w w' := by
  have HB0 : Hid (Below w.heap.size w ((w.alloc c.obj).alloc x.obj)) := ((Below.refl _ _).alloc (Nat.le_refl _) _).alloc (by simp) _
  obtain ⟨k0, k1, k2, k3⟩ := Cfg.cells_at (heap_new1 w c.obj x.obj)
  have HC0 := Lib.hid (heap_new1 w c.obj x.obj)
  have HX0 := Lib.hid (heap_new2 w c.obj x.obj)
  by_cases ok : c.ok = true
  case neg =>
    have HZ : Hid (x.err c = 1) := by unfold Hid Opr.err; rw [if_neg ok]
    have HO : Hid (c.ok = false) := by unfold Hid; simpa using ok
    clear ok
    go_enter Tryd.func55, Tryd.ntmps55
    go_wp2_with fail
    refine (refright_any _ c).mono ?_
    rintro e w1 ⟨rfl, hb⟩
    rw [HO.out]
    have HB1 : Hid (Below w.heap.size w w1) := HB0.out.trans (hb.mono (by simp; omega))
    clear k0 k1 k2 k3 hb
    go_wp2_with fail
    go_ret
    exact ⟨by rw [HZ.out]; rfl, HB1.out⟩
  have HO := Lib.hid ok
  have HZ : Hid (x.err c = if 1 ≤ x.kind ∧ x.kind ≤ 11 then (if badFrom c x (fparts.getD x.kind.toNat []) 0 = true then 2 else 0) else 4) := by unfold Hid Opr.err; rw [if_pos ok]
  clear ok
  by_cases hk : 1 ≤ x.kind ∧ x.kind ≤ 11
  case neg =>
    rw [if_neg hk] at HZ
    have hn : fname x.kind = ⟨#[]⟩ := by
      unfold fname
      by_cases h0 : x.kind ≤ 0
      · rw [show x.kind.toNat = 0 by omega]; rfl
      · rw [List.getD_eq_getElem?_getD, List.getElem?_eq_none (by simp [fnames]; omega)]; rfl
    have HN := Lib.hid hn
    clear hk hn
    go_enter Tryd.func55, Tryd.ntmps55
    go_wp2_with fail
    refine (refright_any _ c).mono ?_
    rintro e w1 ⟨rfl, hb⟩
    rw [HO.out]
    have HB1 : Hid (Below w.heap.size w w1) := HB0.out.trans (hb.mono (by simp; omega))
    have HC1 : Hid (w1.heap[w.heap.size]? = some c.obj) := (hb.block _ (by simp; omega)).trans HC0.out
    have HX1 : Hid (w1.heap[w.heap.size + 1]? = some x.obj) := (hb.block _ (by simp)).trans HX0.out
    clear k0 k1 k2 k3 hb
    obtain ⟨x0, x1, x2, x3⟩ := opr_cells HX1.out
    go_wp2_with fail
    refine (refname_any _ x.kind).mono ?_
    rintro e w2 ⟨rfl, hw⟩
    obtain rfl := hw.symm
    clear hw
    rw [HN.out]
    go_wp2_with fail
    go_ret
    exact ⟨by rw [HZ.out]; rfl, HB1.out⟩
  rw [if_pos hk, rbad_all c x hk] at HZ
  have hs := fname_some x.kind hk
  have HK := Lib.hid hk
  clear hk
  go_enter Tryd.func55, Tryd.ntmps55
  go_wp2_with fail
  refine (refright_any _ c).mono ?_
  rintro e w1 ⟨rfl, hb⟩
  rw [HO.out]
  have HB1 : Hid (Below w.heap.size w w1) := HB0.out.trans (hb.mono (by simp; omega))
  have HC1 : Hid (w1.heap[w.heap.size]? = some c.obj) := (hb.block _ (by simp; omega)).trans HC0.out
  have HX1 : Hid (w1.heap[w.heap.size + 1]? = some x.obj) := (hb.block _ (by simp)).trans HX0.out
  clear k0 k1 k2 k3 hb
  obtain ⟨x0, x1, x2, x3⟩ := opr_cells HX1.out
  go_wp2_with fail
  refine (refname_any _ x.kind).mono ?_
  rintro e w2 ⟨rfl, hw⟩
  obtain rfl := hw.symm
  clear hw
  generalize fname x.kind = nm at hs ⊢
  have hs1 : w.heap.size + 2 ≤ w1.heap.size := by have := block_lt HX1.out; omega
  go_wp2_with fail
  clear x0 x1 x2 x3 hs
  go_loopw [5, 6, 7] (fun i _ _ wr => ∃ k : Nat, k ≤ 3 ∧ i = .int .i64 k ∧ Below w.heap.size w wr ∧ wr.heap[w.heap.size]? = some c.obj ∧ wr.heap[w.heap.size + 1]? = some x.obj ∧ Hid (∀ j : Nat, j < k → rbad c x j = false)) (fun i _ _ _ => 3 - (intOf i).toNat)
  case atStart => exact ⟨0, by omega, rfl, HB1.out, HC1.out, HX1.out, fun j hj => absurd hj (by omega)⟩
  case round =>
    obtain ⟨k, hk3, rfl, hB, hC, hX, HR⟩ := hrel
    have HB := Lib.hid hB
    have HC := Lib.hid hC
    have HX := Lib.hid hX
    clear hB hC hX
    by_cases hlt : k < 3
    · obtain ⟨x0, x1, x2, x3⟩ := opr_cells HX.out
      have HLT := Lib.hid hlt
      obtain ⟨n, hn⟩ : ∃ n, x.num k = n := ⟨_, rfl⟩
      obtain ⟨p, hp⟩ : ∃ p, rpart x.kind k = p := ⟨_, rfl⟩
      have HN := Lib.hid hn
      have HP := Lib.hid hp
      have hpc := rpart_cases x.kind k
      have hbad : rbad c x k = ((decide (p ≠ 0) && decide (n < 0)) || (decide (p = 1) && decide (c.regs ≤ n)) || (decide (p = 2) && decide (c.globs ≤ n))) := by unfold rbad; rw [hn, hp]
      rw [hp] at hpc
      have HBD := Lib.hid hbad
      clear hn hp hbad
      have hres : rbad c x k = true → (rbad c x 0 || rbad c x 1 || rbad c x 2) = true := fun h => by
        obtain rfl | rfl | rfl : k = 0 ∨ k = 1 ∨ k = 2 := by omega
        all_goals simp [h]
      have HRES := Lib.hid hres
      clear hres
      rcases hpc with rfl | rfl | rfl | rfl
      · have HBF : Hid (((decide ((0 : Int) ≠ 0) && decide (n < 0)) || (decide ((0 : Int) = 1) && decide (c.regs ≤ n)) || (decide ((0 : Int) = 2) && decide (c.globs ≤ n))) = false) := by unfold Hid; simp
        go_wp2_with fail
        refine (refnumber_any _ x k HLT.out).mono ?_
        rintro e w3 ⟨rfl, hb⟩
        rw [HN.out]
        have HB3 : Hid (Below w.heap.size w w3) := HB.out.trans (hb.mono HB.out.size)
        have HC3 : Hid (w3.heap[w.heap.size]? = some c.obj) := (hb.block _ (block_lt HC.out)).trans HC.out
        have HX3 : Hid (w3.heap[w.heap.size + 1]? = some x.obj) := (hb.block _ (block_lt HX.out)).trans HX.out
        clear x0 x1 x2 x3 hb
        obtain ⟨x0, x1, x2, x3⟩ := opr_cells HX3.out
        obtain ⟨k0, k1, k2, k3⟩ := Cfg.cells_at HC3.out
        go_wp2_with fail
        refine (refpart_any _ x.kind k HK.out HLT.out).mono ?_
        rintro e w4 ⟨rfl, hw⟩
        obtain rfl := hw.symm
        clear hw
        rw [HP.out]
        go_wp2_with fail
        go_roundw
        case rel => exact ⟨k + 1, by have := HLT.out; omega, by go_num, HB3.out, HC3.out, HX3.out, fun j hj => by
          by_cases e : j = k
          · subst e; rw [HBD.out, HBF.out]
          · exact HR.out j (by omega)⟩
        case measure => have := HLT.out; simp [intOf]; omega
      · by_cases hneg : n < 0
        · have d0 : decide (n < 0) = true := by simpa using hneg
          have HBF : Hid (((decide ((1 : Int) ≠ 0) && decide (n < 0)) || (decide ((1 : Int) = 1) && decide (c.regs ≤ n)) || (decide ((1 : Int) = 2) && decide (c.globs ≤ n))) = true) := by unfold Hid; rw [d0]; rfl
          clear hneg
          go_wp2_with fail
          refine (refnumber_any _ x k HLT.out).mono ?_
          rintro e w3 ⟨rfl, hb⟩
          rw [HN.out]
          have HB3 : Hid (Below w.heap.size w w3) := HB.out.trans (hb.mono HB.out.size)
          have HC3 : Hid (w3.heap[w.heap.size]? = some c.obj) := (hb.block _ (block_lt HC.out)).trans HC.out
          have HX3 : Hid (w3.heap[w.heap.size + 1]? = some x.obj) := (hb.block _ (block_lt HX.out)).trans HX.out
          clear x0 x1 x2 x3 hb
          obtain ⟨x0, x1, x2, x3⟩ := opr_cells HX3.out
          obtain ⟨k0, k1, k2, k3⟩ := Cfg.cells_at HC3.out
          go_wp2_with fail
          refine (refpart_any _ x.kind k HK.out HLT.out).mono ?_
          rintro e w4 ⟨rfl, hw⟩
          obtain rfl := hw.symm
          clear hw
          rw [HP.out]
          go_wp2_with fail
          go_ret
          exact ⟨by rw [HZ.out, if_pos (HRES.out (by rw [HBD.out, HBF.out]))]; rfl, HB3.out⟩
        have d0 : decide (n < 0) = false := by simpa using hneg
        by_cases hge : c.regs ≤ n
        · have d1 : decide (c.regs ≤ n) = true := by simpa using hge
          have HBF : Hid (((decide ((1 : Int) ≠ 0) && decide (n < 0)) || (decide ((1 : Int) = 1) && decide (c.regs ≤ n)) || (decide ((1 : Int) = 2) && decide (c.globs ≤ n))) = true) := by unfold Hid; rw [d0, d1]; simp
          clear hneg hge
          go_wp2_with fail
          refine (refnumber_any _ x k HLT.out).mono ?_
          rintro e w3 ⟨rfl, hb⟩
          rw [HN.out]
          have HB3 : Hid (Below w.heap.size w w3) := HB.out.trans (hb.mono HB.out.size)
          have HC3 : Hid (w3.heap[w.heap.size]? = some c.obj) := (hb.block _ (block_lt HC.out)).trans HC.out
          have HX3 : Hid (w3.heap[w.heap.size + 1]? = some x.obj) := (hb.block _ (block_lt HX.out)).trans HX.out
          clear x0 x1 x2 x3 hb
          obtain ⟨x0, x1, x2, x3⟩ := opr_cells HX3.out
          obtain ⟨k0, k1, k2, k3⟩ := Cfg.cells_at HC3.out
          go_wp2_with fail
          refine (refpart_any _ x.kind k HK.out HLT.out).mono ?_
          rintro e w4 ⟨rfl, hw⟩
          obtain rfl := hw.symm
          clear hw
          rw [HP.out]
          go_wp2_with fail
          go_ret
          exact ⟨by rw [HZ.out, if_pos (HRES.out (by rw [HBD.out, HBF.out]))]; rfl, HB3.out⟩
        have d1 : decide (c.regs ≤ n) = false := by simpa using hge
        have HBF : Hid (((decide ((1 : Int) ≠ 0) && decide (n < 0)) || (decide ((1 : Int) = 1) && decide (c.regs ≤ n)) || (decide ((1 : Int) = 2) && decide (c.globs ≤ n))) = false) := by unfold Hid; rw [d0, d1]; simp
        clear hneg hge
        go_wp2_with fail
        refine (refnumber_any _ x k HLT.out).mono ?_
        rintro e w3 ⟨rfl, hb⟩
        rw [HN.out]
        have HB3 : Hid (Below w.heap.size w w3) := HB.out.trans (hb.mono HB.out.size)
        have HC3 : Hid (w3.heap[w.heap.size]? = some c.obj) := (hb.block _ (block_lt HC.out)).trans HC.out
        have HX3 : Hid (w3.heap[w.heap.size + 1]? = some x.obj) := (hb.block _ (block_lt HX.out)).trans HX.out
        clear x0 x1 x2 x3 hb
        obtain ⟨x0, x1, x2, x3⟩ := opr_cells HX3.out
        obtain ⟨k0, k1, k2, k3⟩ := Cfg.cells_at HC3.out
        go_wp2_with fail
        refine (refpart_any _ x.kind k HK.out HLT.out).mono ?_
        rintro e w4 ⟨rfl, hw⟩
        obtain rfl := hw.symm
        clear hw
        rw [HP.out]
        go_wp2_with fail
        go_roundw
        case rel => exact ⟨k + 1, by have := HLT.out; omega, by go_num, HB3.out, HC3.out, HX3.out, fun j hj => by
          by_cases e : j = k
          · subst e; rw [HBD.out, HBF.out]
          · exact HR.out j (by omega)⟩
        case measure => have := HLT.out; simp [intOf]; omega
      · by_cases hneg : n < 0
        · have d0 : decide (n < 0) = true := by simpa using hneg
          have HBF : Hid (((decide ((2 : Int) ≠ 0) && decide (n < 0)) || (decide ((2 : Int) = 1) && decide (c.regs ≤ n)) || (decide ((2 : Int) = 2) && decide (c.globs ≤ n))) = true) := by unfold Hid; rw [d0]; rfl
          clear hneg
          go_wp2_with fail
          refine (refnumber_any _ x k HLT.out).mono ?_
          rintro e w3 ⟨rfl, hb⟩
          rw [HN.out]
          have HB3 : Hid (Below w.heap.size w w3) := HB.out.trans (hb.mono HB.out.size)
          have HC3 : Hid (w3.heap[w.heap.size]? = some c.obj) := (hb.block _ (block_lt HC.out)).trans HC.out
          have HX3 : Hid (w3.heap[w.heap.size + 1]? = some x.obj) := (hb.block _ (block_lt HX.out)).trans HX.out
          clear x0 x1 x2 x3 hb
          obtain ⟨x0, x1, x2, x3⟩ := opr_cells HX3.out
          obtain ⟨k0, k1, k2, k3⟩ := Cfg.cells_at HC3.out
          go_wp2_with fail
          refine (refpart_any _ x.kind k HK.out HLT.out).mono ?_
          rintro e w4 ⟨rfl, hw⟩
          obtain rfl := hw.symm
          clear hw
          rw [HP.out]
          go_wp2_with fail
          go_ret
          exact ⟨by rw [HZ.out, if_pos (HRES.out (by rw [HBD.out, HBF.out]))]; rfl, HB3.out⟩
        have d0 : decide (n < 0) = false := by simpa using hneg
        by_cases hge : c.globs ≤ n
        · have d1 : decide (c.globs ≤ n) = true := by simpa using hge
          have HBF : Hid (((decide ((2 : Int) ≠ 0) && decide (n < 0)) || (decide ((2 : Int) = 1) && decide (c.regs ≤ n)) || (decide ((2 : Int) = 2) && decide (c.globs ≤ n))) = true) := by unfold Hid; rw [d0, d1]; simp
          clear hneg hge
          go_wp2_with fail
          refine (refnumber_any _ x k HLT.out).mono ?_
          rintro e w3 ⟨rfl, hb⟩
          rw [HN.out]
          have HB3 : Hid (Below w.heap.size w w3) := HB.out.trans (hb.mono HB.out.size)
          have HC3 : Hid (w3.heap[w.heap.size]? = some c.obj) := (hb.block _ (block_lt HC.out)).trans HC.out
          have HX3 : Hid (w3.heap[w.heap.size + 1]? = some x.obj) := (hb.block _ (block_lt HX.out)).trans HX.out
          clear x0 x1 x2 x3 hb
          obtain ⟨x0, x1, x2, x3⟩ := opr_cells HX3.out
          obtain ⟨k0, k1, k2, k3⟩ := Cfg.cells_at HC3.out
          go_wp2_with fail
          refine (refpart_any _ x.kind k HK.out HLT.out).mono ?_
          rintro e w4 ⟨rfl, hw⟩
          obtain rfl := hw.symm
          clear hw
          rw [HP.out]
          go_wp2_with fail
          go_ret
          exact ⟨by rw [HZ.out, if_pos (HRES.out (by rw [HBD.out, HBF.out]))]; rfl, HB3.out⟩
        have d1 : decide (c.globs ≤ n) = false := by simpa using hge
        have HBF : Hid (((decide ((2 : Int) ≠ 0) && decide (n < 0)) || (decide ((2 : Int) = 1) && decide (c.regs ≤ n)) || (decide ((2 : Int) = 2) && decide (c.globs ≤ n))) = false) := by unfold Hid; rw [d0, d1]; simp
        clear hneg hge
        go_wp2_with fail
        refine (refnumber_any _ x k HLT.out).mono ?_
        rintro e w3 ⟨rfl, hb⟩
        rw [HN.out]
        have HB3 : Hid (Below w.heap.size w w3) := HB.out.trans (hb.mono HB.out.size)
        have HC3 : Hid (w3.heap[w.heap.size]? = some c.obj) := (hb.block _ (block_lt HC.out)).trans HC.out
        have HX3 : Hid (w3.heap[w.heap.size + 1]? = some x.obj) := (hb.block _ (block_lt HX.out)).trans HX.out
        clear x0 x1 x2 x3 hb
        obtain ⟨x0, x1, x2, x3⟩ := opr_cells HX3.out
        obtain ⟨k0, k1, k2, k3⟩ := Cfg.cells_at HC3.out
        go_wp2_with fail
        refine (refpart_any _ x.kind k HK.out HLT.out).mono ?_
        rintro e w4 ⟨rfl, hw⟩
        obtain rfl := hw.symm
        clear hw
        rw [HP.out]
        go_wp2_with fail
        go_roundw
        case rel => exact ⟨k + 1, by have := HLT.out; omega, by go_num, HB3.out, HC3.out, HX3.out, fun j hj => by
          by_cases e : j = k
          · subst e; rw [HBD.out, HBF.out]
          · exact HR.out j (by omega)⟩
        case measure => have := HLT.out; simp [intOf]; omega
      · by_cases hneg : n < 0
        · have d0 : decide (n < 0) = true := by simpa using hneg
          have HBF : Hid (((decide ((3 : Int) ≠ 0) && decide (n < 0)) || (decide ((3 : Int) = 1) && decide (c.regs ≤ n)) || (decide ((3 : Int) = 2) && decide (c.globs ≤ n))) = true) := by unfold Hid; rw [d0]; rfl
          clear hneg
          go_wp2_with fail
          refine (refnumber_any _ x k HLT.out).mono ?_
          rintro e w3 ⟨rfl, hb⟩
          rw [HN.out]
          have HB3 : Hid (Below w.heap.size w w3) := HB.out.trans (hb.mono HB.out.size)
          have HC3 : Hid (w3.heap[w.heap.size]? = some c.obj) := (hb.block _ (block_lt HC.out)).trans HC.out
          have HX3 : Hid (w3.heap[w.heap.size + 1]? = some x.obj) := (hb.block _ (block_lt HX.out)).trans HX.out
          clear x0 x1 x2 x3 hb
          obtain ⟨x0, x1, x2, x3⟩ := opr_cells HX3.out
          obtain ⟨k0, k1, k2, k3⟩ := Cfg.cells_at HC3.out
          go_wp2_with fail
          refine (refpart_any _ x.kind k HK.out HLT.out).mono ?_
          rintro e w4 ⟨rfl, hw⟩
          obtain rfl := hw.symm
          clear hw
          rw [HP.out]
          go_wp2_with fail
          go_ret
          exact ⟨by rw [HZ.out, if_pos (HRES.out (by rw [HBD.out, HBF.out]))]; rfl, HB3.out⟩
        have d0 : decide (n < 0) = false := by simpa using hneg
        have HBF : Hid (((decide ((3 : Int) ≠ 0) && decide (n < 0)) || (decide ((3 : Int) = 1) && decide (c.regs ≤ n)) || (decide ((3 : Int) = 2) && decide (c.globs ≤ n))) = false) := by unfold Hid; rw [d0]; simp
        clear hneg
        go_wp2_with fail
        refine (refnumber_any _ x k HLT.out).mono ?_
        rintro e w3 ⟨rfl, hb⟩
        rw [HN.out]
        have HB3 : Hid (Below w.heap.size w w3) := HB.out.trans (hb.mono HB.out.size)
        have HC3 : Hid (w3.heap[w.heap.size]? = some c.obj) := (hb.block _ (block_lt HC.out)).trans HC.out
        have HX3 : Hid (w3.heap[w.heap.size + 1]? = some x.obj) := (hb.block _ (block_lt HX.out)).trans HX.out
        clear x0 x1 x2 x3 hb
        obtain ⟨x0, x1, x2, x3⟩ := opr_cells HX3.out
        obtain ⟨k0, k1, k2, k3⟩ := Cfg.cells_at HC3.out
        go_wp2_with fail
        refine (refpart_any _ x.kind k HK.out HLT.out).mono ?_
        rintro e w4 ⟨rfl, hw⟩
        obtain rfl := hw.symm
        clear hw
        rw [HP.out]
        go_wp2_with fail
        go_roundw
        case rel => exact ⟨k + 1, by have := HLT.out; omega, by go_num, HB3.out, HC3.out, HX3.out, fun j hj => by
          by_cases e : j = k
          · subst e; rw [HBD.out, HBF.out]
          · exact HR.out j (by omega)⟩
        case measure => have := HLT.out; simp [intOf]; omega
    · have hk : k = 3 := by omega
      subst hk
      have HE : Hid ((rbad c x 0 || rbad c x 1 || rbad c x 2) = false) := by unfold Hid; rw [HR.out 0 (by omega), HR.out 1 (by omega), HR.out 2 (by omega)]; rfl
      go_wp2_with fail
      go_ret
      exact ⟨by rw [HZ.out, HE.out]; rfl, HB.out⟩
end Go.Proofs.YtipoklnoknkfhaaDoor

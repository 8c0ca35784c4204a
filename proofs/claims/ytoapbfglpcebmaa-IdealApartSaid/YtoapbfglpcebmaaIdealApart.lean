/- The walk of the law IdealApart. -/
import Derived.Test.YtoapbfglpcebmaaIdealFull
import Derived.Test.YtoapbfglpcebmaaIdealRefPure
namespace Go.Proofs.Ytoapbfglpcebmaa
open Go Go.RowKit
set_option linter.unusedSimpArgs false
set_option linter.unusedVariables false

theorem ireg_nil (w : World) (m r : Int) : Calls Try.prog 25 #[.pointer none, .int .i64 m, .int .i64 r] w fun e w' => e = .returned (.int .u64 0) ∧ w' = w := by
  go_enter Try.func25, Try.ntmps25
  go_wp2_with fail
  go_ret
  exact ⟨rfl, rfl⟩
theorem iglob_nil (w : World) (g : Int) : Calls Try.prog 33 #[.pointer none, .int .i64 g] w fun e w' => e = .returned (.int .u64 0) ∧ w' = w := by
  go_enter Try.func33, Try.ntmps33
  go_wp2_with fail
  go_ret
  exact ⟨rfl, rfl⟩
theorem ilen_nil (w : World) : Calls Try.prog 32 #[.pointer none] w fun e w' => e = .returned (.int .i64 0) ∧ w' = w := by
  go_enter Try.func32, Try.ntmps32
  go_wp2_with fail
  go_ret
  exact ⟨rfl, rfl⟩
theorem icell_nil (w : World) (i : Int) : Calls Try.prog 63 #[.pointer none, .int .i64 i] w fun e w' => e = .returned (.agg #[.int .u64 0, .int .u64 0]) ∧ Below w.heap.size w w' := by
  have hnew := heap_alloc_new w zcell
  obtain ⟨z0, z1⟩ : (w.alloc zcell).cell? ⟨w.heap.size, 0, none⟩ = some (.int .u64 0) ∧ (w.alloc zcell).cell? ⟨w.heap.size, 1, none⟩ = some (.int .u64 0) := ⟨cell_of_block hnew 0, cell_of_block hnew 1⟩
  obtain ⟨y0, y1⟩ : (w.alloc zcell).frozen? ⟨w.heap.size, 0, none⟩ = false ∧ (w.alloc zcell).frozen? ⟨w.heap.size, 1, none⟩ = false := ⟨frozen_of_block hnew 0, frozen_of_block hnew 1⟩
  clear hnew
  go_enter Try.func63, Try.ntmps63
  go_wp2_with fail
  exact bodyPost_ret (v := .agg #[.int .u64 0, .int .u64 0]) (by simp [results, Try.results63, go_sem, z0, z1]) rfl
    ⟨rfl, by repeat (first | (with_reducible exact Below.refl _ _) | (with_reducible refine Below.alloc ?_ (by simp) _) | refine Below.setCell ?_ (by simp) _)⟩
set_option maxRecDepth 100000 in
theorem iCar_nil (w : World) (i : Int) : Calls Try.prog 34 #[.pointer none, .int .i64 i] w fun e w' => e = .returned (.int .u64 0) ∧ Below w.heap.size w w' := by
  go_enter Try.func34, Try.ntmps34
  go_wp2_with fail
  refine (icell_nil _ i).mono ?_
  rintro e w' ⟨rfl, hb⟩
  have HB := Lib.hid hb
  clear hb
  have f0 := cell_f0 w' 0 0
  have f1 := pair_f0 w' 0 0
  have f2 := pair_f1 w' 0 0
  go_wp2_with fail
  go_ret
  exact ⟨rfl, HB.out⟩
theorem car_is (w : World) (T : Nat → Prop) (b : Nat) (s : Sto) (h : IsSto w T b s) (i : Int) :
    Calls Try.prog 34 #[.pointer (some ⟨b, 0, none⟩), .int .i64 i] w fun e w' => e = .returned (.int .u64 (s.carAt i)) ∧ Below w.heap.size w w' := by
  obtain ⟨gr, kr, vg, vc, h⟩ := h
  exact iCar_any w T b s gr kr vg vc h i
set_option maxRecDepth 100000 in
theorem iCdr_nil (w : World) (i : Int) : Calls Try.prog 35 #[.pointer none, .int .i64 i] w fun e w' => e = .returned (.int .u64 0) ∧ Below w.heap.size w w' := by
  go_enter Try.func35, Try.ntmps35
  go_wp2_with fail
  refine (icell_nil _ i).mono ?_
  rintro e w' ⟨rfl, hb⟩
  have HB := Lib.hid hb
  clear hb
  have f0 := cell_f0 w' 0 0
  have f1 := pair_f0 w' 0 0
  have f2 := pair_f1 w' 0 0
  go_wp2_with fail
  go_ret
  exact ⟨rfl, HB.out⟩
theorem cdr_is (w : World) (T : Nat → Prop) (b : Nat) (s : Sto) (h : IsSto w T b s) (i : Int) :
    Calls Try.prog 35 #[.pointer (some ⟨b, 0, none⟩), .int .i64 i] w fun e w' => e = .returned (.int .u64 (s.cdrAt i)) ∧ Below w.heap.size w w' := by
  obtain ⟨gr, kr, vg, vc, h⟩ := h
  exact iCdr_any w T b s gr kr vg vc h i

/-! what an operation leaves as it was -/
theorem act_ask (s : Sto) (m : Int) (x : Opr) (f : Bool) (h : x.kind = 10 ∨ x.kind = 11) : (s.act m x f).1 = s := by
  unfold Sto.act
  split
  · unfold Sto.did
    rw [if_neg (by omega), if_neg (by omega), if_neg (by omega), if_neg (by omega), if_neg (by omega), if_neg (by omega), if_neg (by omega), if_neg (by omega), if_neg (by omega)]
    split <;> rfl
  · rfl
theorem act_ret (s : Sto) (m : Int) (x : Opr) (f : Bool) (h1 : x.kind ≠ 10) (h2 : x.kind ≠ 11) : ((s.act m x f).2 == 2) = false ∧ ((s.act m x f).2 == 3) = false ∧ ((s.act m x f).2 == 0) = false := by
  unfold Sto.act
  by_cases hfit : s.fits m x = true
  case neg => rw [if_neg hfit]; exact ⟨rfl, rfl, rfl⟩
  rw [if_pos hfit]
  unfold Sto.fits at hfit
  rw [Bool.and_eq_true, decide_eq_true_iff, beq_iff_eq] at hfit
  obtain ⟨_, hr⟩ := right_of_err hfit.2
  have hk := hr.kind
  unfold Sto.did
  by_cases c1 : x.kind = 1
  · rw [if_pos c1]; exact ⟨rfl, rfl, rfl⟩
  by_cases c2 : x.kind = 2
  · rw [if_neg c1, if_pos c2]; exact ⟨rfl, rfl, rfl⟩
  by_cases c3 : x.kind = 3
  · rw [if_neg c1, if_neg c2, if_pos c3]
    split <;> exact ⟨rfl, rfl, rfl⟩
  by_cases c4 : x.kind = 4
  · rw [if_neg c1, if_neg c2, if_neg c3, if_pos c4]
    split <;> exact ⟨rfl, rfl, rfl⟩
  by_cases c5 : x.kind = 5
  · rw [if_neg c1, if_neg c2, if_neg c3, if_neg c4, if_pos c5]
    split <;> exact ⟨rfl, rfl, rfl⟩
  by_cases c6 : x.kind = 6
  · rw [if_neg c1, if_neg c2, if_neg c3, if_neg c4, if_neg c5, if_pos c6]
    split <;> exact ⟨rfl, rfl, rfl⟩
  by_cases c7 : x.kind = 7
  · rw [if_neg c1, if_neg c2, if_neg c3, if_neg c4, if_neg c5, if_neg c6, if_pos c7]
    split <;> exact ⟨rfl, rfl, rfl⟩
  by_cases c8 : x.kind = 8
  · rw [if_neg c1, if_neg c2, if_neg c3, if_neg c4, if_neg c5, if_neg c6, if_neg c7, if_pos c8]; exact ⟨rfl, rfl, rfl⟩
  · rw [if_neg c1, if_neg c2, if_neg c3, if_neg c4, if_neg c5, if_neg c6, if_neg c7, if_neg c8, if_pos (by omega)]; exact ⟨rfl, rfl, rfl⟩
theorem setReg_at {s : Sto} (h : s.Ok) {m r : Int} (hm : 0 ≤ m ∧ m < s.c.muts) (hr : 0 ≤ r ∧ r < s.c.regs) (v m' r' : Int) (hne : (s.setReg m r v).regAt m' r' ≠ s.regAt m' r') : m' = m ∧ r' = r := by
  rw [regAt_setReg h hm hr] at hne
  split at hne
  · rename_i e; exact ⟨e.1.symm, e.2.symm⟩
  · exact absurd rfl hne
theorem act_reg {s : Sto} (h : s.Ok) (m : Int) (x : Opr) (f : Bool) (hx : x.b < 9223372036854775808) (hf : s.cs.length < 1000000) (m' r' : Int) (hne : (s.act m x f).1.regAt m' r' ≠ s.regAt m' r') : m' = m ∧ r' = x.a ∧ x.kind ≠ 10 ∧ x.kind ≠ 11 := by
  have hask : x.kind ≠ 10 ∧ x.kind ≠ 11 := by
    constructor
    · intro e; exact hne (by rw [act_ask s m x f (Or.inl e)])
    · intro e; exact hne (by rw [act_ask s m x f (Or.inr e)])
  refine (fun (q : m' = m ∧ r' = x.a) => ⟨q.1, q.2, hask⟩) ?_
  unfold Sto.act at hne
  by_cases hfit : s.fits m x = true
  case neg => rw [if_neg hfit] at hne; exact absurd rfl hne
  rw [if_pos hfit] at hne
  unfold Sto.fits at hfit
  rw [Bool.and_eq_true, decide_eq_true_iff, beq_iff_eq] at hfit
  obtain ⟨hm, herr⟩ := hfit
  obtain ⟨_, hr⟩ := right_of_err herr
  have hk := hr.kind
  unfold Sto.did at hne
  by_cases c1 : x.kind = 1
  · rw [if_pos c1] at hne
    exact setReg_at h hm (hr.a (by omega)) _ _ _ hne
  by_cases c2 : x.kind = 2
  · rw [if_neg c1, if_pos c2] at hne
    exact setReg_at h hm (hr.a (by omega)) _ _ _ hne
  by_cases c3 : x.kind = 3
  · rw [if_neg c1, if_neg c2, if_pos c3] at hne
    have hb' := hr.b (by omega) (by omega) (by omega)
    have hc' := hr.cc c3
    split at hne
    · exact absurd rfl hne
    · have h2 := h.push (p := (s.reg m x.b, s.reg m x.c)) ⟨h.regW hm.1 hm.2 hb'.1 hb'.2, h.regW hm.1 hm.2 hc'.1 hc'.2⟩ hf
      exact setReg_at h2 hm (hr.a (by omega)) _ _ _ hne
  by_cases c4 : x.kind = 4
  · rw [if_neg c1, if_neg c2, if_neg c3, if_pos c4] at hne
    split at hne
    · exact absurd rfl hne
    · exact setReg_at h hm (hr.a (by omega)) _ _ _ hne
  by_cases c5 : x.kind = 5
  · rw [if_neg c1, if_neg c2, if_neg c3, if_neg c4, if_pos c5] at hne
    split at hne
    · exact absurd rfl hne
    · exact setReg_at h hm (hr.a (by omega)) _ _ _ hne
  by_cases c6 : x.kind = 6
  · rw [if_neg c1, if_neg c2, if_neg c3, if_neg c4, if_neg c5, if_pos c6] at hne
    split at hne
    · exact absurd rfl hne
    · exact absurd rfl hne
  by_cases c7 : x.kind = 7
  · rw [if_neg c1, if_neg c2, if_neg c3, if_neg c4, if_neg c5, if_neg c6, if_pos c7] at hne
    split at hne
    · exact absurd rfl hne
    · exact absurd rfl hne
  by_cases c8 : x.kind = 8
  · rw [if_neg c1, if_neg c2, if_neg c3, if_neg c4, if_neg c5, if_neg c6, if_neg c7, if_pos c8] at hne
    exact setReg_at h hm (hr.a (by omega)) _ _ _ hne
  · rw [if_neg c1, if_neg c2, if_neg c3, if_neg c4, if_neg c5, if_neg c6, if_neg c7, if_neg c8, if_pos (by omega)] at hne
    exact absurd rfl hne
theorem act_cell (s : Sto) (m : Int) (x : Opr) (f : Bool) (h6 : x.kind ≠ 6) (h7 : x.kind ≠ 7) (j : Nat) (hj : j < s.cs.length) : (s.act m x f).1.carAt j = s.carAt j ∧ (s.act m x f).1.cdrAt j = s.cdrAt j := by
  unfold Sto.act
  split
  · unfold Sto.did
    by_cases c3 : x.kind = 3
    · rw [if_neg (by omega), if_neg (by omega), if_pos c3]
      split
      · exact ⟨rfl, rfl⟩
      · have h1 := (carAt_push (s := s) (s.reg m x.b, s.reg m x.c) j).1
        have h2 := (carAt_push (s := s) (s.reg m x.b, s.reg m x.c) j).2
        rw [if_neg (by omega)] at h1 h2
        exact ⟨h1, h2⟩
    · rw [if_neg (show ¬ x.kind = 6 from h6), if_neg (show ¬ x.kind = 7 from h7), if_neg c3]
      repeat' split
      all_goals exact ⟨rfl, rfl⟩
  · exact ⟨rfl, rfl⟩
theorem set_cs (s : Sto) (m : Int) (f : Bool) : (s.act m ⟨1, 0, 7, 0⟩ f).1.cs = s.cs := by
  unfold Sto.act
  split
  · rfl
  · rfl
theorem set_car (s : Sto) (m : Int) (f : Bool) (j : Int) : (s.act m ⟨1, 0, 7, 0⟩ f).1.carAt j = s.carAt j ∧ (s.act m ⟨1, 0, 7, 0⟩ f).1.cdrAt j = s.cdrAt j := by
  have e := set_cs s m f
  unfold Sto.carAt Sto.cdrAt Sto.car Sto.cdr
  rw [e]
  exact ⟨rfl, rfl⟩

set_option maxHeartbeats 400000000 in
set_option maxRecDepth 100000 in
theorem apart_none (w : World) (m r g : Int) (A : Option Addr) (c : Nat) (l : List Actn) (ok : ¬ (⟨2, m, r, g⟩ : Cfg).ok = true) :
    Calls Try.prog 8 #[.int .i64 m, .int .i64 r, .int .i64 g, .slice A l.length c] w fun e w' => e = .returned (.bool true) ∧ Below w.heap.size w w' := by
  have OK := Lib.hid ok
  clear ok
  go_enter Try.func8, Try.ntmps8
  go_wp2_with fail
  refine (ideal_awake _).mono ?_
  rintro e ww ⟨rfl, hB⟩
  have HBw := Lib.hid hB
  clear hB
  go_wp2_with fail
  refine (ido_nil _ 0 ⟨11, 0, 0, 0⟩ false).mono ?_
  rintro e wn1 ⟨rfl, hB⟩
  have HN1 : Hid (Below w.heap.size w wn1) := HBw.out.trans (hB.mono HBw.out.size)
  clear hB
  go_wp2_with fail
  refine (ireg_nil _ 0 0).mono ?_
  rintro e wn2 ⟨rfl, hw⟩
  obtain rfl := hw.symm
  clear hw
  go_wp2_with fail
  refine (iglob_nil _ 0).mono ?_
  rintro e wn2 ⟨rfl, hw⟩
  obtain rfl := hw.symm
  clear hw
  go_wp2_with fail
  refine (iCar_nil _ 0).mono ?_
  rintro e wn2 ⟨rfl, hB⟩
  have HN2 : Hid (Below w.heap.size w wn2) := HN1.out.trans (hB.mono HN1.out.size)
  clear hB
  go_wp2_with fail
  refine (iCdr_nil _ 0).mono ?_
  rintro e w0 ⟨rfl, hB⟩
  have HB0 : Hid (Below w.heap.size w w0) := HN2.out.trans (hB.mono HN2.out.size)
  clear hB
  go_wp2_with fail
  refine (ilen_nil _).mono ?_
  rintro e wn3 ⟨rfl, hw⟩
  obtain rfl := hw.symm
  clear hw
  go_wp2_with fail
  refine (icopy_nil _).mono ?_
  rintro e wn3 ⟨rfl, hw⟩
  obtain rfl := hw.symm
  clear hw
  go_wp2_with fail
  refine (inew_any _ m r g).mono ?_
  rintro e w1 ⟨hB, h⟩
  rw [if_neg OK.out] at h
  subst h
  have HB1 : Hid (Below w.heap.size w w1) := HB0.out.trans (hB.mono HB0.out.size)
  clear hB
  go_wp2_with fail
  go_ret
  exact ⟨rfl, HB1.out⟩
set_option maxHeartbeats 400000000 in
set_option maxRecDepth 100000 in
theorem apart_big (w : World) (m r g : Int) (A : Option Addr) (c : Nat) (l : List Actn) (ok : (⟨2, m, r, g⟩ : Cfg).ok = true) (hs : ¬ Small m r g l.length) :
    Calls Try.prog 8 #[.int .i64 m, .int .i64 r, .int .i64 g, .slice A l.length c] w fun e w' => e = .returned (.bool true) ∧ Below w.heap.size w w' := by
  have OK := Lib.hid ok
  clear ok
  unfold Small at hs
  by_cases c0 : 12 < m
  · have d0 : decide (12 < m) = true := by simpa using c0
    clear hs c0
    go_enter Try.func8, Try.ntmps8
    go_wp2_with fail
    refine (ideal_awake _).mono ?_
    rintro e ww ⟨rfl, hB⟩
    have HBw := Lib.hid hB
    clear hB
    go_wp2_with fail
    refine (ido_nil _ 0 ⟨11, 0, 0, 0⟩ false).mono ?_
    rintro e wn1 ⟨rfl, hB⟩
    have HN1 : Hid (Below w.heap.size w wn1) := HBw.out.trans (hB.mono HBw.out.size)
    clear hB
    go_wp2_with fail
    refine (ireg_nil _ 0 0).mono ?_
    rintro e wn2 ⟨rfl, hw⟩
    obtain rfl := hw.symm
    clear hw
    go_wp2_with fail
    refine (iglob_nil _ 0).mono ?_
    rintro e wn2 ⟨rfl, hw⟩
    obtain rfl := hw.symm
    clear hw
    go_wp2_with fail
    refine (iCar_nil _ 0).mono ?_
    rintro e wn2 ⟨rfl, hB⟩
    have HN2 : Hid (Below w.heap.size w wn2) := HN1.out.trans (hB.mono HN1.out.size)
    clear hB
    go_wp2_with fail
    refine (iCdr_nil _ 0).mono ?_
    rintro e w0 ⟨rfl, hB⟩
    have HB0 : Hid (Below w.heap.size w w0) := HN2.out.trans (hB.mono HN2.out.size)
    clear hB
    go_wp2_with fail
    refine (ilen_nil _).mono ?_
    rintro e wn3 ⟨rfl, hw⟩
    obtain rfl := hw.symm
    clear hw
    go_wp2_with fail
    refine (icopy_nil _).mono ?_
    rintro e wn3 ⟨rfl, hw⟩
    obtain rfl := hw.symm
    clear hw
    go_wp2_with fail
    refine (new_at _ m r g OK.out).mono ?_
    rintro e w1 ⟨⟨b, rfl, hs⟩, hB⟩
    have HB1 : Hid (Below w.heap.size w w1) := HB0.out.trans (hB.mono HB0.out.size)
    clear hB hs
    go_wp2_with fail
    go_ret
    exact ⟨rfl, HB1.out⟩
  have d0 : decide (12 < m) = false := by simpa using c0
  by_cases c1 : 8 < r
  · have d1 : decide (8 < r) = true := by simpa using c1
    clear hs c1
    go_enter Try.func8, Try.ntmps8
    go_wp2_with fail
    refine (ideal_awake _).mono ?_
    rintro e ww ⟨rfl, hB⟩
    have HBw := Lib.hid hB
    clear hB
    go_wp2_with fail
    refine (ido_nil _ 0 ⟨11, 0, 0, 0⟩ false).mono ?_
    rintro e wn1 ⟨rfl, hB⟩
    have HN1 : Hid (Below w.heap.size w wn1) := HBw.out.trans (hB.mono HBw.out.size)
    clear hB
    go_wp2_with fail
    refine (ireg_nil _ 0 0).mono ?_
    rintro e wn2 ⟨rfl, hw⟩
    obtain rfl := hw.symm
    clear hw
    go_wp2_with fail
    refine (iglob_nil _ 0).mono ?_
    rintro e wn2 ⟨rfl, hw⟩
    obtain rfl := hw.symm
    clear hw
    go_wp2_with fail
    refine (iCar_nil _ 0).mono ?_
    rintro e wn2 ⟨rfl, hB⟩
    have HN2 : Hid (Below w.heap.size w wn2) := HN1.out.trans (hB.mono HN1.out.size)
    clear hB
    go_wp2_with fail
    refine (iCdr_nil _ 0).mono ?_
    rintro e w0 ⟨rfl, hB⟩
    have HB0 : Hid (Below w.heap.size w w0) := HN2.out.trans (hB.mono HN2.out.size)
    clear hB
    go_wp2_with fail
    refine (ilen_nil _).mono ?_
    rintro e wn3 ⟨rfl, hw⟩
    obtain rfl := hw.symm
    clear hw
    go_wp2_with fail
    refine (icopy_nil _).mono ?_
    rintro e wn3 ⟨rfl, hw⟩
    obtain rfl := hw.symm
    clear hw
    go_wp2_with fail
    refine (new_at _ m r g OK.out).mono ?_
    rintro e w1 ⟨⟨b, rfl, hs⟩, hB⟩
    have HB1 : Hid (Below w.heap.size w w1) := HB0.out.trans (hB.mono HB0.out.size)
    clear hB hs
    go_wp2_with fail
    go_ret
    exact ⟨rfl, HB1.out⟩
  have d1 : decide (8 < r) = false := by simpa using c1
  by_cases c2 : 8 < g
  · have d2 : decide (8 < g) = true := by simpa using c2
    clear hs c2
    go_enter Try.func8, Try.ntmps8
    go_wp2_with fail
    refine (ideal_awake _).mono ?_
    rintro e ww ⟨rfl, hB⟩
    have HBw := Lib.hid hB
    clear hB
    go_wp2_with fail
    refine (ido_nil _ 0 ⟨11, 0, 0, 0⟩ false).mono ?_
    rintro e wn1 ⟨rfl, hB⟩
    have HN1 : Hid (Below w.heap.size w wn1) := HBw.out.trans (hB.mono HBw.out.size)
    clear hB
    go_wp2_with fail
    refine (ireg_nil _ 0 0).mono ?_
    rintro e wn2 ⟨rfl, hw⟩
    obtain rfl := hw.symm
    clear hw
    go_wp2_with fail
    refine (iglob_nil _ 0).mono ?_
    rintro e wn2 ⟨rfl, hw⟩
    obtain rfl := hw.symm
    clear hw
    go_wp2_with fail
    refine (iCar_nil _ 0).mono ?_
    rintro e wn2 ⟨rfl, hB⟩
    have HN2 : Hid (Below w.heap.size w wn2) := HN1.out.trans (hB.mono HN1.out.size)
    clear hB
    go_wp2_with fail
    refine (iCdr_nil _ 0).mono ?_
    rintro e w0 ⟨rfl, hB⟩
    have HB0 : Hid (Below w.heap.size w w0) := HN2.out.trans (hB.mono HN2.out.size)
    clear hB
    go_wp2_with fail
    refine (ilen_nil _).mono ?_
    rintro e wn3 ⟨rfl, hw⟩
    obtain rfl := hw.symm
    clear hw
    go_wp2_with fail
    refine (icopy_nil _).mono ?_
    rintro e wn3 ⟨rfl, hw⟩
    obtain rfl := hw.symm
    clear hw
    go_wp2_with fail
    refine (new_at _ m r g OK.out).mono ?_
    rintro e w1 ⟨⟨b, rfl, hs⟩, hB⟩
    have HB1 : Hid (Below w.heap.size w w1) := HB0.out.trans (hB.mono HB0.out.size)
    clear hB hs
    go_wp2_with fail
    go_ret
    exact ⟨rfl, HB1.out⟩
  have d2 : decide (8 < g) = false := by simpa using c2
  have d3 : decide (60 < (l.length : Int)) = true := by simp; omega
  clear hs c0 c1 c2
  go_enter Try.func8, Try.ntmps8
  go_wp2_with fail
  refine (ideal_awake _).mono ?_
  rintro e ww ⟨rfl, hB⟩
  have HBw := Lib.hid hB
  clear hB
  go_wp2_with fail
  refine (ido_nil _ 0 ⟨11, 0, 0, 0⟩ false).mono ?_
  rintro e wn1 ⟨rfl, hB⟩
  have HN1 : Hid (Below w.heap.size w wn1) := HBw.out.trans (hB.mono HBw.out.size)
  clear hB
  go_wp2_with fail
  refine (ireg_nil _ 0 0).mono ?_
  rintro e wn2 ⟨rfl, hw⟩
  obtain rfl := hw.symm
  clear hw
  go_wp2_with fail
  refine (iglob_nil _ 0).mono ?_
  rintro e wn2 ⟨rfl, hw⟩
  obtain rfl := hw.symm
  clear hw
  go_wp2_with fail
  refine (iCar_nil _ 0).mono ?_
  rintro e wn2 ⟨rfl, hB⟩
  have HN2 : Hid (Below w.heap.size w wn2) := HN1.out.trans (hB.mono HN1.out.size)
  clear hB
  go_wp2_with fail
  refine (iCdr_nil _ 0).mono ?_
  rintro e w0 ⟨rfl, hB⟩
  have HB0 : Hid (Below w.heap.size w w0) := HN2.out.trans (hB.mono HN2.out.size)
  clear hB
  go_wp2_with fail
  refine (ilen_nil _).mono ?_
  rintro e wn3 ⟨rfl, hw⟩
  obtain rfl := hw.symm
  clear hw
  go_wp2_with fail
  refine (icopy_nil _).mono ?_
  rintro e wn3 ⟨rfl, hw⟩
  obtain rfl := hw.symm
  clear hw
  go_wp2_with fail
  refine (new_at _ m r g OK.out).mono ?_
  rintro e w1 ⟨⟨b, rfl, hs⟩, hB⟩
  have HB1 : Hid (Below w.heap.size w w1) := HB0.out.trans (hB.mono HB0.out.size)
  clear hB hs
  go_wp2_with fail
  go_ret
  exact ⟨rfl, HB1.out⟩
set_option maxHeartbeats 400000000 in
set_option maxRecDepth 100000 in
theorem apart_walk (w : World) (m r g : Int) (A : Option Addr) (c : Nat) (l : List Actn) (hl : Acts w w.heap.size A l) (hfit : ∀ a ∈ l, a.fits) :
    Calls Try.prog 8 #[.int .i64 m, .int .i64 r, .int .i64 g, .slice A l.length c] w fun e w' => e = .returned (.bool true) ∧ Below w.heap.size w w' := by
  by_cases ok : (⟨2, m, r, g⟩ : Cfg).ok = true
  case neg => exact apart_none w m r g A c l ok
  by_cases hsm : Small m r g l.length
  case neg => exact apart_big w m r g A c l ok hsm
  obtain ⟨s0, s1, s2, s3⟩ := hsm
  have HL := Lib.hid hl
  have HF := Lib.hid hfit
  have OK := Lib.hid ok
  have d0 : decide (12 < m) = false := by simp; omega
  have d1 : decide (8 < r) = false := by simp; omega
  have d2 : decide (8 < g) = false := by simp; omega
  have d3 : decide (60 < (l.length : Int)) = false := by simp; omega
  clear hl hfit ok
  go_enter Try.func8, Try.ntmps8
  go_wp2_with fail
  refine (ideal_awake _).mono ?_
  rintro e ww ⟨rfl, hB⟩
  have HBw := Lib.hid hB
  clear hB
  go_wp2_with fail
  refine (ido_nil _ 0 ⟨11, 0, 0, 0⟩ false).mono ?_
  rintro e wn1 ⟨rfl, hB⟩
  have HN1 : Hid (Below w.heap.size w wn1) := HBw.out.trans (hB.mono HBw.out.size)
  clear hB
  go_wp2_with fail
  refine (ireg_nil _ 0 0).mono ?_
  rintro e wn2 ⟨rfl, hw⟩
  obtain rfl := hw.symm
  clear hw
  go_wp2_with fail
  refine (iglob_nil _ 0).mono ?_
  rintro e wn2 ⟨rfl, hw⟩
  obtain rfl := hw.symm
  clear hw
  go_wp2_with fail
  refine (iCar_nil _ 0).mono ?_
  rintro e wn2 ⟨rfl, hB⟩
  have HN2 : Hid (Below w.heap.size w wn2) := HN1.out.trans (hB.mono HN1.out.size)
  clear hB
  go_wp2_with fail
  refine (iCdr_nil _ 0).mono ?_
  rintro e w0 ⟨rfl, hB⟩
  have HB0 : Hid (Below w.heap.size w w0) := HN2.out.trans (hB.mono HN2.out.size)
  clear hB
  go_wp2_with fail
  refine (ilen_nil _).mono ?_
  rintro e wn3 ⟨rfl, hw⟩
  obtain rfl := hw.symm
  clear hw
  go_wp2_with fail
  refine (icopy_nil _).mono ?_
  rintro e wn3 ⟨rfl, hw⟩
  obtain rfl := hw.symm
  clear hw
  go_wp2_with fail
  refine (new_at _ m r g OK.out).mono ?_
  rintro e w1 ⟨⟨b, rfl, hs⟩, hB⟩
  have HB1 : Hid (Below w.heap.size w w1) := HB0.out.trans (hB.mono HB0.out.size)
  have HS1 := Lib.hid hs
  have HZ1 := Lib.hid hB.size
  obtain ⟨_, _, hm0', _, hr0', _, _, _⟩ := Cfg.ok_iff _ |>.1 OK.out
  have hm0 : 0 ≤ m := by simp only at hm0'; omega
  have hr0 : 0 ≤ r := by simp only at hr0'; omega
  clear hB hs hm0' hr0'
  go_wp2_with fail
  go_loopw [12, 13, 14, 15, 16, 17, 18] (fun i _ _ _ _ _ _ wr => ∃ (k : Nat) (s : Sto), k ≤ l.length ∧ i = .int .i64 k ∧ s.cs.length ≤ k ∧ IsSto wr (fun y => w0.heap.size ≤ y ∧ y < wr.heap.size) b s ∧ Below w.heap.size w wr ∧ w0.heap.size ≤ wr.heap.size) (fun i _ _ _ _ _ _ _ => l.length - (intOf i).toNat)
  case atStart => exact ⟨0, Sto.new m r g, Nat.zero_le _, rfl, by simp [Sto.new], HS1.out, HB1.out, HZ1.out⟩
  case round =>
    obtain ⟨k, s, hk, rfl, hsl, hs, hB, hz⟩ := hrel
    have HS := Lib.hid hs
    have HB := Lib.hid hB
    have HZ := Lib.hid hz
    clear hs hB hz HS1
    by_cases hlt : k < l.length
    · obtain ⟨ak, hak⟩ : ∃ ak, l[k]? = some ak := ⟨_, List.getElem?_eq_getElem hlt⟩
      obtain ⟨ad, rfl, hadB, q0, q1, q2, q3, q4, q5⟩ := HL.out.cell HB.out hak
      have hfk := HF.out _ (List.mem_of_getElem? hak)
      have HSL := Lib.hid hsl
      have HXB : Hid (ak.x.b < 9223372036854775808) := by have := hfk.2.2.2.1.2; unfold Hid; omega
      have HBWr := Lib.hid HB.out.size
      clear hfk hadB hsl hak
      go_wp2_with fail
      have HSV := Lib.hid (HS.out.keep ((Keep.refl (fun _ => False) wr).alloc (.cells #[.int .i64 ak.m, .int .i64 ak.x.kind, .int .i64 ak.x.a, .int .i64 ak.x.b, .int .i64 ak.x.c, .bool ak.full] 63)) (fun _ _ => id))
      have HNV := Lib.hid (heap_alloc_new wr (.cells #[.int .i64 ak.m, .int .i64 ak.x.kind, .int .i64 ak.x.a, .int .i64 ak.x.b, .int .i64 ak.x.c, .bool ak.full] 63))
      refine (copy_is _ _ b s HSV.out).mono ?_
      rintro e wa ⟨ba, rfl, hsa, hBa⟩
      have HNA : Hid (wa.heap[wr.heap.size]? = some (.cells #[.int .i64 ak.m, .int .i64 ak.x.kind, .int .i64 ak.x.a, .int .i64 ak.x.b, .int .i64 ak.x.c, .bool ak.full] 63)) := (hBa.block _ (by simp)).trans HNV.out
      have HSA := Lib.hid hsa
      have HS_a := Lib.hid (HSV.out.below hBa)
      have HBa : Hid (Below w.heap.size w wa) := (HB.out.alloc HB.out.size _).trans (hBa.mono (by have := HB.out.size; simp; omega))
      have HZa : Hid (wr.heap.size + 1 ≤ wa.heap.size) := by have := hBa.size; unfold Hid; simpa using this
      clear hsa hBa q0 q1 q2 q3 q4 q5
      have v0 : wa.cell? ⟨wr.heap.size, 0, none⟩ = some (.int .i64 ak.m) := cell_of_block HNA.out 0
      have v1 : wa.cell? ⟨wr.heap.size, 1, none⟩ = some (.int .i64 ak.x.kind) := cell_of_block HNA.out 1
      have v2 : wa.cell? ⟨wr.heap.size, 2, none⟩ = some (.int .i64 ak.x.a) := cell_of_block HNA.out 2
      have v3 : wa.cell? ⟨wr.heap.size, 3, none⟩ = some (.int .i64 ak.x.b) := cell_of_block HNA.out 3
      have v4 : wa.cell? ⟨wr.heap.size, 4, none⟩ = some (.int .i64 ak.x.c) := cell_of_block HNA.out 4
      have v5 : wa.cell? ⟨wr.heap.size, 5, none⟩ = some (.bool ak.full) := cell_of_block HNA.out 5
      by_cases hask : ak.x.kind = 10 ∨ ak.x.kind = 11
      · have HACT := Lib.hid (act_ask s ak.m ak.x ak.full hask)
        rcases hask with h10 | h11
        · have t10 : (ak.x.kind == 10) = true := by rw [beq_iff_eq]; exact h10
          clear h10
          go_wp2_with fail
          refine (do_is _ _ b s HS_a.out ak.m ak.x ak.full HXB.out (by have := HSL.out; omega)).mono ?_
          rintro e wb ⟨rfl, hst, hkk⟩
          have HNB : Hid (wb.heap[wr.heap.size]? = some (.cells #[.int .i64 ak.m, .int .i64 ak.x.kind, .int .i64 ak.x.a, .int .i64 ak.x.b, .int .i64 ak.x.c, .bool ak.full] 63)) := hkk.at_ HNA.out (fun hx => by have := hx.2; omega)
          have HSB := Lib.hid hst
          have HAB := Lib.hid (HSA.out.keep hkk (fun y hy hz => by have h1 := hy.1; have h2 := hz.2; simp at h1; omega))
          have HBb : Hid (Below w.heap.size w wb) := HBa.out.trans (hkk.below HBa.out.size (fun y hy => by have := hy.1; have := HB0.out.size; omega))
          have HZb := Lib.hid hkk.size
          clear hst hkk v0 v1 v2 v3 v4 v5
          have v0 : wb.cell? ⟨wr.heap.size, 0, none⟩ = some (.int .i64 ak.m) := cell_of_block HNB.out 0
          have v1 : wb.cell? ⟨wr.heap.size, 1, none⟩ = some (.int .i64 ak.x.kind) := cell_of_block HNB.out 1
          have v2 : wb.cell? ⟨wr.heap.size, 2, none⟩ = some (.int .i64 ak.x.a) := cell_of_block HNB.out 2
          have v3 : wb.cell? ⟨wr.heap.size, 3, none⟩ = some (.int .i64 ak.x.b) := cell_of_block HNB.out 3
          have v4 : wb.cell? ⟨wr.heap.size, 4, none⟩ = some (.int .i64 ak.x.c) := cell_of_block HNB.out 4
          have v5 : wb.cell? ⟨wr.heap.size, 5, none⟩ = some (.bool ak.full) := cell_of_block HNB.out 5
          go_wp2_with fail
          refine (len_is _ _ b _ HSB.out).mono ?_
          rintro e w3 ⟨rfl, hw⟩
          obtain rfl := hw.symm
          clear hw
          rw [HACT.out]
          go_wp2_with fail
          refine (len_is _ _ ba _ HAB.out).mono ?_
          rintro e w3 ⟨rfl, hw⟩
          obtain rfl := hw.symm
          clear hw t10
          go_wp2_with fail
          go_loopw [16, 17] (fun mm _ wr' => ∃ (a n : Nat), (a : Int) ≤ m ∧ mm = .int .i64 a ∧ wr' = wb.drewN n) (fun mm _ _ => m.toNat - (intOf mm).toNat)
          case atStart => exact ⟨0, 0, hm0, rfl, rfl⟩
          case round =>
            obtain ⟨a, n, ha, rfl, rfl⟩ := hrel
            by_cases hlt2 : (a : Int) < m
            · go_wp2_with fail
              go_loopw [17] (fun rr wr' => ∃ (c' n : Nat), (c' : Int) ≤ r ∧ rr = .int .i64 c' ∧ wr' = wb.drewN n) (fun rr _ => r.toNat - (intOf rr).toNat)
              case atStart => exact ⟨0, n, hr0, rfl, rfl⟩
              case round =>
                obtain ⟨c', n', hc', rfl, rfl⟩ := hrel
                by_cases hlt3 : (c' : Int) < r
                · have hreg := act_reg HS.out.ok ak.m ak.x ak.full HXB.out (by have := HSL.out; omega) a c'
                  obtain ⟨u, hu⟩ : ∃ u, (s.act ak.m ak.x ak.full).1.regAt a c' = u := ⟨_, rfl⟩
                  obtain ⟨v, hv⟩ : ∃ v, s.regAt a c' = v := ⟨_, rfl⟩
                  rw [hu, hv] at hreg
                  have HU := Lib.hid hu
                  have HV := Lib.hid hv
                  clear hu hv
                  by_cases huv : u = v
                  · have e1 : (u != v) = false := by simp [huv]
                    clear hreg huv
                    go_wp2_with fail
                    refine (reg_at _ _ b _ (HSB.out.drewN _) a c').mono ?_
                    rintro e w3 ⟨rfl, n1, rfl⟩
                    rw [HU.out]
                    go_wp2_with fail
                    refine (reg_at _ _ ba _ (HAB.out.drewN _) a c').mono ?_
                    rintro e w4 ⟨rfl, n2, rfl⟩
                    rw [HV.out]
                    go_wp2_with fail
                    go_roundw
                    case rel => exact ⟨c' + 1, _, by omega, by go_num, rfl⟩
                    case measure => simp [intOf]; omega
                  · obtain ⟨g1, g2, g3, g4⟩ := hreg huv
                    have e1 : (u != v) = true := by simpa using huv
                    have e2 : ((a : Int) != ak.m) = false := by simp [g1]
                    have e3 : ((c' : Int) != ak.x.a) = false := by simp [g2]
                    have e4 : (ak.x.kind == 10) = false := by simpa using g3
                    have e5 : (ak.x.kind == 11) = false := by simpa using g4
                    clear hreg huv g1 g2 g3 g4
                    go_wp2_with fail
                    refine (reg_at _ _ b _ (HSB.out.drewN _) a c').mono ?_
                    rintro e w3 ⟨rfl, n1, rfl⟩
                    rw [HU.out]
                    go_wp2_with fail
                    refine (reg_at _ _ ba _ (HAB.out.drewN _) a c').mono ?_
                    rintro e w4 ⟨rfl, n2, rfl⟩
                    rw [HV.out]
                    go_wp2_with fail
                    go_roundw
                    case rel => exact ⟨c' + 1, _, by omega, by go_num, rfl⟩
                    case measure => simp [intOf]; omega
                · go_wp2_with fail
                  go_roundw
                  case rel => exact ⟨a + 1, _, by omega, by go_num, rfl⟩
                  case measure => simp [intOf]; omega
            · go_wp2_with fail
              refine (do_is _ _ ba s (HAB.out.drewN n) ak.m ⟨1, 0, 7, 0⟩ false (by decide) (by have := HSL.out; omega)).mono ?_
              rintro e wc ⟨rfl, hst, hkk⟩
              have HNC : Hid (wc.heap[wr.heap.size]? = some (.cells #[.int .i64 ak.m, .int .i64 ak.x.kind, .int .i64 ak.x.a, .int .i64 ak.x.b, .int .i64 ak.x.c, .bool ak.full] 63)) := hkk.at_ HNB.out (fun hx => by have h1 := hx.1; simp at h1; omega)
              have HAC := Lib.hid hst
              have HSC := Lib.hid ((HSB.out.drewN n).keep hkk (fun y hy hz => by have h1 := hz.1; have h2 := hz.2; have h3 := HZb.out; simp at h1; rcases hy with hy | hy <;> (have := hy.1; have := hy.2; omega)))
              have HBc : Hid (Below w.heap.size w wc) := (below_drewN HBb.out n).trans (hkk.below HBb.out.size (fun y hy => by have h1 := hy.1; have := HBWr.out; simp at h1; omega))
              have HZc : Hid (wb.heap.size ≤ wc.heap.size) := hkk.size
              have HLW : Hid (((s.act ak.m ⟨1, 0, 7, 0⟩ false).1.cs.length : Int) = s.cs.length) := by unfold Hid; rw [set_cs]
              clear hst hkk v0 v1 v2 v3 v4 v5
              go_wp2_with fail
              go_loopw [18] (fun jj wr => ∃ (j : Nat), j ≤ s.cs.length ∧ jj = .int .i64 j ∧ Below wc.heap.size wc wr) (fun jj _ => s.cs.length - (intOf jj).toNat)
              case atStart => exact ⟨0, Nat.zero_le _, rfl, Below.refl _ _⟩
              case round =>
                obtain ⟨j, hj, rfl, hbw⟩ := hrel
                have HBQ := Lib.hid hbw
                have HAQ := Lib.hid (HAC.out.below hbw)
                have HSQ := Lib.hid (HSC.out.below hbw)
                have HNQ := Lib.hid ((hbw.block _ (block_lt HNC.out)).trans HNC.out)
                clear hbw
                have v1 : wr.cell? ⟨_, 1, none⟩ = some (.int .i64 ak.x.kind) := cell_of_block HNQ.out 1
                have hcl : s.cs.length ≤ 60 := by have := HSL.out; omega
                by_cases hj2 : j < s.cs.length
                · by_cases h6 : ak.x.kind = 6
                  · have t6 : (ak.x.kind != 6) = false := by simp [h6]
                    clear h6
                    go_wp2_with fail
                    refine (len_is _ _ ba _ HAQ.out).mono ?_
                    rintro e w3 ⟨rfl, hw⟩
                    obtain rfl := hw.symm
                    clear hw
                    rw [HLW.out]
                    go_wp2_with fail
                    go_roundw
                    case rel => exact ⟨j + 1, by omega, by go_num, HBQ.out⟩
                    case measure => simp [intOf]; omega
                  by_cases h7 : ak.x.kind = 7
                  · have t6 : (ak.x.kind != 6) = true := by simp [h7]
                    have t7 : (ak.x.kind != 7) = false := by simp [h7]
                    clear h6 h7
                    go_wp2_with fail
                    refine (len_is _ _ ba _ HAQ.out).mono ?_
                    rintro e w3 ⟨rfl, hw⟩
                    obtain rfl := hw.symm
                    clear hw
                    rw [HLW.out]
                    go_wp2_with fail
                    go_roundw
                    case rel => exact ⟨j + 1, by omega, by go_num, HBQ.out⟩
                    case measure => simp [intOf]; omega
                  · have t6 : (ak.x.kind != 6) = true := by simpa using h6
                    have t7 : (ak.x.kind != 7) = true := by simpa using h7
                    obtain ⟨hc1, hc2⟩ := act_cell s ak.m ak.x ak.full h6 h7 j hj2
                    obtain ⟨hc3, hc4⟩ := set_car s ak.m false (j : Int)
                    obtain ⟨ca, hca⟩ : ∃ ca, s.carAt j = ca := ⟨_, rfl⟩
                    obtain ⟨cd, hcd⟩ : ∃ cd, s.cdrAt j = cd := ⟨_, rfl⟩
                    rw [hca] at hc1 hc3
                    rw [hcd] at hc2 hc4
                    have HC1 := Lib.hid hc1
                    have HC2 := Lib.hid hc2
                    have HC3 := Lib.hid hc3
                    have HC4 := Lib.hid hc4
                    have ea : (ca != ca) = false := by simp
                    have ed : (cd != cd) = false := by simp
                    clear h6 h7 hc1 hc2 hc3 hc4 hca hcd
                    go_wp2_with fail
                    refine (len_is _ _ ba _ HAQ.out).mono ?_
                    rintro e w3 ⟨rfl, hw⟩
                    obtain rfl := hw.symm
                    clear hw
                    rw [HLW.out]
                    go_wp2_with fail
                    refine (car_is _ _ b _ HSQ.out j).mono ?_
                    rintro e x1 ⟨rfl, hb1⟩
                    rw [HC1.out]
                    have HA1 := Lib.hid (HAQ.out.below hb1)
                    have HS1 := Lib.hid (HSQ.out.below hb1)
                    have HX1 : Hid (Below wc.heap.size wc x1) := HBQ.out.trans (hb1.mono HBQ.out.size)
                    clear hb1 v1
                    go_wp2_with fail
                    refine (car_is _ _ ba _ HA1.out j).mono ?_
                    rintro e x2 ⟨rfl, hb1⟩
                    rw [HC3.out]
                    have HA2 := Lib.hid (HA1.out.below hb1)
                    have HS2 := Lib.hid (HS1.out.below hb1)
                    have HX2 : Hid (Below wc.heap.size wc x2) := HX1.out.trans (hb1.mono HX1.out.size)
                    clear hb1
                    go_wp2_with fail
                    refine (cdr_is _ _ b _ HS2.out j).mono ?_
                    rintro e x3 ⟨rfl, hb1⟩
                    rw [HC2.out]
                    have HA3 := Lib.hid (HA2.out.below hb1)
                    have HX3 : Hid (Below wc.heap.size wc x3) := HX2.out.trans (hb1.mono HX2.out.size)
                    clear hb1
                    go_wp2_with fail
                    refine (cdr_is _ _ ba _ HA3.out j).mono ?_
                    rintro e x4 ⟨rfl, hb1⟩
                    rw [HC4.out]
                    have HX4 : Hid (Below wc.heap.size wc x4) := HX3.out.trans (hb1.mono HX3.out.size)
                    clear hb1
                    go_wp2_with fail
                    go_roundw
                    case rel => exact ⟨j + 1, by omega, by go_num, HX4.out⟩
                    case measure => simp [intOf]; omega
                · have hje : (j : Int) = s.cs.length := by omega
                  go_wp2_with fail
                  refine (len_is _ _ ba _ HAQ.out).mono ?_
                  rintro e w3 ⟨rfl, hw⟩
                  obtain rfl := hw.symm
                  clear hw
                  rw [HLW.out]
                  clear hje
                  go_wp2_with fail
                  go_roundw
                  case rel =>
                    refine ⟨k + 1, (s.act ak.m ak.x ak.full).1, by omega, by go_num, by have := act_len s ak.m ak.x ak.full; have := HSL.out; omega, HSQ.out.wide (fun y hy => ?_), HBc.out.trans (HBQ.out.mono HBc.out.size), ?_⟩
                    · have e1 := HZb.out
                      have e2 := HZc.out
                      have e3 := HBQ.out.size
                      have e4 := HZ.out
                      have e5 := HZa.out
                      rcases hy with hy | hy <;> (have := hy.1; have := hy.2; omega)
                    · have e1 := HZb.out
                      have e2 := HZc.out
                      have e3 := HBQ.out.size
                      have e4 := HZ.out
                      have e5 := HZa.out
                      omega
                  case measure => simp [intOf]; omega
        · have t10 : (ak.x.kind == 10) = false := by rw [beq_eq_false_iff_ne]; omega
          have t11 : (ak.x.kind == 11) = true := by rw [beq_iff_eq]; exact h11
          clear h11
          go_wp2_with fail
          refine (do_is _ _ b s HS_a.out ak.m ak.x ak.full HXB.out (by have := HSL.out; omega)).mono ?_
          rintro e wb ⟨rfl, hst, hkk⟩
          have HNB : Hid (wb.heap[wr.heap.size]? = some (.cells #[.int .i64 ak.m, .int .i64 ak.x.kind, .int .i64 ak.x.a, .int .i64 ak.x.b, .int .i64 ak.x.c, .bool ak.full] 63)) := hkk.at_ HNA.out (fun hx => by have := hx.2; omega)
          have HSB := Lib.hid hst
          have HAB := Lib.hid (HSA.out.keep hkk (fun y hy hz => by have h1 := hy.1; have h2 := hz.2; simp at h1; omega))
          have HBb : Hid (Below w.heap.size w wb) := HBa.out.trans (hkk.below HBa.out.size (fun y hy => by have := hy.1; have := HB0.out.size; omega))
          have HZb := Lib.hid hkk.size
          clear hst hkk v0 v1 v2 v3 v4 v5
          have v0 : wb.cell? ⟨wr.heap.size, 0, none⟩ = some (.int .i64 ak.m) := cell_of_block HNB.out 0
          have v1 : wb.cell? ⟨wr.heap.size, 1, none⟩ = some (.int .i64 ak.x.kind) := cell_of_block HNB.out 1
          have v2 : wb.cell? ⟨wr.heap.size, 2, none⟩ = some (.int .i64 ak.x.a) := cell_of_block HNB.out 2
          have v3 : wb.cell? ⟨wr.heap.size, 3, none⟩ = some (.int .i64 ak.x.b) := cell_of_block HNB.out 3
          have v4 : wb.cell? ⟨wr.heap.size, 4, none⟩ = some (.int .i64 ak.x.c) := cell_of_block HNB.out 4
          have v5 : wb.cell? ⟨wr.heap.size, 5, none⟩ = some (.bool ak.full) := cell_of_block HNB.out 5
          go_wp2_with fail
          refine (len_is _ _ b _ HSB.out).mono ?_
          rintro e w3 ⟨rfl, hw⟩
          obtain rfl := hw.symm
          clear hw
          rw [HACT.out]
          go_wp2_with fail
          refine (len_is _ _ ba _ HAB.out).mono ?_
          rintro e w3 ⟨rfl, hw⟩
          obtain rfl := hw.symm
          clear hw t10 t11
          go_wp2_with fail
          go_loopw [16, 17] (fun mm _ wr' => ∃ (a n : Nat), (a : Int) ≤ m ∧ mm = .int .i64 a ∧ wr' = wb.drewN n) (fun mm _ _ => m.toNat - (intOf mm).toNat)
          case atStart => exact ⟨0, 0, hm0, rfl, rfl⟩
          case round =>
            obtain ⟨a, n, ha, rfl, rfl⟩ := hrel
            by_cases hlt2 : (a : Int) < m
            · go_wp2_with fail
              go_loopw [17] (fun rr wr' => ∃ (c' n : Nat), (c' : Int) ≤ r ∧ rr = .int .i64 c' ∧ wr' = wb.drewN n) (fun rr _ => r.toNat - (intOf rr).toNat)
              case atStart => exact ⟨0, n, hr0, rfl, rfl⟩
              case round =>
                obtain ⟨c', n', hc', rfl, rfl⟩ := hrel
                by_cases hlt3 : (c' : Int) < r
                · have hreg := act_reg HS.out.ok ak.m ak.x ak.full HXB.out (by have := HSL.out; omega) a c'
                  obtain ⟨u, hu⟩ : ∃ u, (s.act ak.m ak.x ak.full).1.regAt a c' = u := ⟨_, rfl⟩
                  obtain ⟨v, hv⟩ : ∃ v, s.regAt a c' = v := ⟨_, rfl⟩
                  rw [hu, hv] at hreg
                  have HU := Lib.hid hu
                  have HV := Lib.hid hv
                  clear hu hv
                  by_cases huv : u = v
                  · have e1 : (u != v) = false := by simp [huv]
                    clear hreg huv
                    go_wp2_with fail
                    refine (reg_at _ _ b _ (HSB.out.drewN _) a c').mono ?_
                    rintro e w3 ⟨rfl, n1, rfl⟩
                    rw [HU.out]
                    go_wp2_with fail
                    refine (reg_at _ _ ba _ (HAB.out.drewN _) a c').mono ?_
                    rintro e w4 ⟨rfl, n2, rfl⟩
                    rw [HV.out]
                    go_wp2_with fail
                    go_roundw
                    case rel => exact ⟨c' + 1, _, by omega, by go_num, rfl⟩
                    case measure => simp [intOf]; omega
                  · obtain ⟨g1, g2, g3, g4⟩ := hreg huv
                    have e1 : (u != v) = true := by simpa using huv
                    have e2 : ((a : Int) != ak.m) = false := by simp [g1]
                    have e3 : ((c' : Int) != ak.x.a) = false := by simp [g2]
                    have e4 : (ak.x.kind == 10) = false := by simpa using g3
                    have e5 : (ak.x.kind == 11) = false := by simpa using g4
                    clear hreg huv g1 g2 g3 g4
                    go_wp2_with fail
                    refine (reg_at _ _ b _ (HSB.out.drewN _) a c').mono ?_
                    rintro e w3 ⟨rfl, n1, rfl⟩
                    rw [HU.out]
                    go_wp2_with fail
                    refine (reg_at _ _ ba _ (HAB.out.drewN _) a c').mono ?_
                    rintro e w4 ⟨rfl, n2, rfl⟩
                    rw [HV.out]
                    go_wp2_with fail
                    go_roundw
                    case rel => exact ⟨c' + 1, _, by omega, by go_num, rfl⟩
                    case measure => simp [intOf]; omega
                · go_wp2_with fail
                  go_roundw
                  case rel => exact ⟨a + 1, _, by omega, by go_num, rfl⟩
                  case measure => simp [intOf]; omega
            · go_wp2_with fail
              refine (do_is _ _ ba s (HAB.out.drewN n) ak.m ⟨1, 0, 7, 0⟩ false (by decide) (by have := HSL.out; omega)).mono ?_
              rintro e wc ⟨rfl, hst, hkk⟩
              have HNC : Hid (wc.heap[wr.heap.size]? = some (.cells #[.int .i64 ak.m, .int .i64 ak.x.kind, .int .i64 ak.x.a, .int .i64 ak.x.b, .int .i64 ak.x.c, .bool ak.full] 63)) := hkk.at_ HNB.out (fun hx => by have h1 := hx.1; simp at h1; omega)
              have HAC := Lib.hid hst
              have HSC := Lib.hid ((HSB.out.drewN n).keep hkk (fun y hy hz => by have h1 := hz.1; have h2 := hz.2; have h3 := HZb.out; simp at h1; rcases hy with hy | hy <;> (have := hy.1; have := hy.2; omega)))
              have HBc : Hid (Below w.heap.size w wc) := (below_drewN HBb.out n).trans (hkk.below HBb.out.size (fun y hy => by have h1 := hy.1; have := HBWr.out; simp at h1; omega))
              have HZc : Hid (wb.heap.size ≤ wc.heap.size) := hkk.size
              have HLW : Hid (((s.act ak.m ⟨1, 0, 7, 0⟩ false).1.cs.length : Int) = s.cs.length) := by unfold Hid; rw [set_cs]
              clear hst hkk v0 v1 v2 v3 v4 v5
              go_wp2_with fail
              go_loopw [18] (fun jj wr => ∃ (j : Nat), j ≤ s.cs.length ∧ jj = .int .i64 j ∧ Below wc.heap.size wc wr) (fun jj _ => s.cs.length - (intOf jj).toNat)
              case atStart => exact ⟨0, Nat.zero_le _, rfl, Below.refl _ _⟩
              case round =>
                obtain ⟨j, hj, rfl, hbw⟩ := hrel
                have HBQ := Lib.hid hbw
                have HAQ := Lib.hid (HAC.out.below hbw)
                have HSQ := Lib.hid (HSC.out.below hbw)
                have HNQ := Lib.hid ((hbw.block _ (block_lt HNC.out)).trans HNC.out)
                clear hbw
                have v1 : wr.cell? ⟨_, 1, none⟩ = some (.int .i64 ak.x.kind) := cell_of_block HNQ.out 1
                have hcl : s.cs.length ≤ 60 := by have := HSL.out; omega
                by_cases hj2 : j < s.cs.length
                · by_cases h6 : ak.x.kind = 6
                  · have t6 : (ak.x.kind != 6) = false := by simp [h6]
                    clear h6
                    go_wp2_with fail
                    refine (len_is _ _ ba _ HAQ.out).mono ?_
                    rintro e w3 ⟨rfl, hw⟩
                    obtain rfl := hw.symm
                    clear hw
                    rw [HLW.out]
                    go_wp2_with fail
                    go_roundw
                    case rel => exact ⟨j + 1, by omega, by go_num, HBQ.out⟩
                    case measure => simp [intOf]; omega
                  by_cases h7 : ak.x.kind = 7
                  · have t6 : (ak.x.kind != 6) = true := by simp [h7]
                    have t7 : (ak.x.kind != 7) = false := by simp [h7]
                    clear h6 h7
                    go_wp2_with fail
                    refine (len_is _ _ ba _ HAQ.out).mono ?_
                    rintro e w3 ⟨rfl, hw⟩
                    obtain rfl := hw.symm
                    clear hw
                    rw [HLW.out]
                    go_wp2_with fail
                    go_roundw
                    case rel => exact ⟨j + 1, by omega, by go_num, HBQ.out⟩
                    case measure => simp [intOf]; omega
                  · have t6 : (ak.x.kind != 6) = true := by simpa using h6
                    have t7 : (ak.x.kind != 7) = true := by simpa using h7
                    obtain ⟨hc1, hc2⟩ := act_cell s ak.m ak.x ak.full h6 h7 j hj2
                    obtain ⟨hc3, hc4⟩ := set_car s ak.m false (j : Int)
                    obtain ⟨ca, hca⟩ : ∃ ca, s.carAt j = ca := ⟨_, rfl⟩
                    obtain ⟨cd, hcd⟩ : ∃ cd, s.cdrAt j = cd := ⟨_, rfl⟩
                    rw [hca] at hc1 hc3
                    rw [hcd] at hc2 hc4
                    have HC1 := Lib.hid hc1
                    have HC2 := Lib.hid hc2
                    have HC3 := Lib.hid hc3
                    have HC4 := Lib.hid hc4
                    have ea : (ca != ca) = false := by simp
                    have ed : (cd != cd) = false := by simp
                    clear h6 h7 hc1 hc2 hc3 hc4 hca hcd
                    go_wp2_with fail
                    refine (len_is _ _ ba _ HAQ.out).mono ?_
                    rintro e w3 ⟨rfl, hw⟩
                    obtain rfl := hw.symm
                    clear hw
                    rw [HLW.out]
                    go_wp2_with fail
                    refine (car_is _ _ b _ HSQ.out j).mono ?_
                    rintro e x1 ⟨rfl, hb1⟩
                    rw [HC1.out]
                    have HA1 := Lib.hid (HAQ.out.below hb1)
                    have HS1 := Lib.hid (HSQ.out.below hb1)
                    have HX1 : Hid (Below wc.heap.size wc x1) := HBQ.out.trans (hb1.mono HBQ.out.size)
                    clear hb1 v1
                    go_wp2_with fail
                    refine (car_is _ _ ba _ HA1.out j).mono ?_
                    rintro e x2 ⟨rfl, hb1⟩
                    rw [HC3.out]
                    have HA2 := Lib.hid (HA1.out.below hb1)
                    have HS2 := Lib.hid (HS1.out.below hb1)
                    have HX2 : Hid (Below wc.heap.size wc x2) := HX1.out.trans (hb1.mono HX1.out.size)
                    clear hb1
                    go_wp2_with fail
                    refine (cdr_is _ _ b _ HS2.out j).mono ?_
                    rintro e x3 ⟨rfl, hb1⟩
                    rw [HC2.out]
                    have HA3 := Lib.hid (HA2.out.below hb1)
                    have HX3 : Hid (Below wc.heap.size wc x3) := HX2.out.trans (hb1.mono HX2.out.size)
                    clear hb1
                    go_wp2_with fail
                    refine (cdr_is _ _ ba _ HA3.out j).mono ?_
                    rintro e x4 ⟨rfl, hb1⟩
                    rw [HC4.out]
                    have HX4 : Hid (Below wc.heap.size wc x4) := HX3.out.trans (hb1.mono HX3.out.size)
                    clear hb1
                    go_wp2_with fail
                    go_roundw
                    case rel => exact ⟨j + 1, by omega, by go_num, HX4.out⟩
                    case measure => simp [intOf]; omega
                · have hje : (j : Int) = s.cs.length := by omega
                  go_wp2_with fail
                  refine (len_is _ _ ba _ HAQ.out).mono ?_
                  rintro e w3 ⟨rfl, hw⟩
                  obtain rfl := hw.symm
                  clear hw
                  rw [HLW.out]
                  clear hje
                  go_wp2_with fail
                  go_roundw
                  case rel =>
                    refine ⟨k + 1, (s.act ak.m ak.x ak.full).1, by omega, by go_num, by have := act_len s ak.m ak.x ak.full; have := HSL.out; omega, HSQ.out.wide (fun y hy => ?_), HBc.out.trans (HBQ.out.mono HBc.out.size), ?_⟩
                    · have e1 := HZb.out
                      have e2 := HZc.out
                      have e3 := HBQ.out.size
                      have e4 := HZ.out
                      have e5 := HZa.out
                      rcases hy with hy | hy <;> (have := hy.1; have := hy.2; omega)
                    · have e1 := HZb.out
                      have e2 := HZc.out
                      have e3 := HBQ.out.size
                      have e4 := HZ.out
                      have e5 := HZa.out
                      omega
                  case measure => simp [intOf]; omega
      · have t10 : (ak.x.kind == 10) = false := by rw [beq_eq_false_iff_ne]; omega
        have t11 : (ak.x.kind == 11) = false := by rw [beq_eq_false_iff_ne]; omega
        obtain ⟨r2, r3, r0⟩ := act_ret s ak.m ak.x ak.full (by omega) (by omega)
        generalize hrt : (s.act ak.m ak.x ak.full).2 = rt at r2 r3 r0
        have HRT := Lib.hid hrt
        clear hrt hask
        go_wp2_with fail
        refine (do_is _ _ b s HS_a.out ak.m ak.x ak.full HXB.out (by have := HSL.out; omega)).mono ?_
        rintro e wb ⟨rfl, hst, hkk⟩
        rw [HRT.out]
        have HNB : Hid (wb.heap[wr.heap.size]? = some (.cells #[.int .i64 ak.m, .int .i64 ak.x.kind, .int .i64 ak.x.a, .int .i64 ak.x.b, .int .i64 ak.x.c, .bool ak.full] 63)) := hkk.at_ HNA.out (fun hx => by have := hx.2; omega)
        have HSB := Lib.hid hst
        have HAB := Lib.hid (HSA.out.keep hkk (fun y hy hz => by have h1 := hy.1; have h2 := hz.2; simp at h1; omega))
        have HBb : Hid (Below w.heap.size w wb) := HBa.out.trans (hkk.below HBa.out.size (fun y hy => by have := hy.1; have := HB0.out.size; omega))
        have HZb := Lib.hid hkk.size
        clear hst hkk v0 v1 v2 v3 v4 v5
        have v0 : wb.cell? ⟨wr.heap.size, 0, none⟩ = some (.int .i64 ak.m) := cell_of_block HNB.out 0
        have v1 : wb.cell? ⟨wr.heap.size, 1, none⟩ = some (.int .i64 ak.x.kind) := cell_of_block HNB.out 1
        have v2 : wb.cell? ⟨wr.heap.size, 2, none⟩ = some (.int .i64 ak.x.a) := cell_of_block HNB.out 2
        have v3 : wb.cell? ⟨wr.heap.size, 3, none⟩ = some (.int .i64 ak.x.b) := cell_of_block HNB.out 3
        have v4 : wb.cell? ⟨wr.heap.size, 4, none⟩ = some (.int .i64 ak.x.c) := cell_of_block HNB.out 4
        have v5 : wb.cell? ⟨wr.heap.size, 5, none⟩ = some (.bool ak.full) := cell_of_block HNB.out 5
        clear t10 t11
        go_wp2_with fail
        clear r2 r3 r0
        go_loopw [16, 17] (fun mm _ wr' => ∃ (a n : Nat), (a : Int) ≤ m ∧ mm = .int .i64 a ∧ wr' = wb.drewN n) (fun mm _ _ => m.toNat - (intOf mm).toNat)
        case atStart => exact ⟨0, 0, hm0, rfl, rfl⟩
        case round =>
          obtain ⟨a, n, ha, rfl, rfl⟩ := hrel
          by_cases hlt2 : (a : Int) < m
          · go_wp2_with fail
            go_loopw [17] (fun rr wr' => ∃ (c' n : Nat), (c' : Int) ≤ r ∧ rr = .int .i64 c' ∧ wr' = wb.drewN n) (fun rr _ => r.toNat - (intOf rr).toNat)
            case atStart => exact ⟨0, n, hr0, rfl, rfl⟩
            case round =>
              obtain ⟨c', n', hc', rfl, rfl⟩ := hrel
              by_cases hlt3 : (c' : Int) < r
              · have hreg := act_reg HS.out.ok ak.m ak.x ak.full HXB.out (by have := HSL.out; omega) a c'
                obtain ⟨u, hu⟩ : ∃ u, (s.act ak.m ak.x ak.full).1.regAt a c' = u := ⟨_, rfl⟩
                obtain ⟨v, hv⟩ : ∃ v, s.regAt a c' = v := ⟨_, rfl⟩
                rw [hu, hv] at hreg
                have HU := Lib.hid hu
                have HV := Lib.hid hv
                clear hu hv
                by_cases huv : u = v
                · have e1 : (u != v) = false := by simp [huv]
                  clear hreg huv
                  go_wp2_with fail
                  refine (reg_at _ _ b _ (HSB.out.drewN _) a c').mono ?_
                  rintro e w3 ⟨rfl, n1, rfl⟩
                  rw [HU.out]
                  go_wp2_with fail
                  refine (reg_at _ _ ba _ (HAB.out.drewN _) a c').mono ?_
                  rintro e w4 ⟨rfl, n2, rfl⟩
                  rw [HV.out]
                  go_wp2_with fail
                  go_roundw
                  case rel => exact ⟨c' + 1, _, by omega, by go_num, rfl⟩
                  case measure => simp [intOf]; omega
                · obtain ⟨g1, g2, g3, g4⟩ := hreg huv
                  have e1 : (u != v) = true := by simpa using huv
                  have e2 : ((a : Int) != ak.m) = false := by simp [g1]
                  have e3 : ((c' : Int) != ak.x.a) = false := by simp [g2]
                  have e4 : (ak.x.kind == 10) = false := by simpa using g3
                  have e5 : (ak.x.kind == 11) = false := by simpa using g4
                  clear hreg huv g1 g2 g3 g4
                  go_wp2_with fail
                  refine (reg_at _ _ b _ (HSB.out.drewN _) a c').mono ?_
                  rintro e w3 ⟨rfl, n1, rfl⟩
                  rw [HU.out]
                  go_wp2_with fail
                  refine (reg_at _ _ ba _ (HAB.out.drewN _) a c').mono ?_
                  rintro e w4 ⟨rfl, n2, rfl⟩
                  rw [HV.out]
                  go_wp2_with fail
                  go_roundw
                  case rel => exact ⟨c' + 1, _, by omega, by go_num, rfl⟩
                  case measure => simp [intOf]; omega
              · go_wp2_with fail
                go_roundw
                case rel => exact ⟨a + 1, _, by omega, by go_num, rfl⟩
                case measure => simp [intOf]; omega
          · go_wp2_with fail
            refine (do_is _ _ ba s (HAB.out.drewN n) ak.m ⟨1, 0, 7, 0⟩ false (by decide) (by have := HSL.out; omega)).mono ?_
            rintro e wc ⟨rfl, hst, hkk⟩
            have HNC : Hid (wc.heap[wr.heap.size]? = some (.cells #[.int .i64 ak.m, .int .i64 ak.x.kind, .int .i64 ak.x.a, .int .i64 ak.x.b, .int .i64 ak.x.c, .bool ak.full] 63)) := hkk.at_ HNB.out (fun hx => by have h1 := hx.1; simp at h1; omega)
            have HAC := Lib.hid hst
            have HSC := Lib.hid ((HSB.out.drewN n).keep hkk (fun y hy hz => by have h1 := hz.1; have h2 := hz.2; have h3 := HZb.out; simp at h1; rcases hy with hy | hy <;> (have := hy.1; have := hy.2; omega)))
            have HBc : Hid (Below w.heap.size w wc) := (below_drewN HBb.out n).trans (hkk.below HBb.out.size (fun y hy => by have h1 := hy.1; have := HBWr.out; simp at h1; omega))
            have HZc : Hid (wb.heap.size ≤ wc.heap.size) := hkk.size
            have HLW : Hid (((s.act ak.m ⟨1, 0, 7, 0⟩ false).1.cs.length : Int) = s.cs.length) := by unfold Hid; rw [set_cs]
            clear hst hkk v0 v1 v2 v3 v4 v5
            go_wp2_with fail
            go_loopw [18] (fun jj wr => ∃ (j : Nat), j ≤ s.cs.length ∧ jj = .int .i64 j ∧ Below wc.heap.size wc wr) (fun jj _ => s.cs.length - (intOf jj).toNat)
            case atStart => exact ⟨0, Nat.zero_le _, rfl, Below.refl _ _⟩
            case round =>
              obtain ⟨j, hj, rfl, hbw⟩ := hrel
              have HBQ := Lib.hid hbw
              have HAQ := Lib.hid (HAC.out.below hbw)
              have HSQ := Lib.hid (HSC.out.below hbw)
              have HNQ := Lib.hid ((hbw.block _ (block_lt HNC.out)).trans HNC.out)
              clear hbw
              have v1 : wr.cell? ⟨_, 1, none⟩ = some (.int .i64 ak.x.kind) := cell_of_block HNQ.out 1
              have hcl : s.cs.length ≤ 60 := by have := HSL.out; omega
              by_cases hj2 : j < s.cs.length
              · by_cases h6 : ak.x.kind = 6
                · have t6 : (ak.x.kind != 6) = false := by simp [h6]
                  clear h6
                  go_wp2_with fail
                  refine (len_is _ _ ba _ HAQ.out).mono ?_
                  rintro e w3 ⟨rfl, hw⟩
                  obtain rfl := hw.symm
                  clear hw
                  rw [HLW.out]
                  go_wp2_with fail
                  go_roundw
                  case rel => exact ⟨j + 1, by omega, by go_num, HBQ.out⟩
                  case measure => simp [intOf]; omega
                by_cases h7 : ak.x.kind = 7
                · have t6 : (ak.x.kind != 6) = true := by simp [h7]
                  have t7 : (ak.x.kind != 7) = false := by simp [h7]
                  clear h6 h7
                  go_wp2_with fail
                  refine (len_is _ _ ba _ HAQ.out).mono ?_
                  rintro e w3 ⟨rfl, hw⟩
                  obtain rfl := hw.symm
                  clear hw
                  rw [HLW.out]
                  go_wp2_with fail
                  go_roundw
                  case rel => exact ⟨j + 1, by omega, by go_num, HBQ.out⟩
                  case measure => simp [intOf]; omega
                · have t6 : (ak.x.kind != 6) = true := by simpa using h6
                  have t7 : (ak.x.kind != 7) = true := by simpa using h7
                  obtain ⟨hc1, hc2⟩ := act_cell s ak.m ak.x ak.full h6 h7 j hj2
                  obtain ⟨hc3, hc4⟩ := set_car s ak.m false (j : Int)
                  obtain ⟨ca, hca⟩ : ∃ ca, s.carAt j = ca := ⟨_, rfl⟩
                  obtain ⟨cd, hcd⟩ : ∃ cd, s.cdrAt j = cd := ⟨_, rfl⟩
                  rw [hca] at hc1 hc3
                  rw [hcd] at hc2 hc4
                  have HC1 := Lib.hid hc1
                  have HC2 := Lib.hid hc2
                  have HC3 := Lib.hid hc3
                  have HC4 := Lib.hid hc4
                  have ea : (ca != ca) = false := by simp
                  have ed : (cd != cd) = false := by simp
                  clear h6 h7 hc1 hc2 hc3 hc4 hca hcd
                  go_wp2_with fail
                  refine (len_is _ _ ba _ HAQ.out).mono ?_
                  rintro e w3 ⟨rfl, hw⟩
                  obtain rfl := hw.symm
                  clear hw
                  rw [HLW.out]
                  go_wp2_with fail
                  refine (car_is _ _ b _ HSQ.out j).mono ?_
                  rintro e x1 ⟨rfl, hb1⟩
                  rw [HC1.out]
                  have HA1 := Lib.hid (HAQ.out.below hb1)
                  have HS1 := Lib.hid (HSQ.out.below hb1)
                  have HX1 : Hid (Below wc.heap.size wc x1) := HBQ.out.trans (hb1.mono HBQ.out.size)
                  clear hb1 v1
                  go_wp2_with fail
                  refine (car_is _ _ ba _ HA1.out j).mono ?_
                  rintro e x2 ⟨rfl, hb1⟩
                  rw [HC3.out]
                  have HA2 := Lib.hid (HA1.out.below hb1)
                  have HS2 := Lib.hid (HS1.out.below hb1)
                  have HX2 : Hid (Below wc.heap.size wc x2) := HX1.out.trans (hb1.mono HX1.out.size)
                  clear hb1
                  go_wp2_with fail
                  refine (cdr_is _ _ b _ HS2.out j).mono ?_
                  rintro e x3 ⟨rfl, hb1⟩
                  rw [HC2.out]
                  have HA3 := Lib.hid (HA2.out.below hb1)
                  have HX3 : Hid (Below wc.heap.size wc x3) := HX2.out.trans (hb1.mono HX2.out.size)
                  clear hb1
                  go_wp2_with fail
                  refine (cdr_is _ _ ba _ HA3.out j).mono ?_
                  rintro e x4 ⟨rfl, hb1⟩
                  rw [HC4.out]
                  have HX4 : Hid (Below wc.heap.size wc x4) := HX3.out.trans (hb1.mono HX3.out.size)
                  clear hb1
                  go_wp2_with fail
                  go_roundw
                  case rel => exact ⟨j + 1, by omega, by go_num, HX4.out⟩
                  case measure => simp [intOf]; omega
              · have hje : (j : Int) = s.cs.length := by omega
                go_wp2_with fail
                refine (len_is _ _ ba _ HAQ.out).mono ?_
                rintro e w3 ⟨rfl, hw⟩
                obtain rfl := hw.symm
                clear hw
                rw [HLW.out]
                clear hje
                go_wp2_with fail
                go_roundw
                case rel =>
                  refine ⟨k + 1, (s.act ak.m ak.x ak.full).1, by omega, by go_num, by have := act_len s ak.m ak.x ak.full; have := HSL.out; omega, HSQ.out.wide (fun y hy => ?_), HBc.out.trans (HBQ.out.mono HBc.out.size), ?_⟩
                  · have e1 := HZb.out
                    have e2 := HZc.out
                    have e3 := HBQ.out.size
                    have e4 := HZ.out
                    have e5 := HZa.out
                    rcases hy with hy | hy <;> (have := hy.1; have := hy.2; omega)
                  · have e1 := HZb.out
                    have e2 := HZc.out
                    have e3 := HBQ.out.size
                    have e4 := HZ.out
                    have e5 := HZa.out
                    omega
                case measure => simp [intOf]; omega
    · go_wp2_with fail
      go_ret
      exact ⟨rfl, HB.out⟩
end Go.Proofs.Ytoapbfglpcebmaa

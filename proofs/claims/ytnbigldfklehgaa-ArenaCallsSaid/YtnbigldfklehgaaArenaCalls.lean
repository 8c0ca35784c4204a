/- The walk of the law ArenaCalls. -/
import Derived.Test.YtnbigldfklehgaaArenaAwake
import Derived.Test.YtnbigldfklehgaaArenaMore
namespace Go.Proofs.Ytnbigldfklehgaa
open Go Go.RowKit
set_option linter.unusedSimpArgs false
set_option linter.unusedVariables false

/-- is there such a place? -/
def there (xs : List Int) (i : Int) : Bool := decide (0 ≤ i) && decide (i < xs.length)
theorem there_iff (xs : List Int) (i : Int) : there xs i = true ↔ 0 ≤ i ∧ i < xs.length := by simp [there]
def Wf (xs : List Int) : Prop := ∀ j, j < xs.length → 0 ≤ wd xs j ∧ wd xs j < 18446744073709551616
/-- what stands at the place in the end, by the call's number -/
def nowOf (xs : List Int) (i x y : Int) (k : Nat) : Int := if k = 1 then x else if k = 2 then (if hit xs i x = true then y else ld xs i) else if k = 3 then IntKind.u64.wrap (ld xs i + x) else ld xs i
/-- .. and all words -/
def wantOf (xs : List Int) (i x y : Int) (k : Nat) : List Int := if there xs i = true then xs.set i.toNat (nowOf xs i x y k) else xs
theorem want_0 (xs : List Int) (i x y : Int) : wantOf xs i x y 0 = xs := by
  unfold wantOf nowOf
  split
  · rename_i h
    rw [there_iff] at h
    simp only [show ¬ (0 : Nat) = 1 by omega, show ¬ (0 : Nat) = 2 by omega, show ¬ (0 : Nat) = 3 by omega, if_false]
    unfold ld
    rw [if_pos h, wd_eq xs i.toNat (by omega), List.set_getElem_self]
  · rfl
theorem want_1 (xs : List Int) (i x y : Int) : wantOf xs i x y 1 = st xs i x := by
  unfold wantOf nowOf st
  by_cases h : 0 ≤ i ∧ i < xs.length
  · rw [if_pos ((there_iff _ _).2 h), if_pos h]; simp
  · rw [if_neg (fun z => h ((there_iff _ _).1 z)), if_neg h]
theorem want_2 (xs : List Int) (i x y : Int) : wantOf xs i x y 2 = swap xs i x y := by
  unfold wantOf nowOf swap
  by_cases h : 0 ≤ i ∧ i < xs.length
  · rw [if_pos ((there_iff _ _).2 h)]
    simp only [show ¬ (2 : Nat) = 1 by omega, if_false, if_true]
    split
    · unfold st; rw [if_pos h]
    · unfold ld; rw [if_pos h, wd_eq xs i.toNat (by omega), List.set_getElem_self]
  · rw [if_neg (fun z => h ((there_iff _ _).1 z))]
    have : hit xs i x = false := by
      unfold hit
      rw [Bool.eq_false_iff]
      intro hh
      simp at hh
      exact h ⟨hh.1.1, hh.1.2⟩
    rw [this]
    rfl
theorem want_3 (xs : List Int) (i x y : Int) : wantOf xs i x y 3 = st xs i (IntKind.u64.wrap (ld xs i + x)) := by
  unfold wantOf nowOf st
  by_cases h : 0 ≤ i ∧ i < xs.length
  · rw [if_pos ((there_iff _ _).2 h), if_pos h]; simp
  · rw [if_neg (fun z => h ((there_iff _ _).1 z)), if_neg h]
theorem hit_eq (xs : List Int) (i x : Int) : hit xs i x = (there xs i && (ld xs i == x)) := by
  unfold hit there ld
  by_cases h : 0 ≤ i ∧ i < xs.length
  · rw [if_pos h, Bool.eq_iff_iff]; simp [h.1, h.2]
  · rw [if_neg h]
    have : (decide (0 ≤ i) && decide (i < (xs.length : Int))) = false := by
      rw [Bool.eq_false_iff]
      intro hh
      simp at hh
      exact h hh
    rw [this]
    simp

set_option maxHeartbeats 8000000 in
set_option maxRecDepth 100000 in
theorem calls_walk (w : World) (A : Option Addr) (c : Nat) (xs : List Int) (i x y : Int) (hx : Words w w.heap.size A xs) (hwf : Wf xs) :
    Calls Try.prog 4 #[.slice A xs.length c, .int .i64 i, .int .u64 x, .int .u64 y] w fun e w' => e = .returned (.bool true) ∧ Below w.heap.size w w' := by
  have HX := Lib.hid hx
  have HWF := Lib.hid hwf
  have hm := hx.len
  unfold maxLen at hm
  clear hx hwf
  by_cases h60 : 60 < xs.length
  · have d1 : decide ((60 : Int) < (xs.length : Int)) = true := by simp; omega
    go_enter Try.func4, Try.ntmps4
    go_wp2_with fail
    refine (arena_awake w).mono ?_
    rintro e w1 ⟨rfl, hB⟩
    have HB := Lib.hid hB
    clear hB
    go_wp2_with fail
    go_ret
    exact ⟨rfl, HB.out⟩
  have d1 : decide ((60 : Int) < (xs.length : Int)) = false := by simp; omega
  have hcase : (there xs i = true ∧ 0 ≤ i ∧ i < xs.length) ∨ (there xs i = false ∧ (i < 0 ∨ xs.length ≤ i)) := by
    by_cases h : 0 ≤ i ∧ i < xs.length
    · exact .inl ⟨(there_iff _ _).2 h, h.1, h.2⟩
    · refine .inr ⟨?_, by omega⟩
      rw [Bool.eq_false_iff]
      intro hh
      exact h ((there_iff _ _).1 hh)
  have W0 := Lib.hid (want_0 xs i x y)
  have W1 := Lib.hid (want_1 xs i x y)
  have W2 := Lib.hid (want_2 xs i x y)
  have W3 := Lib.hid (want_3 xs i x y)
  have hhit := hit_eq xs i x
  rcases hcase with ⟨hth, hi0, hi1⟩ | ⟨hth, hout⟩
  · have HTH := Lib.hid hth
    have HLD : Hid (ld xs i = wd xs i.toNat) := by unfold ld Hid; rw [if_pos ⟨hi0, hi1⟩]
    rw [hth, Bool.true_and, HLD.out] at hhit
    have HHIT := Lib.hid hhit
    have t1 : decide (0 ≤ i) = true := by simpa using hi0
    have t2 : decide (i < (xs.length : Int)) = true := by simpa using hi1
    clear hth hhit
    go_enter Try.func4, Try.ntmps4
    go_wp2_with fail
    refine (arena_awake w).mono ?_
    rintro e w1 ⟨rfl, hB⟩
    have HB1 := Lib.hid hB
    obtain ⟨ad, rfl, hadB, hcx⟩ := HX.out.cell hB (show i.toNat < xs.length by omega)
    clear hB
    go_wp2_with fail
    clear hcx
    go_loopw [11, 12, 13, 14, 15, 16] (fun kk _ _ _ _ _ wr => ∃ k : Nat, k ≤ 4 ∧ kk = .int .i64 k ∧ Below w.heap.size w wr) (fun kk _ _ _ _ _ _ => 4 - (intOf kk).toNat)
    case atStart => exact ⟨0, by omega, rfl, HB1.out⟩
    case round =>
      obtain ⟨k, hk, rfl, hB⟩ := hrel
      have HB := Lib.hid hB
      have HXr := Lib.hid ((HX.out.below hB).more hB.size)
      clear hB
      have hk5 : k = 0 ∨ k = 1 ∨ k = 2 ∨ k = 3 ∨ k = 4 := by omega
      rcases hk5 with rfl | rfl | rfl | rfl | rfl
      · go_wp2_with fail
        refine (new_any _ _ _ _ HXr.out (by omega)).mono ?_
        rintro e w2 ⟨b, g, rfl, ha, hb, hg, hB⟩
        have HA2 := Lib.hid ha
        have HB2 : Hid (Below w.heap.size w w2) := HB.out.trans (hB.mono HB.out.size)
        have hsr := HB.out.size
        have HX2 := Lib.hid ((HX.out.below HB2.out).more HB2.out.size)
        clear ha hB
        go_wp2_with fail
        refine (load_any _ _ _ _ _ HA2.out).mono ?_
        rintro e w3 ⟨rfl, rfl⟩
        rw [HLD.out]
        have HA3 : Hid (IsArena w2 b g (wantOf xs i x y 0)) := by rw [W0.out]; exact HA2.out
        have HB3 := Lib.hid HB2.out
        have hs3 : w2.heap.size ≤ w2.heap.size := Nat.le_refl _
        have HX3 := Lib.hid HX2.out
        go_wp2_with fail
        refine (refcopy_any _ _ _ _ HX3.out (by omega)).mono ?_
        rintro e w4 ⟨v, rfl, ho4, hB4⟩
        have HB4 : Hid (Below w.heap.size w w4) := HB3.out.trans (hB4.mono HB3.out.size)
        have HA4 := Lib.hid (HA3.out.keep (Keep.of_below hB4 (fun _ => False)) id id)
        have hs4 := hB4.size
        obtain ⟨gg, cap, cur, rfl, hgg, hcg, hn4, hc4, hs4', ht4⟩ := ho4.block (show 0 < xs.length by omega)
        have HO5 := Lib.hid (ho4.set_ i.toNat (nowOf xs i x y 0) (by omega))
        have hcell4 : w4.cell? ⟨gg, i.toNat, none⟩ = some (.int .u64 (wd xs i.toNat)) := by
          rw [cell_of_block hcg, ← Array.getElem?_toList]
          have e1 : cur.toList[i.toNat]? = (xs.map (Value.int .u64))[i.toNat]? := by rw [← ht4, List.getElem?_take, if_pos (by omega)]
          rw [e1]
          simp [wd, show i.toNat < xs.length by omega]
        have hfz4 : w4.frozen? ⟨gg, i.toNat, none⟩ = false := frozen_of_block hcg _
        have b0 : 0 ≤ i := hi0
        have b1 : i < (xs.length : Int) := hi1
        have HB5 : Hid (Below w.heap.size w (w4.setCell ⟨gg, i.toNat, none⟩ (.int .u64 (nowOf xs i x y 0)))) := HB4.out.setCell (by show w.heap.size ≤ gg; have := HB3.out.size; omega) _
        have HA5 : Hid (IsArena (w4.setCell ⟨gg, i.toNat, none⟩ (.int .u64 (nowOf xs i x y 0))) b g (wantOf xs i x y 0)) := HA4.out.keep (S := (· = gg)) (Keep.one _ _ _ _) (by have := HA3.out.lt; omega) (by have := HA3.out.lt; omega)
        have HWT : Hid (xs.set i.toNat (nowOf xs i x y 0) = wantOf xs i x y 0) := by unfold wantOf Hid; rw [if_pos HTH.out]
        have hlw : Hid ((wantOf xs i x y 0).length = xs.length) := by rw [Hid, ← HWT.out]; simp
        rw [HWT.out] at HO5
        have hnow : nowOf xs i x y 0 = wd xs i.toNat := by unfold nowOf; simp [HLD.out]
        rw [hnow] at HO5 HB5 HA5
        clear ho4 hB4 hcg hn4 hc4 hs4' ht4 hnow
        go_wp2_with fail
        refine (all_any _ _ _ _ HA5.out (by rw [hlw.out]; omega)).mono ?_
        rintro e w6 ⟨v6, rfl, ho6, hB6⟩
        obtain ⟨A6, c6, rfl, hi6, _⟩ := ho6.form
        have HI6 := Lib.hid hi6
        have HO7 := Lib.hid (HO5.out.keep (Keep.of_below hB6 (fun _ => False)) (fun _ _ h => h))
        obtain ⟨A7, c7, hv7, hi7, _⟩ := HO7.out.form
        simp at hv7
        obtain ⟨rfl, hx7, rfl⟩ := hv7
        clear hx7
        have HI7 := Lib.hid hi7
        have HB6 : Hid (Below w.heap.size w w6) := HB5.out.trans (hB6.mono HB5.out.size)
        have HS := refsame_any w6 _ _ c6 cap _ _ HI6.out HI7.out
        rw [hlw.out] at HS ⊢
        have HSS := Lib.hid HS
        clear ho6 hi6 hi7 hB6 HS
        go_wp2_with fail
        refine (HSS.out).mono ?_
        rintro e w7 ⟨rfl, hk7⟩
        rw [show sameB (wantOf xs i x y 0) (wantOf xs i x y 0) = true by simp [sameB]]
        have HB7 : Hid (Below w.heap.size w w7) := HB6.out.trans (hk7.below HB6.out.size (fun _ h => h.elim))
        clear hk7
        go_wp2_with fail
        go_roundw
        case rel => exact ⟨1, by omega, rfl, HB7.out⟩
        case measure => simp [intOf]
      · go_wp2_with fail
        refine (new_any _ _ _ _ HXr.out (by omega)).mono ?_
        rintro e w2 ⟨b, g, rfl, ha, hb, hg, hB⟩
        have HA2 := Lib.hid ha
        have HB2 : Hid (Below w.heap.size w w2) := HB.out.trans (hB.mono HB.out.size)
        have hsr := HB.out.size
        have HX2 := Lib.hid ((HX.out.below HB2.out).more HB2.out.size)
        clear ha hB
        go_wp2_with fail
        refine (store_any _ _ _ _ i x HA2.out).mono ?_
        rintro e w3 ⟨rfl, ha3, hk3⟩
        rw [← W1.out] at ha3
        have HA3 := Lib.hid ha3
        have HB3 : Hid (Below w.heap.size w w3) := HB2.out.trans (hk3.below HB2.out.size (by intro j hj; subst hj; omega))
        have hs3 := hk3.size
        have HX3 := Lib.hid ((HX.out.below HB3.out).more HB3.out.size)
        clear ha3 hk3
        go_wp2_with fail
        refine (refcopy_any _ _ _ _ HX3.out (by omega)).mono ?_
        rintro e w4 ⟨v, rfl, ho4, hB4⟩
        have HB4 : Hid (Below w.heap.size w w4) := HB3.out.trans (hB4.mono HB3.out.size)
        have HA4 := Lib.hid (HA3.out.keep (Keep.of_below hB4 (fun _ => False)) id id)
        have hs4 := hB4.size
        obtain ⟨gg, cap, cur, rfl, hgg, hcg, hn4, hc4, hs4', ht4⟩ := ho4.block (show 0 < xs.length by omega)
        have HO5 := Lib.hid (ho4.set_ i.toNat (nowOf xs i x y 1) (by omega))
        have hcell4 : w4.cell? ⟨gg, i.toNat, none⟩ = some (.int .u64 (wd xs i.toNat)) := by
          rw [cell_of_block hcg, ← Array.getElem?_toList]
          have e1 : cur.toList[i.toNat]? = (xs.map (Value.int .u64))[i.toNat]? := by rw [← ht4, List.getElem?_take, if_pos (by omega)]
          rw [e1]
          simp [wd, show i.toNat < xs.length by omega]
        have hfz4 : w4.frozen? ⟨gg, i.toNat, none⟩ = false := frozen_of_block hcg _
        have b0 : 0 ≤ i := hi0
        have b1 : i < (xs.length : Int) := hi1
        have HB5 : Hid (Below w.heap.size w (w4.setCell ⟨gg, i.toNat, none⟩ (.int .u64 (nowOf xs i x y 1)))) := HB4.out.setCell (by show w.heap.size ≤ gg; have := HB3.out.size; omega) _
        have HA5 : Hid (IsArena (w4.setCell ⟨gg, i.toNat, none⟩ (.int .u64 (nowOf xs i x y 1))) b g (wantOf xs i x y 1)) := HA4.out.keep (S := (· = gg)) (Keep.one _ _ _ _) (by have := HA3.out.lt; omega) (by have := HA3.out.lt; omega)
        have HWT : Hid (xs.set i.toNat (nowOf xs i x y 1) = wantOf xs i x y 1) := by unfold wantOf Hid; rw [if_pos HTH.out]
        have hlw : Hid ((wantOf xs i x y 1).length = xs.length) := by rw [Hid, ← HWT.out]; simp
        rw [HWT.out] at HO5
        have hnow : nowOf xs i x y 1 = x := by unfold nowOf; simp
        rw [hnow] at HO5 HB5 HA5
        clear ho4 hB4 hcg hn4 hc4 hs4' ht4 hnow
        go_wp2_with fail
        refine (all_any _ _ _ _ HA5.out (by rw [hlw.out]; omega)).mono ?_
        rintro e w6 ⟨v6, rfl, ho6, hB6⟩
        obtain ⟨A6, c6, rfl, hi6, _⟩ := ho6.form
        have HI6 := Lib.hid hi6
        have HO7 := Lib.hid (HO5.out.keep (Keep.of_below hB6 (fun _ => False)) (fun _ _ h => h))
        obtain ⟨A7, c7, hv7, hi7, _⟩ := HO7.out.form
        simp at hv7
        obtain ⟨rfl, hx7, rfl⟩ := hv7
        clear hx7
        have HI7 := Lib.hid hi7
        have HB6 : Hid (Below w.heap.size w w6) := HB5.out.trans (hB6.mono HB5.out.size)
        have HS := refsame_any w6 _ _ c6 cap _ _ HI6.out HI7.out
        rw [hlw.out] at HS ⊢
        have HSS := Lib.hid HS
        clear ho6 hi6 hi7 hB6 HS
        go_wp2_with fail
        refine (HSS.out).mono ?_
        rintro e w7 ⟨rfl, hk7⟩
        rw [show sameB (wantOf xs i x y 1) (wantOf xs i x y 1) = true by simp [sameB]]
        have HB7 : Hid (Below w.heap.size w w7) := HB6.out.trans (hk7.below HB6.out.size (fun _ h => h.elim))
        clear hk7
        go_wp2_with fail
        go_roundw
        case rel => exact ⟨2, by omega, rfl, HB7.out⟩
        case measure => simp [intOf]
      · by_cases hq : wd xs i.toNat = x
        · have q1 : (wd xs i.toNat == x) = true := by simpa using hq
          have HHQ : Hid (hit xs i x = true) := by rw [HHIT.out, q1]; rfl
          clear hq
          go_wp2_with fail
          refine (new_any _ _ _ _ HXr.out (by omega)).mono ?_
          rintro e w2 ⟨b, g, rfl, ha, hb, hg, hB⟩
          have HA2 := Lib.hid ha
          have HB2 : Hid (Below w.heap.size w w2) := HB.out.trans (hB.mono HB.out.size)
          have hsr := HB.out.size
          have HX2 := Lib.hid ((HX.out.below HB2.out).more HB2.out.size)
          clear ha hB
          go_wp2_with fail
          refine (cas_any _ _ _ _ i x y HA2.out).mono ?_
          rintro e w3 ⟨rfl, ha3, hk3⟩
          rw [← W2.out] at ha3
          have HA3 := Lib.hid ha3
          have HB3 : Hid (Below w.heap.size w w3) := HB2.out.trans (hk3.below HB2.out.size (by intro j hj; subst hj; omega))
          have hs3 := hk3.size
          have HX3 := Lib.hid ((HX.out.below HB3.out).more HB3.out.size)
          clear ha3 hk3
          rw [HHQ.out]
          go_wp2_with fail
          refine (refcopy_any _ _ _ _ HX3.out (by omega)).mono ?_
          rintro e w4 ⟨v, rfl, ho4, hB4⟩
          have HB4 : Hid (Below w.heap.size w w4) := HB3.out.trans (hB4.mono HB3.out.size)
          have HA4 := Lib.hid (HA3.out.keep (Keep.of_below hB4 (fun _ => False)) id id)
          have hs4 := hB4.size
          obtain ⟨gg, cap, cur, rfl, hgg, hcg, hn4, hc4, hs4', ht4⟩ := ho4.block (show 0 < xs.length by omega)
          have HO5 := Lib.hid (ho4.set_ i.toNat (nowOf xs i x y 2) (by omega))
          have hcell4 : w4.cell? ⟨gg, i.toNat, none⟩ = some (.int .u64 (wd xs i.toNat)) := by
            rw [cell_of_block hcg, ← Array.getElem?_toList]
            have e1 : cur.toList[i.toNat]? = (xs.map (Value.int .u64))[i.toNat]? := by rw [← ht4, List.getElem?_take, if_pos (by omega)]
            rw [e1]
            simp [wd, show i.toNat < xs.length by omega]
          have hfz4 : w4.frozen? ⟨gg, i.toNat, none⟩ = false := frozen_of_block hcg _
          have b0 : 0 ≤ i := hi0
          have b1 : i < (xs.length : Int) := hi1
          have HB5 : Hid (Below w.heap.size w (w4.setCell ⟨gg, i.toNat, none⟩ (.int .u64 (nowOf xs i x y 2)))) := HB4.out.setCell (by show w.heap.size ≤ gg; have := HB3.out.size; omega) _
          have HA5 : Hid (IsArena (w4.setCell ⟨gg, i.toNat, none⟩ (.int .u64 (nowOf xs i x y 2))) b g (wantOf xs i x y 2)) := HA4.out.keep (S := (· = gg)) (Keep.one _ _ _ _) (by have := HA3.out.lt; omega) (by have := HA3.out.lt; omega)
          have HWT : Hid (xs.set i.toNat (nowOf xs i x y 2) = wantOf xs i x y 2) := by unfold wantOf Hid; rw [if_pos HTH.out]
          have hlw : Hid ((wantOf xs i x y 2).length = xs.length) := by rw [Hid, ← HWT.out]; simp
          rw [HWT.out] at HO5
          have hnow : nowOf xs i x y 2 = y := by unfold nowOf; simp [HHQ.out, HLD.out]
          rw [hnow] at HO5 HB5 HA5
          clear ho4 hB4 hcg hn4 hc4 hs4' ht4 hnow
          go_wp2_with fail
          refine (all_any _ _ _ _ HA5.out (by rw [hlw.out]; omega)).mono ?_
          rintro e w6 ⟨v6, rfl, ho6, hB6⟩
          obtain ⟨A6, c6, rfl, hi6, _⟩ := ho6.form
          have HI6 := Lib.hid hi6
          have HO7 := Lib.hid (HO5.out.keep (Keep.of_below hB6 (fun _ => False)) (fun _ _ h => h))
          obtain ⟨A7, c7, hv7, hi7, _⟩ := HO7.out.form
          simp at hv7
          obtain ⟨rfl, hx7, rfl⟩ := hv7
          clear hx7
          have HI7 := Lib.hid hi7
          have HB6 : Hid (Below w.heap.size w w6) := HB5.out.trans (hB6.mono HB5.out.size)
          have HS := refsame_any w6 _ _ c6 cap _ _ HI6.out HI7.out
          rw [hlw.out] at HS ⊢
          have HSS := Lib.hid HS
          clear ho6 hi6 hi7 hB6 HS
          go_wp2_with fail
          refine (HSS.out).mono ?_
          rintro e w7 ⟨rfl, hk7⟩
          rw [show sameB (wantOf xs i x y 2) (wantOf xs i x y 2) = true by simp [sameB]]
          have HB7 : Hid (Below w.heap.size w w7) := HB6.out.trans (hk7.below HB6.out.size (fun _ h => h.elim))
          clear hk7
          go_wp2_with fail
          go_roundw
          case rel => exact ⟨3, by omega, rfl, HB7.out⟩
          case measure => simp [intOf]
        · have q1 : (wd xs i.toNat == x) = false := by rw [beq_eq_false_iff_ne]; exact hq
          have HHQ : Hid (hit xs i x = false) := by rw [HHIT.out, q1]; rfl
          clear hq
          go_wp2_with fail
          refine (new_any _ _ _ _ HXr.out (by omega)).mono ?_
          rintro e w2 ⟨b, g, rfl, ha, hb, hg, hB⟩
          have HA2 := Lib.hid ha
          have HB2 : Hid (Below w.heap.size w w2) := HB.out.trans (hB.mono HB.out.size)
          have hsr := HB.out.size
          have HX2 := Lib.hid ((HX.out.below HB2.out).more HB2.out.size)
          clear ha hB
          go_wp2_with fail
          refine (cas_any _ _ _ _ i x y HA2.out).mono ?_
          rintro e w3 ⟨rfl, ha3, hk3⟩
          rw [← W2.out] at ha3
          have HA3 := Lib.hid ha3
          have HB3 : Hid (Below w.heap.size w w3) := HB2.out.trans (hk3.below HB2.out.size (by intro j hj; subst hj; omega))
          have hs3 := hk3.size
          have HX3 := Lib.hid ((HX.out.below HB3.out).more HB3.out.size)
          clear ha3 hk3
          rw [HHQ.out]
          go_wp2_with fail
          refine (refcopy_any _ _ _ _ HX3.out (by omega)).mono ?_
          rintro e w4 ⟨v, rfl, ho4, hB4⟩
          have HB4 : Hid (Below w.heap.size w w4) := HB3.out.trans (hB4.mono HB3.out.size)
          have HA4 := Lib.hid (HA3.out.keep (Keep.of_below hB4 (fun _ => False)) id id)
          have hs4 := hB4.size
          obtain ⟨gg, cap, cur, rfl, hgg, hcg, hn4, hc4, hs4', ht4⟩ := ho4.block (show 0 < xs.length by omega)
          have HO5 := Lib.hid (ho4.set_ i.toNat (nowOf xs i x y 2) (by omega))
          have hcell4 : w4.cell? ⟨gg, i.toNat, none⟩ = some (.int .u64 (wd xs i.toNat)) := by
            rw [cell_of_block hcg, ← Array.getElem?_toList]
            have e1 : cur.toList[i.toNat]? = (xs.map (Value.int .u64))[i.toNat]? := by rw [← ht4, List.getElem?_take, if_pos (by omega)]
            rw [e1]
            simp [wd, show i.toNat < xs.length by omega]
          have hfz4 : w4.frozen? ⟨gg, i.toNat, none⟩ = false := frozen_of_block hcg _
          have b0 : 0 ≤ i := hi0
          have b1 : i < (xs.length : Int) := hi1
          have HB5 : Hid (Below w.heap.size w (w4.setCell ⟨gg, i.toNat, none⟩ (.int .u64 (nowOf xs i x y 2)))) := HB4.out.setCell (by show w.heap.size ≤ gg; have := HB3.out.size; omega) _
          have HA5 : Hid (IsArena (w4.setCell ⟨gg, i.toNat, none⟩ (.int .u64 (nowOf xs i x y 2))) b g (wantOf xs i x y 2)) := HA4.out.keep (S := (· = gg)) (Keep.one _ _ _ _) (by have := HA3.out.lt; omega) (by have := HA3.out.lt; omega)
          have HWT : Hid (xs.set i.toNat (nowOf xs i x y 2) = wantOf xs i x y 2) := by unfold wantOf Hid; rw [if_pos HTH.out]
          have hlw : Hid ((wantOf xs i x y 2).length = xs.length) := by rw [Hid, ← HWT.out]; simp
          rw [HWT.out] at HO5
          have hnow : nowOf xs i x y 2 = wd xs i.toNat := by unfold nowOf; simp [HHQ.out, HLD.out]
          rw [hnow] at HO5 HB5 HA5
          clear ho4 hB4 hcg hn4 hc4 hs4' ht4 hnow
          go_wp2_with fail
          refine (all_any _ _ _ _ HA5.out (by rw [hlw.out]; omega)).mono ?_
          rintro e w6 ⟨v6, rfl, ho6, hB6⟩
          obtain ⟨A6, c6, rfl, hi6, _⟩ := ho6.form
          have HI6 := Lib.hid hi6
          have HO7 := Lib.hid (HO5.out.keep (Keep.of_below hB6 (fun _ => False)) (fun _ _ h => h))
          obtain ⟨A7, c7, hv7, hi7, _⟩ := HO7.out.form
          simp at hv7
          obtain ⟨rfl, hx7, rfl⟩ := hv7
          clear hx7
          have HI7 := Lib.hid hi7
          have HB6 : Hid (Below w.heap.size w w6) := HB5.out.trans (hB6.mono HB5.out.size)
          have HS := refsame_any w6 _ _ c6 cap _ _ HI6.out HI7.out
          rw [hlw.out] at HS ⊢
          have HSS := Lib.hid HS
          clear ho6 hi6 hi7 hB6 HS
          go_wp2_with fail
          refine (HSS.out).mono ?_
          rintro e w7 ⟨rfl, hk7⟩
          rw [show sameB (wantOf xs i x y 2) (wantOf xs i x y 2) = true by simp [sameB]]
          have HB7 : Hid (Below w.heap.size w w7) := HB6.out.trans (hk7.below HB6.out.size (fun _ h => h.elim))
          clear hk7
          go_wp2_with fail
          go_roundw
          case rel => exact ⟨3, by omega, rfl, HB7.out⟩
          case measure => simp [intOf]
      · go_wp2_with fail
        refine (new_any _ _ _ _ HXr.out (by omega)).mono ?_
        rintro e w2 ⟨b, g, rfl, ha, hb, hg, hB⟩
        have HA2 := Lib.hid ha
        have HB2 : Hid (Below w.heap.size w w2) := HB.out.trans (hB.mono HB.out.size)
        have hsr := HB.out.size
        have HX2 := Lib.hid ((HX.out.below HB2.out).more HB2.out.size)
        clear ha hB
        go_wp2_with fail
        refine (add_any _ _ _ _ i x HA2.out (fun h0 h1 => wrap_back _ _ (HWF.out _ (by omega)).1 (HWF.out _ (by omega)).2)).mono ?_
        rintro e w3 ⟨rfl, ha3, hk3⟩
        rw [← W3.out] at ha3
        have HA3 := Lib.hid ha3
        have HB3 : Hid (Below w.heap.size w w3) := HB2.out.trans (hk3.below HB2.out.size (by intro j hj; subst hj; omega))
        have hs3 := hk3.size
        have HX3 := Lib.hid ((HX.out.below HB3.out).more HB3.out.size)
        clear ha3 hk3
        rw [HLD.out]
        go_wp2_with fail
        refine (refcopy_any _ _ _ _ HX3.out (by omega)).mono ?_
        rintro e w4 ⟨v, rfl, ho4, hB4⟩
        have HB4 : Hid (Below w.heap.size w w4) := HB3.out.trans (hB4.mono HB3.out.size)
        have HA4 := Lib.hid (HA3.out.keep (Keep.of_below hB4 (fun _ => False)) id id)
        have hs4 := hB4.size
        obtain ⟨gg, cap, cur, rfl, hgg, hcg, hn4, hc4, hs4', ht4⟩ := ho4.block (show 0 < xs.length by omega)
        have HO5 := Lib.hid (ho4.set_ i.toNat (nowOf xs i x y 3) (by omega))
        have hcell4 : w4.cell? ⟨gg, i.toNat, none⟩ = some (.int .u64 (wd xs i.toNat)) := by
          rw [cell_of_block hcg, ← Array.getElem?_toList]
          have e1 : cur.toList[i.toNat]? = (xs.map (Value.int .u64))[i.toNat]? := by rw [← ht4, List.getElem?_take, if_pos (by omega)]
          rw [e1]
          simp [wd, show i.toNat < xs.length by omega]
        have hfz4 : w4.frozen? ⟨gg, i.toNat, none⟩ = false := frozen_of_block hcg _
        have b0 : 0 ≤ i := hi0
        have b1 : i < (xs.length : Int) := hi1
        have HB5 : Hid (Below w.heap.size w (w4.setCell ⟨gg, i.toNat, none⟩ (.int .u64 (nowOf xs i x y 3)))) := HB4.out.setCell (by show w.heap.size ≤ gg; have := HB3.out.size; omega) _
        have HA5 : Hid (IsArena (w4.setCell ⟨gg, i.toNat, none⟩ (.int .u64 (nowOf xs i x y 3))) b g (wantOf xs i x y 3)) := HA4.out.keep (S := (· = gg)) (Keep.one _ _ _ _) (by have := HA3.out.lt; omega) (by have := HA3.out.lt; omega)
        have HWT : Hid (xs.set i.toNat (nowOf xs i x y 3) = wantOf xs i x y 3) := by unfold wantOf Hid; rw [if_pos HTH.out]
        have hlw : Hid ((wantOf xs i x y 3).length = xs.length) := by rw [Hid, ← HWT.out]; simp
        rw [HWT.out] at HO5
        have hnow : nowOf xs i x y 3 = IntKind.u64.wrap (wd xs i.toNat + x) := by unfold nowOf; simp [HLD.out]
        rw [hnow] at HO5 HB5 HA5
        clear ho4 hB4 hcg hn4 hc4 hs4' ht4 hnow
        go_wp2_with fail
        refine (all_any _ _ _ _ HA5.out (by rw [hlw.out]; omega)).mono ?_
        rintro e w6 ⟨v6, rfl, ho6, hB6⟩
        obtain ⟨A6, c6, rfl, hi6, _⟩ := ho6.form
        have HI6 := Lib.hid hi6
        have HO7 := Lib.hid (HO5.out.keep (Keep.of_below hB6 (fun _ => False)) (fun _ _ h => h))
        obtain ⟨A7, c7, hv7, hi7, _⟩ := HO7.out.form
        simp at hv7
        obtain ⟨rfl, hx7, rfl⟩ := hv7
        clear hx7
        have HI7 := Lib.hid hi7
        have HB6 : Hid (Below w.heap.size w w6) := HB5.out.trans (hB6.mono HB5.out.size)
        have HS := refsame_any w6 _ _ c6 cap _ _ HI6.out HI7.out
        rw [hlw.out] at HS ⊢
        have HSS := Lib.hid HS
        clear ho6 hi6 hi7 hB6 HS
        go_wp2_with fail
        refine (HSS.out).mono ?_
        rintro e w7 ⟨rfl, hk7⟩
        rw [show sameB (wantOf xs i x y 3) (wantOf xs i x y 3) = true by simp [sameB]]
        have HB7 : Hid (Below w.heap.size w w7) := HB6.out.trans (hk7.below HB6.out.size (fun _ h => h.elim))
        clear hk7
        go_wp2_with fail
        go_roundw
        case rel => exact ⟨4, by omega, rfl, HB7.out⟩
        case measure => simp [intOf]
      · go_wp2_with fail
        go_ret
        exact ⟨rfl, HB.out⟩
  · have HTH := Lib.hid hth
    have HLD : Hid (ld xs i = 0) := by unfold ld Hid; rw [if_neg (by omega)]
    rw [hth, Bool.false_and] at hhit
    have HHQ : Hid (hit xs i x = false) := hhit
    have HOUT := Lib.hid hout
    clear hth hhit hout
    have hcs : (decide (0 ≤ i) = true ∧ decide (i < (xs.length : Int)) = false) ∨ decide (0 ≤ i) = false := by
      have := HOUT.out
      by_cases h : 0 ≤ i
      · left; simp [h]; omega
      · right; simp; omega
    obtain ⟨u1, u2⟩ | u1 := hcs
    all_goals
      go_enter Try.func4, Try.ntmps4
      go_wp2_with fail
      refine (arena_awake w).mono ?_
      rintro e w1 ⟨rfl, hB⟩
      have HB1 := Lib.hid hB
      clear hB
      go_wp2_with fail
      go_loopw [11, 12, 13, 14, 15, 16] (fun kk _ _ _ _ _ wr => ∃ k : Nat, k ≤ 4 ∧ kk = .int .i64 k ∧ Below w.heap.size w wr) (fun kk _ _ _ _ _ _ => 4 - (intOf kk).toNat)
      case atStart => exact ⟨0, by omega, rfl, HB1.out⟩
      case round =>
        obtain ⟨k, hk, rfl, hB⟩ := hrel
        have HB := Lib.hid hB
        have HXr := Lib.hid ((HX.out.below hB).more hB.size)
        clear hB
        have hk5 : k = 0 ∨ k = 1 ∨ k = 2 ∨ k = 3 ∨ k = 4 := by omega
        rcases hk5 with rfl | rfl | rfl | rfl | rfl
        · go_wp2_with fail
          refine (new_any _ _ _ _ HXr.out (by omega)).mono ?_
          rintro e w2 ⟨b, g, rfl, ha, hb, hg, hB⟩
          have HA2 := Lib.hid ha
          have HB2 : Hid (Below w.heap.size w w2) := HB.out.trans (hB.mono HB.out.size)
          have hsr := HB.out.size
          have HX2 := Lib.hid ((HX.out.below HB2.out).more HB2.out.size)
          clear ha hB
          go_wp2_with fail
          refine (load_any _ _ _ _ _ HA2.out).mono ?_
          rintro e w3 ⟨rfl, rfl⟩
          rw [HLD.out]
          have HA3 : Hid (IsArena w2 b g (wantOf xs i x y 0)) := by rw [W0.out]; exact HA2.out
          have HB3 := Lib.hid HB2.out
          have hs3 : w2.heap.size ≤ w2.heap.size := Nat.le_refl _
          have HX3 := Lib.hid HX2.out
          go_wp2_with fail
          refine (refcopy_any _ _ _ _ HX3.out (by omega)).mono ?_
          rintro e w4 ⟨v, rfl, ho4, hB4⟩
          have HB4 : Hid (Below w.heap.size w w4) := HB3.out.trans (hB4.mono HB3.out.size)
          have HA4 := Lib.hid (HA3.out.keep (Keep.of_below hB4 (fun _ => False)) id id)
          have hs4 := hB4.size
          have HWT : Hid (wantOf xs i x y 0 = xs) := by unfold wantOf Hid; rw [if_neg (by rw [HTH.out]; simp)]
          obtain ⟨A5, c5, rfl, _, _⟩ := ho4.form
          have HO5 := Lib.hid ho4
          rw [← HWT.out] at HO5
          have hlw : Hid ((wantOf xs i x y 0).length = xs.length) := by rw [HWT.out]; rfl
          clear ho4 hB4
          go_wp2_with fail
          refine (all_any _ _ _ _ HA4.out (by rw [hlw.out]; omega)).mono ?_
          rintro e w6 ⟨v6, rfl, ho6, hB6⟩
          obtain ⟨A6, c6, rfl, hi6, _⟩ := ho6.form
          have HI6 := Lib.hid hi6
          have HO7 := Lib.hid (HO5.out.keep (Keep.of_below hB6 (fun _ => False)) (fun _ _ h => h))
          obtain ⟨A7, c7, hv7, hi7, _⟩ := HO7.out.form
          simp at hv7
          obtain ⟨rfl, rfl⟩ := hv7
          have HI7 := Lib.hid hi7
          have HB6 : Hid (Below w.heap.size w w6) := HB4.out.trans (hB6.mono HB4.out.size)
          have HS := refsame_any w6 _ _ c6 c5 _ _ HI6.out HI7.out
          rw [hlw.out] at HS ⊢
          have HSS := Lib.hid HS
          clear ho6 hi6 hi7 hB6 HS
          go_wp2_with fail
          refine (HSS.out).mono ?_
          rintro e w7 ⟨rfl, hk7⟩
          rw [show sameB (wantOf xs i x y 0) (wantOf xs i x y 0) = true by simp [sameB]]
          have HB7 : Hid (Below w.heap.size w w7) := HB6.out.trans (hk7.below HB6.out.size (fun _ h => h.elim))
          clear hk7
          go_wp2_with fail
          go_roundw
          case rel => exact ⟨1, by omega, rfl, HB7.out⟩
          case measure => simp [intOf]
        · go_wp2_with fail
          refine (new_any _ _ _ _ HXr.out (by omega)).mono ?_
          rintro e w2 ⟨b, g, rfl, ha, hb, hg, hB⟩
          have HA2 := Lib.hid ha
          have HB2 : Hid (Below w.heap.size w w2) := HB.out.trans (hB.mono HB.out.size)
          have hsr := HB.out.size
          have HX2 := Lib.hid ((HX.out.below HB2.out).more HB2.out.size)
          clear ha hB
          go_wp2_with fail
          refine (store_any _ _ _ _ i x HA2.out).mono ?_
          rintro e w3 ⟨rfl, ha3, hk3⟩
          rw [← W1.out] at ha3
          have HA3 := Lib.hid ha3
          have HB3 : Hid (Below w.heap.size w w3) := HB2.out.trans (hk3.below HB2.out.size (by intro j hj; subst hj; omega))
          have hs3 := hk3.size
          have HX3 := Lib.hid ((HX.out.below HB3.out).more HB3.out.size)
          clear ha3 hk3
          go_wp2_with fail
          refine (refcopy_any _ _ _ _ HX3.out (by omega)).mono ?_
          rintro e w4 ⟨v, rfl, ho4, hB4⟩
          have HB4 : Hid (Below w.heap.size w w4) := HB3.out.trans (hB4.mono HB3.out.size)
          have HA4 := Lib.hid (HA3.out.keep (Keep.of_below hB4 (fun _ => False)) id id)
          have hs4 := hB4.size
          have HWT : Hid (wantOf xs i x y 1 = xs) := by unfold wantOf Hid; rw [if_neg (by rw [HTH.out]; simp)]
          obtain ⟨A5, c5, rfl, _, _⟩ := ho4.form
          have HO5 := Lib.hid ho4
          rw [← HWT.out] at HO5
          have hlw : Hid ((wantOf xs i x y 1).length = xs.length) := by rw [HWT.out]; rfl
          clear ho4 hB4
          go_wp2_with fail
          refine (all_any _ _ _ _ HA4.out (by rw [hlw.out]; omega)).mono ?_
          rintro e w6 ⟨v6, rfl, ho6, hB6⟩
          obtain ⟨A6, c6, rfl, hi6, _⟩ := ho6.form
          have HI6 := Lib.hid hi6
          have HO7 := Lib.hid (HO5.out.keep (Keep.of_below hB6 (fun _ => False)) (fun _ _ h => h))
          obtain ⟨A7, c7, hv7, hi7, _⟩ := HO7.out.form
          simp at hv7
          obtain ⟨rfl, rfl⟩ := hv7
          have HI7 := Lib.hid hi7
          have HB6 : Hid (Below w.heap.size w w6) := HB4.out.trans (hB6.mono HB4.out.size)
          have HS := refsame_any w6 _ _ c6 c5 _ _ HI6.out HI7.out
          rw [hlw.out] at HS ⊢
          have HSS := Lib.hid HS
          clear ho6 hi6 hi7 hB6 HS
          go_wp2_with fail
          refine (HSS.out).mono ?_
          rintro e w7 ⟨rfl, hk7⟩
          rw [show sameB (wantOf xs i x y 1) (wantOf xs i x y 1) = true by simp [sameB]]
          have HB7 : Hid (Below w.heap.size w w7) := HB6.out.trans (hk7.below HB6.out.size (fun _ h => h.elim))
          clear hk7
          go_wp2_with fail
          go_roundw
          case rel => exact ⟨2, by omega, rfl, HB7.out⟩
          case measure => simp [intOf]
        · go_wp2_with fail
          refine (new_any _ _ _ _ HXr.out (by omega)).mono ?_
          rintro e w2 ⟨b, g, rfl, ha, hb, hg, hB⟩
          have HA2 := Lib.hid ha
          have HB2 : Hid (Below w.heap.size w w2) := HB.out.trans (hB.mono HB.out.size)
          have hsr := HB.out.size
          have HX2 := Lib.hid ((HX.out.below HB2.out).more HB2.out.size)
          clear ha hB
          go_wp2_with fail
          refine (cas_any _ _ _ _ i x y HA2.out).mono ?_
          rintro e w3 ⟨rfl, ha3, hk3⟩
          rw [← W2.out] at ha3
          have HA3 := Lib.hid ha3
          have HB3 : Hid (Below w.heap.size w w3) := HB2.out.trans (hk3.below HB2.out.size (by intro j hj; subst hj; omega))
          have hs3 := hk3.size
          have HX3 := Lib.hid ((HX.out.below HB3.out).more HB3.out.size)
          clear ha3 hk3
          rw [HHQ.out]
          go_wp2_with fail
          refine (refcopy_any _ _ _ _ HX3.out (by omega)).mono ?_
          rintro e w4 ⟨v, rfl, ho4, hB4⟩
          have HB4 : Hid (Below w.heap.size w w4) := HB3.out.trans (hB4.mono HB3.out.size)
          have HA4 := Lib.hid (HA3.out.keep (Keep.of_below hB4 (fun _ => False)) id id)
          have hs4 := hB4.size
          have HWT : Hid (wantOf xs i x y 2 = xs) := by unfold wantOf Hid; rw [if_neg (by rw [HTH.out]; simp)]
          obtain ⟨A5, c5, rfl, _, _⟩ := ho4.form
          have HO5 := Lib.hid ho4
          rw [← HWT.out] at HO5
          have hlw : Hid ((wantOf xs i x y 2).length = xs.length) := by rw [HWT.out]; rfl
          clear ho4 hB4
          go_wp2_with fail
          refine (all_any _ _ _ _ HA4.out (by rw [hlw.out]; omega)).mono ?_
          rintro e w6 ⟨v6, rfl, ho6, hB6⟩
          obtain ⟨A6, c6, rfl, hi6, _⟩ := ho6.form
          have HI6 := Lib.hid hi6
          have HO7 := Lib.hid (HO5.out.keep (Keep.of_below hB6 (fun _ => False)) (fun _ _ h => h))
          obtain ⟨A7, c7, hv7, hi7, _⟩ := HO7.out.form
          simp at hv7
          obtain ⟨rfl, rfl⟩ := hv7
          have HI7 := Lib.hid hi7
          have HB6 : Hid (Below w.heap.size w w6) := HB4.out.trans (hB6.mono HB4.out.size)
          have HS := refsame_any w6 _ _ c6 c5 _ _ HI6.out HI7.out
          rw [hlw.out] at HS ⊢
          have HSS := Lib.hid HS
          clear ho6 hi6 hi7 hB6 HS
          go_wp2_with fail
          refine (HSS.out).mono ?_
          rintro e w7 ⟨rfl, hk7⟩
          rw [show sameB (wantOf xs i x y 2) (wantOf xs i x y 2) = true by simp [sameB]]
          have HB7 : Hid (Below w.heap.size w w7) := HB6.out.trans (hk7.below HB6.out.size (fun _ h => h.elim))
          clear hk7
          go_wp2_with fail
          go_roundw
          case rel => exact ⟨3, by omega, rfl, HB7.out⟩
          case measure => simp [intOf]
        · go_wp2_with fail
          refine (new_any _ _ _ _ HXr.out (by omega)).mono ?_
          rintro e w2 ⟨b, g, rfl, ha, hb, hg, hB⟩
          have HA2 := Lib.hid ha
          have HB2 : Hid (Below w.heap.size w w2) := HB.out.trans (hB.mono HB.out.size)
          have hsr := HB.out.size
          have HX2 := Lib.hid ((HX.out.below HB2.out).more HB2.out.size)
          clear ha hB
          go_wp2_with fail
          refine (add_any _ _ _ _ i x HA2.out (fun h0 h1 => wrap_back _ _ (HWF.out _ (by omega)).1 (HWF.out _ (by omega)).2)).mono ?_
          rintro e w3 ⟨rfl, ha3, hk3⟩
          rw [← W3.out] at ha3
          have HA3 := Lib.hid ha3
          have HB3 : Hid (Below w.heap.size w w3) := HB2.out.trans (hk3.below HB2.out.size (by intro j hj; subst hj; omega))
          have hs3 := hk3.size
          have HX3 := Lib.hid ((HX.out.below HB3.out).more HB3.out.size)
          clear ha3 hk3
          rw [HLD.out]
          go_wp2_with fail
          refine (refcopy_any _ _ _ _ HX3.out (by omega)).mono ?_
          rintro e w4 ⟨v, rfl, ho4, hB4⟩
          have HB4 : Hid (Below w.heap.size w w4) := HB3.out.trans (hB4.mono HB3.out.size)
          have HA4 := Lib.hid (HA3.out.keep (Keep.of_below hB4 (fun _ => False)) id id)
          have hs4 := hB4.size
          have HWT : Hid (wantOf xs i x y 3 = xs) := by unfold wantOf Hid; rw [if_neg (by rw [HTH.out]; simp)]
          obtain ⟨A5, c5, rfl, _, _⟩ := ho4.form
          have HO5 := Lib.hid ho4
          rw [← HWT.out] at HO5
          have hlw : Hid ((wantOf xs i x y 3).length = xs.length) := by rw [HWT.out]; rfl
          clear ho4 hB4
          go_wp2_with fail
          refine (all_any _ _ _ _ HA4.out (by rw [hlw.out]; omega)).mono ?_
          rintro e w6 ⟨v6, rfl, ho6, hB6⟩
          obtain ⟨A6, c6, rfl, hi6, _⟩ := ho6.form
          have HI6 := Lib.hid hi6
          have HO7 := Lib.hid (HO5.out.keep (Keep.of_below hB6 (fun _ => False)) (fun _ _ h => h))
          obtain ⟨A7, c7, hv7, hi7, _⟩ := HO7.out.form
          simp at hv7
          obtain ⟨rfl, rfl⟩ := hv7
          have HI7 := Lib.hid hi7
          have HB6 : Hid (Below w.heap.size w w6) := HB4.out.trans (hB6.mono HB4.out.size)
          have HS := refsame_any w6 _ _ c6 c5 _ _ HI6.out HI7.out
          rw [hlw.out] at HS ⊢
          have HSS := Lib.hid HS
          clear ho6 hi6 hi7 hB6 HS
          go_wp2_with fail
          refine (HSS.out).mono ?_
          rintro e w7 ⟨rfl, hk7⟩
          rw [show sameB (wantOf xs i x y 3) (wantOf xs i x y 3) = true by simp [sameB]]
          have HB7 : Hid (Below w.heap.size w w7) := HB6.out.trans (hk7.below HB6.out.size (fun _ h => h.elim))
          clear hk7
          go_wp2_with fail
          go_roundw
          case rel => exact ⟨4, by omega, rfl, HB7.out⟩
          case measure => simp [intOf]
        · go_wp2_with fail
          go_ret
          exact ⟨rfl, HB.out⟩
theorem wf_of {xs : List Int} (h : ∀ x ∈ xs, (Lit.int .u64 x).wf = true) : Wf xs := by
  intro j hj
  have := bounds_u64 (h xs[j] (List.getElem_mem hj))
  rw [wd_eq xs j hj]
  omega
end Go.Proofs.Ytnbigldfklehgaa

/- The walk of the law ArenaNone. -/
import Derived.Test.YtnbigldfklehgabArenaAwake
import Derived.Test.YtnbigldfklehgabArenaDo
import Derived.Test.YtnbigldfklehgabOwn
namespace Go.Proofs.Ytnbigldfklehgab
open Go Go.RowKit
set_option linter.unusedSimpArgs false
set_option linter.unusedVariables false

theorem store_nil (w : World) (i x : Int) : Calls Try.prog 22 #[.pointer none, .int .i64 i, .int .u64 x] w fun e w' => e = .returned (.tuple #[]) ∧ w = w' := by
  go_enter Try.func22, Try.ntmps22
  go_wp2_with (go_at_call 43; refine (at_nil _ _).mono ?_; rintro e w' ⟨rfl, rfl⟩)
  go_end0
  exact ⟨rfl, rfl⟩
theorem load_nil (w : World) (i : Int) : Calls Try.prog 23 #[.pointer none, .int .i64 i] w fun e w' => e = .returned (.int .u64 0) ∧ w = w' := by
  go_enter Try.func23, Try.ntmps23
  go_wp2_with (go_at_call 43; refine (at_nil _ _).mono ?_; rintro e w' ⟨rfl, rfl⟩)
  go_ret
  exact ⟨rfl, rfl⟩
theorem cas_nil (w : World) (i x y : Int) : Calls Try.prog 24 #[.pointer none, .int .i64 i, .int .u64 x, .int .u64 y] w fun e w' => e = .returned (.bool false) ∧ w = w' := by
  go_enter Try.func24, Try.ntmps24
  go_wp2_with (go_at_call 43; refine (at_nil _ _).mono ?_; rintro e w' ⟨rfl, rfl⟩)
  go_ret
  exact ⟨rfl, rfl⟩
theorem add_nil (w : World) (i x : Int) : Calls Try.prog 25 #[.pointer none, .int .i64 i, .int .u64 x] w fun e w' => e = .returned (.int .u64 0) ∧ w = w' := by
  go_enter Try.func25, Try.ntmps25
  go_wp2_with (go_at_call 43; refine (at_nil _ _).mono ?_; rintro e w' ⟨rfl, rfl⟩)
  go_ret
  exact ⟨rfl, rfl⟩
theorem len_nil (w : World) : Calls Try.prog 21 #[.pointer none] w fun e w' => e = .returned (.int .i64 0) ∧ w = w' := by
  go_enter Try.func21, Try.ntmps21
  go_wp2
  go_ret
  exact ⟨rfl, rfl⟩
theorem all_nil (w : World) : Calls Try.prog 20 #[.pointer none] w fun e w' => e = .returned (.slice none 0 0) ∧ w = w' := by
  go_enter Try.func20, Try.ntmps20
  go_wp2_with (go_at_call 21; refine (len_nil _).mono ?_; rintro e w' ⟨rfl, rfl⟩)
  refine wp_loop_rounds 1 ?_
  rw [rounds_succ]
  go_wp2
  go_ret
  exact ⟨rfl, rfl⟩
theorem do_nil (w : World) (a : Acc) : Calls Try.prog 17 #[.pointer none, a.v] w fun e w' => e = .returned (.tuple #[Acc.zero.v, .bool false]) ∧ Below w.heap.size w w' := by
  obtain ⟨k0, k1, k2, k3, k4, kf⟩ := acc_cells (heap_new1 w a.obj Acc.zobj)
  obtain ⟨z0, z1, z2, z3, z4, f0, f1, f2, f3, f4⟩ := zacc_cells (heap_new2 w a.obj Acc.zobj)
  unfold Acc.zero
  go_enter Try.func17, Try.ntmps17
  go_wp2_with (go_at_call 43; refine (at_nil _ _).mono ?_; rintro e w' ⟨rfl, rfl⟩)
  exact bodyPost_ret (v := .tuple #[.agg #[.int .i64 0, .int .i64 0, .int .u64 0, .int .u64 0, .int .u64 0], .bool false]) (by simp [results, Try.results17, go_sem, z0, z1, z2, z3, z4]) rfl
    ⟨rfl, by repeat (first | (with_reducible exact Below.refl _ _) | (with_reducible refine Below.alloc ?_ (by simp) _) | refine Below.setCell ?_ (by simp) _)⟩
set_option maxHeartbeats 2000000 in
set_option maxRecDepth 100000 in
theorem none_walk (w : World) (A : Option Addr) (c : Nat) (xs : List Int) (i x : Int) (hx : Words w w.heap.size A xs) :
    Calls Try.prog 5 #[.slice A xs.length c, .int .i64 i, .int .u64 x] w fun e w' => e = .returned (.bool true) ∧ Below w.heap.size w w' := by
  have HX := Lib.hid hx
  have hm := hx.len
  unfold maxLen at hm
  clear hx
  by_cases h60 : 60 < xs.length
  · have d1 : decide ((60 : Int) < (xs.length : Int)) = true := by simp; omega
    go_enter Try.func5, Try.ntmps5
    go_wp2_with fail
    refine (arena_awake w).mono ?_
    rintro e w1 ⟨rfl, hB⟩
    have HB := Lib.hid hB
    clear hB
    go_wp2_with fail
    go_ret
    exact ⟨rfl, HB.out⟩
  have d1 : decide ((60 : Int) < (xs.length : Int)) = false := by simp; omega
  go_enter Try.func5, Try.ntmps5
  go_wp2_with fail
  refine (arena_awake w).mono ?_
  rintro e w1 ⟨rfl, hB⟩
  have HB1 := Lib.hid hB
  clear hB
  go_wp2_with fail
  refine (store_nil _ _ _).mono ?_
  rintro e w2 ⟨rfl, rfl⟩
  go_wp2_with fail
  refine (do_nil _ ⟨1, i, 0, 0, 0⟩).mono ?_
  rintro e w2 ⟨rfl, hB⟩
  have HB2 : Hid (Below w.heap.size w w2) := HB1.out.trans (hB.mono HB1.out.size)
  have HB2a : Hid (Below w.heap.size w (w2.alloc Acc.zobj)) := HB2.out.alloc HB2.out.size _
  clear hB
  unfold Acc.zero
  go_wp2_with (first
    | (go_at_call 23; refine (load_nil _ _).mono ?_; rintro e w3 ⟨rfl, rfl⟩)
    | (go_at_call 24; refine (cas_nil _ _ _ _).mono ?_; rintro e w3 ⟨rfl, rfl⟩)
    | (go_at_call 25; refine (add_nil _ _ _).mono ?_; rintro e w3 ⟨rfl, rfl⟩)
    | (go_at_call 21; refine (len_nil _).mono ?_; rintro e w3 ⟨rfl, rfl⟩)
    | (go_at_call 20; refine (all_nil _).mono ?_; rintro e w3 ⟨rfl, rfl⟩))
  have HX3 := Lib.hid ((HX.out.below HB2a.out).more HB2a.out.size)
  refine (refcopy_any _ _ _ _ HX3.out (by omega)).mono ?_
  rintro e w3 ⟨v, rfl, ho, hB⟩
  have HB3 : Hid (Below w.heap.size w w3) := HB2a.out.trans (hB.mono HB2a.out.size)
  obtain ⟨A3, c3, rfl, hi3, _⟩ := ho.form
  have HO3 := Lib.hid ho
  have HI3 := Lib.hid hi3
  clear hB ho hi3
  go_wp2_with fail
  refine (new_any _ _ _ _ HI3.out (by omega)).mono ?_
  rintro e w4 ⟨b, g, rfl, ha, hb, hg, hB⟩
  have HA4 := Lib.hid ha
  have HO4 := Lib.hid (HO3.out.keep (Keep.of_below hB (fun _ => False)) (fun _ _ h => h))
  have HB4 : Hid (Below w.heap.size w w4) := HB3.out.trans (hB.mono HB3.out.size)
  have HS4 := Lib.hid hB.size
  have hs3 := HB3.out.size
  have hbk : ∀ g', (Value.slice A3 xs.length c3).ownBlock = some g' → w.heap.size ≤ g' ∧ g' < w3.heap.size := fun g' h => by
    obtain ⟨_, _, _, _, hb'⟩ := HO3.out.form
    have := hb' g' h
    have h2 := HB2a.out.size
    omega
  have HBK := Lib.hid hbk
  clear hB ha hbk
  go_wp2_with fail
  go_loopw [12] (fun j wr => ∃ (k : Nat) (ys : List Int), ys.length = xs.length ∧ k ≤ xs.length ∧ j = .int .i64 k ∧ Own .u64 45 wr w.heap.size (.slice A3 xs.length c3) ys ∧ IsArena wr b g xs ∧ Below w.heap.size w wr ∧ w4.heap.size ≤ wr.heap.size) (fun j _ => xs.length - (intOf j).toNat)
  case atStart => exact ⟨0, xs, rfl, Nat.zero_le _, rfl, HO4.out.more (by have h2 := HB2a.out.size; omega), HA4.out, HB4.out, Nat.le_refl _⟩
  case round =>
    obtain ⟨k, ys, hl, hk, rfl, ho, ha, hB, hsz⟩ := hrel
    have HLY := Lib.hid hl
    have HO := Lib.hid ho
    have HA := Lib.hid ha
    have HB := Lib.hid hB
    clear ho ha hB HO4 HA4
    by_cases hlt : k < xs.length
    · obtain ⟨gg, cap, hv, hcell, hfz, hgb, hgl, hset⟩ := HO.out.at_ (i := k) (by rw [HLY.out]; exact hlt)
      rw [HLY.out] at hv
      simp at hv
      obtain ⟨rfl, rfl⟩ := hv
      have hgb' := HBK.out gg rfl
      have HSET := Lib.hid hset
      clear hset hl
      go_wp2_with fail
      go_roundw
      case rel => exact ⟨k + 1, ys.set k _, by rw [List.length_set, HLY.out], by omega, by go_num, HSET.out _, HA.out.keep (Keep.one _ _ _ _) (by show ¬ b = gg; omega) (by show ¬ g = gg; omega), HB.out.setCell hgb'.1 _, by simpa [World.setCell] using hsz⟩
      case measure => simp [intOf]; omega
    · clear hl
      go_wp2_with fail
      refine (all_any _ _ _ _ HA.out (by omega)).mono ?_
      rintro e w5 ⟨v5, rfl, ho5, hB5⟩
      obtain ⟨A5, c5, rfl, _, _⟩ := ho5.form
      have HO5 := Lib.hid (ho5.more (base' := wr.heap.size) (Nat.le_refl _))
      have HA5 := Lib.hid (HA.out.keep (Keep.of_below hB5 (fun _ => False)) id id)
      have HB5 : Hid (Below w.heap.size w w5) := HB.out.trans (hB5.mono HB.out.size)
      have hbr := HA.out.lt
      have hsr := HB.out.size
      clear ho5 hB5
      go_wp2_with fail
      go_loopw [14] (fun j wr' => ∃ (k : Nat) (ys : List Int), ys.length = xs.length ∧ k ≤ xs.length ∧ j = .int .i64 k ∧ Own .u64 45 wr' wr.heap.size (.slice A5 xs.length c5) ys ∧ IsArena wr' b g xs ∧ Below w.heap.size w wr') (fun j _ => xs.length - (intOf j).toNat)
      case atStart => exact ⟨0, xs, rfl, Nat.zero_le _, rfl, HO5.out, HA5.out, HB5.out⟩
      case round =>
        obtain ⟨k', ys', hl, hk', rfl, ho, ha, hB⟩ := hrel
        have HLY' := Lib.hid hl
        have HO' := Lib.hid ho
        have HA' := Lib.hid ha
        have HB' := Lib.hid hB
        clear ho ha hB HO5 HA5
        by_cases hlt' : k' < xs.length
        · obtain ⟨gg, cap, hv, hcell, hfz, hgb, hgl, hset⟩ := HO'.out.at_ (i := k') (by rw [HLY'.out]; exact hlt')
          rw [HLY'.out] at hv
          simp at hv
          obtain ⟨rfl, rfl⟩ := hv
          have HSET := Lib.hid hset
          clear hset hl
          go_wp2_with fail
          go_roundw
          case rel => exact ⟨k' + 1, ys'.set k' _, by rw [List.length_set, HLY'.out], by omega, by go_num, HSET.out _, HA'.out.keep (Keep.one _ _ _ _) (by show ¬ b = gg; omega) (by show ¬ g = gg; omega), HB'.out.setCell (by show w.heap.size ≤ gg; omega) _⟩
          case measure => simp [intOf]; omega
        · clear hl
          go_wp2_with fail
          refine (all_any _ _ _ _ HA'.out (by omega)).mono ?_
          rintro e w6 ⟨v6, rfl, ho6, hB6⟩
          obtain ⟨A6, c6, rfl, hi6, _⟩ := ho6.form
          have HI6 := Lib.hid hi6
          have HB6 : Hid (Below w.heap.size w w6) := HB'.out.trans (hB6.mono HB'.out.size)
          have HX6 := Lib.hid ((HX.out.below HB6.out).more HB6.out.size)
          clear ho6 hi6 hB6
          go_wp2_with fail
          refine (refsame_any _ _ _ _ _ _ _ HI6.out HX6.out).mono ?_
          rintro e w7 ⟨rfl, hk7⟩
          rw [show sameB xs xs = true by simp [sameB]]
          have HB7 : Hid (Below w.heap.size w w7) := HB6.out.trans (hk7.below HB6.out.size (fun _ h => h.elim))
          clear hk7
          go_wp2_with fail
          go_ret
          exact ⟨rfl, HB7.out⟩
end Go.Proofs.Ytnbigldfklehgab

/- Walks of the law ArenaAdds. -/
import Derived.Test.YtnbigldfklehgaaArena
namespace Go.Proofs.Ytnbigldfklehgaa
open Go Go.RowKit
set_option linter.unusedSimpArgs false
set_option linter.unusedVariables false

theorem new_one (w : World) (x : Int) :
    Calls Try.prog 8 #[.slice (some ⟨w.heap.size, 0, none⟩) 1 1] (w.alloc (.cells #[.int .u64 x] 23)) fun e w' => ∃ b g, e = .returned (.pointer (some ⟨b,0,none⟩)) ∧ IsArena w' b g [x] ∧ w.heap.size ≤ b ∧ w.heap.size ≤ g ∧ Below w.heap.size w w' := by
  have h := new_any (w.alloc (.cells #[.int .u64 x] 23)) (some ⟨w.heap.size, 0, none⟩) 1 [x] ⟨by simp [maxLen], fun _ => ⟨_, rfl, by simp, fun j hj => by
    have : j = 0 := by simpa using hj
    subst this
    show (w.alloc _).cell? ⟨w.heap.size, 0, none⟩ = _
    rw [cell_of_block (heap_alloc_new w _)]
    rfl⟩⟩ (by simp)
  refine h.mono fun e w' hh => ?_
  obtain ⟨b, g, he, ha, hb, hg, hB⟩ := hh
  simp at hb hg
  exact ⟨b, g, he, ha, by omega, by omega, ((Below.refl _ _).alloc (Nat.le_refl _) _).trans (hB.mono (by simp))⟩

theorem wrap_back (x y : Int) (h0 : 0 ≤ x) (h1 : x < 18446744073709551616) : IntKind.u64.wrap (IntKind.u64.wrap (x + y) - y) = x := by
  simp only [IntKind.wrap_u64]
  omega

theorem arena_awake (w : World) : Calls Try.prog 7 #[] w fun e w' => e = .returned (.bool true) ∧ Below w.heap.size w w' := by
  have e1 : ld [5] 0 = 5 := by decide
  have e2 : ld [7] 0 = 7 := by decide
  go_enter Try.func7, Try.ntmps7
  go_wp2_with fail
  refine (new_one w 5).mono ?_
  rintro e w1 ⟨b, g, rfl, ha, hb, hg, hB⟩
  have HA := Lib.hid ha
  have HB := Lib.hid hB
  clear ha hB
  go_wp2_with fail
  refine (add_any _ _ _ _ _ _ HA.out (fun _ _ => by decide)).mono ?_
  rintro e w2 ⟨rfl, ha2, hk2⟩
  rw [show st [5] 0 (IntKind.u64.wrap (ld [5] 0 + 2)) = [7] by decide] at ha2
  have HA2 := Lib.hid ha2
  have HK2 := Lib.hid hk2
  clear ha2 hk2
  go_wp2_with fail
  refine (load_any _ _ _ _ _ HA2.out).mono ?_
  rintro e w3 ⟨rfl, rfl⟩
  go_wp2_with fail
  go_ret
  exact ⟨rfl, HB.out.trans (HK2.out.below HB.out.size (fun k hk => by subst hk; exact hg))⟩

/-- the sum of the first k words, round the word -/
def sumTo (x : Int) (l : List Int) : Nat → Int
  | 0 => x
  | k + 1 => IntKind.u64.wrap (sumTo x l k + wd l k)
/-- .. and of the last k -/
def sumFrom (x : Int) (l : List Int) : Nat → Int
  | 0 => x
  | k + 1 => IntKind.u64.wrap (sumFrom x l k + wd l (l.length - 1 - k))

def sumL (l : List Int) : Int := l.foldr (· + ·) 0
theorem sumL_append (a b : List Int) : sumL (a ++ b) = sumL a + sumL b := by
  induction a with
  | nil => simp [sumL]
  | cons x a ih => simp only [sumL, List.cons_append, List.foldr_cons] at ih ⊢; omega
theorem sumTo_eq (x : Int) (l : List Int) (h0 : 0 ≤ x) (h1 : x < 18446744073709551616) : ∀ k, k ≤ l.length → sumTo x l k = IntKind.u64.wrap (x + sumL (l.take k))
  | 0, _ => by simp [sumTo, sumL, IntKind.wrap_u64]; omega
  | k + 1, hk => by
    rw [sumTo, sumTo_eq x l h0 h1 k (by omega), List.take_succ_eq_append_getElem (by omega : k < l.length), sumL_append]
    have e : wd l k = l[k] := by unfold wd; simp [show k < l.length by omega]
    have e2 : sumL [l[k]] = l[k] := by simp [sumL]
    rw [e, e2]
    simp only [IntKind.wrap_u64]
    omega
theorem sumFrom_eq (x : Int) (l : List Int) (h0 : 0 ≤ x) (h1 : x < 18446744073709551616) : ∀ k, k ≤ l.length → sumFrom x l k = IntKind.u64.wrap (x + sumL (l.drop (l.length - k)))
  | 0, _ => by simp [sumFrom, sumL, IntKind.wrap_u64]; omega
  | k + 1, hk => by
    rw [sumFrom, sumFrom_eq x l h0 h1 k (by omega)]
    have hd : l.drop (l.length - (k + 1)) = l[l.length - 1 - k] :: l.drop (l.length - k) := by
      rw [List.drop_eq_getElem_cons (by omega : l.length - (k+1) < l.length)]
      congr 2 <;> omega
    have e : wd l (l.length - 1 - k) = l[l.length - 1 - k] := by unfold wd; simp [show l.length - 1 - k < l.length by omega]
    rw [hd, e]
    simp only [IntKind.wrap_u64, sumL, List.foldr_cons]
    omega
theorem sums_same (x : Int) (l : List Int) (h0 : 0 ≤ x) (h1 : x < 18446744073709551616) : sumFrom x l l.length = sumTo x l l.length := by
  rw [sumTo_eq x l h0 h1 _ (Nat.le_refl _), sumFrom_eq x l h0 h1 _ (Nat.le_refl _)]
  simp
theorem sumTo_range (x : Int) (l : List Int) (h0 : 0 ≤ x) (h1 : x < 18446744073709551616) (k : Nat) : 0 ≤ sumTo x l k ∧ sumTo x l k < 18446744073709551616 := by
  cases k with
  | zero => exact ⟨h0, h1⟩
  | succ k => simp only [sumTo, IntKind.wrap_u64]; omega
theorem sumFrom_range (x : Int) (l : List Int) (h0 : 0 ≤ x) (h1 : x < 18446744073709551616) (k : Nat) : 0 ≤ sumFrom x l k ∧ sumFrom x l k < 18446744073709551616 := by
  cases k with
  | zero => exact ⟨h0, h1⟩
  | succ k => simp only [sumFrom, IntKind.wrap_u64]; omega
theorem ld_one (x : Int) : ld [x] 0 = x := by simp [ld, wd]
theorem st_one (x y : Int) : st [x] 0 y = [y] := by simp [st]
theorem swap_one (x y z : Int) : swap [x] 0 y z = [if x = y then z else x] := by
  unfold swap hit
  by_cases h : x = y <;> simp [h, wd, st]
theorem hit_one (x y : Int) : hit [x] 0 y = decide (x = y) := by simp [hit, wd]

theorem add_one (w : World) (b g : Nat) (s x : Int) (h : IsArena w b g [s]) (h0 : 0 ≤ s) (h1 : s < 18446744073709551616) :
    Calls Try.prog 9 #[.pointer (some ⟨b,0,none⟩), .int .i64 0, .int .u64 x] w fun e w' => e = .returned (.int .u64 s) ∧ IsArena w' b g [IntKind.u64.wrap (s + x)] ∧ Keep (· = g) w w' := by
  have hh := add_any w b g [s] 0 x h (fun _ _ => by simpa [wd] using wrap_back s x h0 h1)
  rw [ld_one, st_one] at hh
  exact hh

set_option maxHeartbeats 1000000 in
theorem adds_walk (w : World) (x : Int) (A : Option Addr) (c : Nat) (l : List Int) (hx0 : 0 ≤ x) (hx1 : x < 18446744073709551616) (hl : Words w w.heap.size A l) :
    Calls Try.prog 3 #[.int .u64 x, .slice A l.length c] w fun e w' => e = .returned (.bool true) ∧ Below w.heap.size w w' := by
  have HL := Lib.hid hl
  have hm := hl.len
  unfold maxLen at hm
  clear hl
  by_cases h60 : 60 < l.length
  · go_enter Try.func3, Try.ntmps3
    go_wp2_with fail
    refine (arena_awake w).mono ?_
    rintro e w1 ⟨rfl, hB⟩
    have HB := Lib.hid hB
    clear hB
    go_wp2_with fail
    go_ret
    exact ⟨rfl, HB.out⟩
  go_enter Try.func3, Try.ntmps3
  go_wp2_with fail
  refine (arena_awake w).mono ?_
  rintro e w1 ⟨rfl, hB⟩
  have HB := Lib.hid hB
  have hs1 := hB.size
  clear hB
  go_wp2_with fail
  refine (new_one w1 x).mono ?_
  rintro e w2 ⟨b, g, rfl, ha, hb, hg, hB2⟩
  have HA := Lib.hid ha
  have HB2 := Lib.hid hB2
  have hs2 := hB2.size
  have hlt := ha.lt
  clear ha hB2
  go_wp2_with fail
  refine (new_one w2 x).mono ?_
  rintro e w3 ⟨b', g', rfl, ha', hb', hg', hB3⟩
  have HA' := Lib.hid ha'
  have HB3 := Lib.hid hB3
  have hs3 := hB3.size
  have hlt' := ha'.lt
  clear ha' hB3
  go_wp2_with fail
  have hAk := HA.out.keep (Keep.of_below HB3.out (fun _ => False)) id id
  have HAk := Lib.hid hAk
  clear hAk HA
  have hB0 : Below w.heap.size w w3 := (HB.out.trans (HB2.out.mono (by omega))).trans (HB3.out.mono (by omega))
  have HB0 := Lib.hid hB0
  clear hB0
  go_loopw [7, 8] (fun s i wr => ∃ k : Nat, k ≤ l.length ∧ i = .int .i64 k ∧ s = .int .u64 (sumTo x l k) ∧ IsArena wr b g [sumTo x l k] ∧ IsArena wr b' g' [sumFrom x l k] ∧ Below w.heap.size w wr) (fun _ i _ => l.length - (intOf i).toNat)
  case atStart => exact ⟨0, Nat.zero_le _, rfl, rfl, HAk.out, HA'.out, HB0.out⟩
  case round =>
    obtain ⟨k, hk, rfl, rfl, ha, ha', hB⟩ := hrel
    have hr1 := sumTo_range x l hx0 hx1 k
    have hr2 := sumFrom_range x l hx0 hx1 k
    have HR1 := Lib.hid hr1
    have HR2 := Lib.hid hr2
    clear hr1 hr2 HAk HA'
    have HA := Lib.hid ha
    have HA' := Lib.hid ha'
    have HB5 := Lib.hid hB
    clear ha ha' hB
    by_cases hlt : k < l.length
    · obtain ⟨ad, rfl, hadB, hcx⟩ := HL.out.cell HB5.out hlt
      go_wp2_with fail
      refine (add_one _ _ _ _ _ HA.out HR1.out.1 HR1.out.2).mono ?_
      rintro e w4 ⟨rfl, ha4, hk4⟩
      have HA4 := Lib.hid ha4
      have HK4 := Lib.hid hk4
      have hs4 := hk4.size
      clear ha4 hk4
      have hcy : w4.cell? (ad.add k) = some (.int .u64 (wd l k)) := by
        rw [HK4.out.cell (World.block_lt_of_cell? _ _ hcx) (by rw [block_of_add]; omega)]; exact hcx
      obtain ⟨ad', hadE, hadB', hcz0⟩ := HL.out.cell HB5.out (show l.length - 1 - k < l.length by omega)
      obtain rfl : ad = ad' := by injection hadE
      clear hadE
      have hcz : w4.cell? (ad.add (l.length - 1 - k)) = some (.int .u64 (wd l (l.length - 1 - k))) := by
        rw [HK4.out.cell (World.block_lt_of_cell? _ _ hcz0) (by rw [block_of_add]; omega)]; exact hcz0
      clear hcz0 hcx
      have hidx : ((l.length : Int) - 1 - k).toNat = l.length - 1 - k := by omega
      have hne : b' ≠ g := by omega
      have hne2 : g' ≠ g := by omega
      have HA5 := Lib.hid (HA'.out.keep HK4.out hne hne2)
      go_wp2_with fail
      refine (add_one _ _ _ _ _ HA5.out HR2.out.1 HR2.out.2).mono ?_
      rintro e w5 ⟨rfl, ha6, hk6⟩
      have HA6 := Lib.hid ha6
      have HK6 := Lib.hid hk6
      have hs6 := hk6.size
      clear ha6 hk6
      have hne3 : b ≠ g' := by omega
      have hne4 : g ≠ g' := by omega
      have HA7 := Lib.hid (HA4.out.keep HK6.out hne3 hne4)
      go_wp2_with fail
      go_roundw
      case rel => exact ⟨k + 1, by omega, by go_num, rfl, HA7.out, HA6.out, (HB5.out.trans (HK4.out.below HB5.out.size (by intro i hi; subst hi; omega))).trans (HK6.out.below (by have := HB5.out.size; omega) (by intro i hi; subst hi; omega))⟩
      case measure => simp [intOf]; omega
    · obtain rfl : k = l.length := by omega
      have hss := sums_same x l hx0 hx1
      rw [hss] at HA'
      clear hss HR2
      generalize sumTo x l l.length = S at *
      have hn1 : b' ≠ g := by omega
      have e1 : ld [S] 0 = S := ld_one S
      have E2 := Lib.hid (hit_one S x)
      have E3 := Lib.hid (swap_one S x 7)
      go_wp2_with fail
      refine (load_any _ _ _ _ _ HA.out).mono ?_
      rintro e w4 ⟨rfl, rfl⟩
      go_wp2_with fail
      refine (load_any _ _ _ _ _ HA'.out).mono ?_
      rintro e w4 ⟨rfl, rfl⟩
      go_wp2_with fail
      refine (cas_any _ _ _ _ _ x 7 HA.out).mono ?_
      rintro e w4 ⟨rfl, ha4, hk4⟩
      rw [E3.out] at ha4
      rw [E2.out]
      have HA4 := Lib.hid ha4
      have HK4 := Lib.hid hk4
      clear ha4 hk4 E2 E3
      have HBe := Lib.hid (HB5.out.trans (HK4.out.below HB5.out.size (by intro i hi; subst hi; omega)))
      by_cases hSx : S = x
      · have e4 : (S == x) = true := by simp [hSx]
        rw [if_pos hSx] at HA4
        have e5 : ld [7] 0 = 7 := ld_one 7
        have e6 : decide (S = x) = true := by simp [hSx]
        rw [e6]
        clear hSx e6
        go_wp2_with fail
        refine (load_any _ _ _ _ _ HA4.out).mono ?_
        rintro e w5 ⟨rfl, rfl⟩
        go_wp2_with fail
        go_ret
        exact ⟨rfl, HBe.out⟩
      · have e4 : (S == x) = false := by simp [hSx]
        rw [if_neg hSx] at HA4
        have e6 : decide (S = x) = false := by simp [hSx]
        rw [e6]
        clear hSx e6
        by_cases h7 : S = 7
        · have e7 : (S == 7) = true := by simp [h7]
          clear h7
          go_wp2_with fail
          refine (load_any _ _ _ _ _ HA4.out).mono ?_
          rintro e w5 ⟨rfl, rfl⟩
          go_wp2_with fail
          go_ret
          exact ⟨rfl, HBe.out⟩
        · have e7 : (S == 7) = false := by simp [h7]
          clear h7
          go_wp2_with fail
          refine (load_any _ _ _ _ _ HA4.out).mono ?_
          rintro e w5 ⟨rfl, rfl⟩
          go_wp2_with fail
          go_ret
          exact ⟨rfl, HBe.out⟩
end Go.Proofs.Ytnbigldfklehgaa

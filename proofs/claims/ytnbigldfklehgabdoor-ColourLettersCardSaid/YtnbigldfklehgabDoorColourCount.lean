/- How many there are of each colour: colour.Count, mudlarkref02.Count. -/
import Derived.Test.YtnbigldfklehgabDoorColour
import Derived.Deep.RegionHeld3
namespace Go.Proofs.YtnbigldfklehgabDoor
open Go Go.RowKit
set_option linter.unusedSimpArgs false
set_option linter.unusedVariables false

/-- how many there are of one -/
def cnt (xs : List Int) (c : Int) : Nat := (xs.filter fun x => decide (x = c)).length
theorem cnt_le (xs : List Int) (c : Int) : cnt xs c ≤ xs.length := List.length_filter_le _ _
theorem cnt_next (xs : List Int) (k : Nat) (h : k < xs.length) (c : Int) : cnt (xs.take (k + 1)) c = cnt (xs.take k) c + if wd xs k = c then 1 else 0 := by
  unfold cnt
  rw [List.take_succ_eq_append_getElem h, List.filter_append, List.length_append, wd_nth xs k h]
  by_cases he : xs[k] = c <;> simp [he]
theorem refCount_any (w : World) (A : Option Addr) (c : Nat) (xs : List Int) (x : Int) (h : Words w w.heap.size A xs) (hx : 0 ≤ x ∧ x < 18446744073709551616) (hl : xs.length ≤ 1000) :
    Calls Tryd.prog 9 #[.slice A xs.length c, .int .u64 x] w fun e w' => e = .returned (.int .i64 (cnt xs x)) ∧ w' = w := by
  have H := Lib.hid h
  clear h
  go_enter Tryd.func9, Tryd.ntmps9
  go_wp2_with fail
  go_loopw [5, 6] (fun n i wr => ∃ k : Nat, k ≤ xs.length ∧ i = .int .i64 k ∧ n = .int .i64 (cnt (xs.take k) x) ∧ wr = w) (fun _ i _ => xs.length - (intOf i).toNat)
  case atStart => exact ⟨0, Nat.zero_le _, rfl, rfl, rfl⟩
  case round =>
    obtain ⟨k, hk, rfl, rfl, rfl⟩ := hrel
    by_cases hlt : k < xs.length
    · obtain ⟨ad, rfl, hB, hcx⟩ := H.out.cell (Below.refl _ _) hlt
      have i1 : ((k : Nat) : Int) < ((xs.length : Nat) : Int) := by omega
      have hcl := cnt_le (xs.take k) x
      have hcl2 : cnt (xs.take k) x ≤ 1000 := by simp at hcl; omega
      clear hcl
      have hn := Lib.hid (cnt_next xs k hlt x)
      generalize cnt (xs.take k) x = n at *
      by_cases he : wd xs k = x
      · have heb : (wd xs k == x) = true := by simpa using he
        have HE := Lib.hid he
        clear he
        go_wp2_with fail
        go_roundw
        case rel => exact ⟨k + 1, by omega, by go_num, by rw [hn.out, if_pos HE.out]; go_num, trivial⟩
        case measure => simp [intOf]; omega
      · have heb : (wd xs k == x) = false := by simpa using he
        have HE := Lib.hid he
        clear he
        go_wp2_with fail
        go_roundw
        case rel => exact ⟨k + 1, by omega, by go_num, by rw [hn.out, if_neg HE.out]; rfl, trivial⟩
        case measure => simp [intOf]; omega
    · obtain rfl : k = xs.length := by omega
      go_wp2_with fail
      go_ret
      exact ⟨by rw [List.take_length]; rfl, rfl⟩
/-- the row of three counts -/
abbrev row3 (xs : List Int) : Obj := .cells #[.int .i64 (cnt xs 0), .int .i64 (cnt xs 1), .int .i64 (cnt xs 2)] 45
theorem row3_next (xs : List Int) (k : Nat) (h : k < xs.length) (hb : 2 < wd xs k) : row3 (xs.take (k + 1)) = row3 (xs.take k) := by
  unfold row3
  rw [cnt_next xs k h, cnt_next xs k h, cnt_next xs k h, if_neg (by omega), if_neg (by omega), if_neg (by omega)]
  rfl
set_option maxHeartbeats 4000000 in
set_option maxRecDepth 100000 in
theorem count_any (w : World) (A : Option Addr) (c : Nat) (xs : List Int) (h : Words w w.heap.size A xs) (hx : ∀ x ∈ xs, 0 ≤ x ∧ x < 18446744073709551616) (hl : xs.length ≤ 1000) :
    Calls Tryd.prog 6 #[.slice A xs.length c] w fun e w' => e = .returned (.tuple #[.int .i64 (cnt xs 0), .int .i64 (cnt xs 1), .int .i64 (cnt xs 2)]) ∧ Below w.heap.size w w' := by
  have H := Lib.hid h
  have HX := Lib.hid hx
  clear h hx
  go_enter Tryd.func6, Tryd.ntmps6
  go_wp2_with fail
  go_loopw [10] (fun i wr => ∃ k : Nat, k ≤ xs.length ∧ i = .int .i64 k ∧ Hid (wr.heap[w.heap.size]? = some (row3 (xs.take k))) ∧ Hid (Below w.heap.size w wr)) (fun i _ => xs.length - (intOf i).toNat)
  case atStart => exact ⟨0, Nat.zero_le _, rfl, heap_alloc_new w _, (Below.refl _ _).alloc (Nat.le_refl _) _⟩
  case round =>
    obtain ⟨k, hk, rfl, HR, HB⟩ := hrel
    have hn0 := cnt_le (xs.take k) 0
    have hn1 := cnt_le (xs.take k) 1
    have hn2 := cnt_le (xs.take k) 2
    simp only [List.length_take] at hn0 hn1 hn2
    have k0 : wr.cell? ⟨w.heap.size, 0, none⟩ = some (.int .i64 (cnt (xs.take k) 0)) := by rw [cell_of_block HR.out]; rfl
    have k1 : wr.cell? ⟨w.heap.size, 1, none⟩ = some (.int .i64 (cnt (xs.take k) 1)) := by rw [cell_of_block HR.out]; rfl
    have k2 : wr.cell? ⟨w.heap.size, 2, none⟩ = some (.int .i64 (cnt (xs.take k) 2)) := by rw [cell_of_block HR.out]; rfl
    have f0 : wr.frozen? ⟨w.heap.size, 0, none⟩ = false := frozen_of_block HR.out 0
    have f1 : wr.frozen? ⟨w.heap.size, 1, none⟩ = false := frozen_of_block HR.out 1
    have f2 : wr.frozen? ⟨w.heap.size, 2, none⟩ = false := frozen_of_block HR.out 2
    by_cases hlt : k < xs.length
    · obtain ⟨ad, rfl, hB, hcx⟩ := H.out.cell HB.out hlt
      have i1 : ((k : Nat) : Int) < ((xs.length : Nat) : Int) := by omega
      have hw := HX.out (wd xs k) (by rw [wd_nth xs k hlt]; exact List.getElem_mem hlt)
      by_cases hbig : 2 < wd xs k
      · have d : decide (wd xs k ≤ 2) = false := by simp; omega
        have HN := Lib.hid (row3_next xs k hlt hbig)
        clear hbig
        go_wp2_with fail
        go_roundw
        case rel => exact ⟨k + 1, by omega, by go_num, by unfold Hid; rw [HN.out]; exact HR.out, HB.out⟩
        case measure => simp [intOf]; omega
      · have c0 := cnt_next xs k hlt 0
        have c1 := cnt_next xs k hlt 1
        have c2 := cnt_next xs k hlt 2
        obtain e | e | e : wd xs k = 0 ∨ wd xs k = 1 ∨ wd xs k = 2 := by omega
        all_goals
          rw [e] at c0 c1 c2 hcx
          have C0 := Lib.hid c0
          have C1 := Lib.hid c1
          have C2 := Lib.hid c2
          clear c0 c1 c2 e hbig hw
          go_wp2_with fail
          go_roundw
          case rel =>
            refine ⟨k + 1, by omega, by go_num, ?_, HB.out.setCell (p := ⟨w.heap.size, _, none⟩) (Nat.le_refl _) _⟩
            unfold Hid row3
            rw [block_setCell HR.out, C0.out, C1.out, C2.out]
            simp
          case measure => simp [intOf]; omega
    · obtain rfl : k = xs.length := by omega
      rw [List.take_length] at k0 k1 k2
      go_wp2_with fail
      go_region_held3 (fun w' => w'.cell? ⟨w.heap.size, 0, none⟩ = some (.int .i64 (cnt xs 0)) ∧ w'.cell? ⟨w.heap.size, 1, none⟩ = some (.int .i64 (cnt xs 1)) ∧ w'.cell? ⟨w.heap.size, 2, none⟩ = some (.int .i64 (cnt xs 2)) ∧ Below w.heap.size w w')
        (first
          | exact ⟨k0, k1, k2, HB.out.drew⟩
          | assumption)
        (fail)
      all_goals
        go_wp2_with fail
        refine bodyPost_ret (v := .tuple #[.int .i64 (cnt xs 0), .int .i64 (cnt xs 1), .int .i64 (cnt xs 2)]) (by simp [results, Tryd.results6, go_sem, Oper.upon_value]) rfl ?_
        go_split_ands
        exact ⟨rfl, by assumption⟩
end Go.Proofs.YtnbigldfklehgabDoor

/- op.Parse at any text. -/
import Derived.Test.YtcheafeaioflmaaDoorOprRead
import Derived.Test.YtcheafeaioflmaaDoorIntArr
import Derived.Test.YtcheafeaioflmaaDoorStrEq
namespace Go.Proofs.YtcheafeaioflmaaDoor
open Go Go.RowKit
set_option linter.unusedSimpArgs false
set_option linter.unusedVariables false

abbrev zopr : Opr := ⟨0, 0, 0, 0⟩
set_option maxHeartbeats 8000000 in
set_option maxRecDepth 100000 in
theorem oparse_any (w : World) (s : ByteArray) (hs : s.size ≤ 1000) (ht : Tens w) (he : Errs w) (hm : MaxL w) :
    Calls Tryd.prog 38 #[.string s] w fun e w' => e = .returned (.tuple #[(oread s).1.v, .int .i64 (oread s).2]) ∧ Below w.heap.size w w' := by
  have HT := Lib.hid ht
  have HE := Lib.hid he
  have HM := Lib.hid hm
  have HP := Lib.hid (pieces_many s)
  have HZ := Lib.hid (pieces_size s)
  have HB0 : Hid (Below w.heap.size w (w.alloc zopr.obj)) := (Below.refl _ _).alloc (Nat.le_refl _) _
  have HC0 := Lib.hid (heap_alloc_new w zopr.obj)
  clear ht he hm
  go_enter Tryd.func38, Tryd.ntmps38
  go_wp2_with fail
  refine (split_any _ s (by omega) (HM.out.below (Nat.le_refl _) HB0.out)).mono ?_
  rintro e w1 ⟨n, rfl, hn, hcs, hsz, hb⟩
  have HB1 : Hid (Below w.heap.size w w1) := HB0.out.trans (hb.mono HB0.out.size)
  have HC1 := Lib.hid ((hb.block w.heap.size (by simp)).trans HC0.out)
  have HCS := Lib.hid hcs
  have HN := Lib.hid hn
  have hn1 : 1 ≤ n := by have := HP.out; omega
  have hn2 : n ≤ 1001 := by have := HP.out; omega
  have HW : Hid (w.heap.size + 1 < w1.heap.size) := by unfold Hid; simpa using hsz
  have HA0 : Hid (IntArr 125 (w1.alloc (.cells #[.int .i64 0, .int .i64 0, .int .i64 0] 125)) w1.heap.size [0, 0, 0]) := heap_alloc_new w1 _
  have HO0 : Hid (OTo s [0, 0, 0] 0) := ⟨rfl, fun i hi => absurd hi (Nat.not_lt_zero _), fun i _ => by
    match i with
    | 0 => rfl
    | 1 => rfl
    | 2 => rfl
    | n + 3 => rfl⟩
  clear hcs hb hn hsz
  by_cases h1 : n = 1
  · subst h1
    clear hn1 hn2
    go_wp2_with fail
    go_loopw [6, 7, 8, 9, 17] (fun _ _ _ _ i wr => ∃ (k : Nat) (v : List Int), k ≤ 0 ∧ i = .int .i64 k ∧ Hid (IntArr 125 wr w1.heap.size v) ∧ Hid (OTo s v k) ∧ Hid (Below w1.heap.size w1 wr)) (fun _ _ _ _ i _ => 0 - (intOf i).toNat)
    case atStart => exact ⟨0, [0, 0, 0], by omega, rfl, HA0.out, HO0.out, (Below.refl _ _).alloc (Nat.le_refl _) _⟩
    case round =>
      obtain ⟨k, v, hk, rfl, HA, HO, HB⟩ := hrel
      by_cases hlt : k < 0
      · exact absurd hlt (Nat.not_lt_zero _)
      · obtain rfl : k = 0 := by omega
        obtain ⟨a, b, c, rfl⟩ : ∃ a b c, v = [a, b, c] := by
          have h3 := HO.out.1
          match v, h3 with
          | [a, b, c], _ => exact ⟨a, b, c, rfl⟩
        have HON : Hid (ONums s a b c) := OTo.nums (v := [a, b, c]) (by have h := HO.out; rw [show (pieces s).length - 1 = 0 by have := HN.out; omega]; exact h) HP.out.2
        clear hlt hk HO
        have a0 : wr.cell? ⟨w1.heap.size, 0, none⟩ = some (.int .i64 a) := HA.out.cell (k := 0) (by simp)
        have a1 : wr.cell? ⟨w1.heap.size, 1, none⟩ = some (.int .i64 b) := HA.out.cell (k := 1) (by simp)
        have a2 : wr.cell? ⟨w1.heap.size, 2, none⟩ = some (.int .i64 c) := HA.out.cell (k := 2) (by simp)
        have hs1 := HA.out.lt
        have HBR : Hid (Below w.heap.size w wr) := HB1.out.trans (HB.out.mono HB1.out.size)
        have HCR : Hid (wr.heap[w.heap.size]? = some zopr.obj) := (HB.out.block w.heap.size (block_lt HC1.out)).trans HC1.out
        go_wp2_with fail
        refine (forms_any _).mono ?_
        rintro e w4 ⟨rfl, hw4⟩
        have HB4 : Hid (Below w.heap.size w w4) := by rw [hw4]; exact HBR.out.alloc HBR.out.size _
        have HA4 : Hid (IntArr 125 w4 w1.heap.size [a, b, c]) := by rw [hw4]; exact (Below.heap_alloc _ _ _ hs1).trans HA.out
        have HC4 : Hid (w4.heap[w.heap.size]? = some zopr.obj) := by rw [hw4]; exact (Below.heap_alloc _ _ _ (block_lt HCR.out)).trans HCR.out
        clear hw4 a0 a1 a2
        go_wp2_with fail
        go_loopw [10, 11, 40] (fun _ _ i wr => ∃ k : Nat, k ≤ 12 ∧ i = .int .i64 k ∧ Hid (IntArr 125 wr w1.heap.size [a, b, c]) ∧ Hid (wr.heap[w.heap.size]? = some zopr.obj) ∧ Hid (Below w.heap.size w wr) ∧ Hid (∀ j : Int, 1 ≤ j → j < k → otext ⟨j, a, b, c⟩ ≠ s)) (fun _ _ i _ => 12 - (intOf i).toNat)
        case atStart => exact ⟨0, by omega, rfl, HA4.out, HC4.out, HB4.out, fun j h1 h2 => by omega⟩
        case round =>
          obtain ⟨k, hk, rfl, HA5, HC5, HB5, HJ⟩ := hrel
          by_cases hlt : k < 12
          · have i1 : ((k : Nat) : Int) < 12 := by omega
            have a0 : wr.cell? ⟨w1.heap.size, 0, none⟩ = some (.int .i64 a) := HA5.out.cell (k := 0) (by simp)
            have a1 : wr.cell? ⟨w1.heap.size, 1, none⟩ = some (.int .i64 b) := HA5.out.cell (k := 1) (by simp)
            have a2 : wr.cell? ⟨w1.heap.size, 2, none⟩ = some (.int .i64 c) := HA5.out.cell (k := 2) (by simp)
            have hs1 := HA5.out.lt
            have HBA : Hid (Below w.heap.size w (wr.alloc (⟨(k : Int), a, b, c⟩ : Opr).obj)) := HB5.out.alloc HB5.out.size _
            have HCA : Hid ((wr.alloc (⟨(k : Int), a, b, c⟩ : Opr).obj).heap[w.heap.size]? = some zopr.obj) := (Below.heap_alloc _ _ _ (block_lt HC5.out)).trans HC5.out
            have HAA : Hid (IntArr 125 (wr.alloc (⟨(k : Int), a, b, c⟩ : Opr).obj) w1.heap.size [a, b, c]) := (Below.heap_alloc _ _ _ hs1).trans HA5.out
            have HXA : Hid ((wr.alloc (⟨(k : Int), a, b, c⟩ : Opr).obj).heap[wr.heap.size]? = some (⟨(k : Int), a, b, c⟩ : Opr).obj) := heap_alloc_new wr _
            have HTX : Hid (∀ W, Tens W → Calls Tryd.prog 37 #[.agg #[.int .i64 (k : Int), .int .i64 a, .int .i64 b, .int .i64 c]] W fun e w' => e = .returned (.string (otext ⟨(k : Int), a, b, c⟩)) ∧ Below W.heap.size W w') := fun W h => otext_any W ⟨(k : Int), a, b, c⟩ (onums_fits HON.out (by omega)) h
            go_wp2_with fail
            refine (HTX.out _ (HT.out.below (Nat.le_refl _) HBA.out)).mono ?_
            rintro e w6 ⟨rfl, hb⟩
            have HB6 : Hid (Below w.heap.size w w6) := HBA.out.trans (hb.mono HBA.out.size)
            have HC6 : Hid (w6.heap[w.heap.size]? = some zopr.obj) := (hb.block _ (block_lt HCA.out)).trans HCA.out
            have HA6 : Hid (IntArr 125 w6 w1.heap.size [a, b, c]) := HAA.out.below HAA.out.lt hb
            have HX6 : Hid (w6.heap[wr.heap.size]? = some (⟨(k : Int), a, b, c⟩ : Opr).obj) := (hb.block _ (block_lt HXA.out)).trans HXA.out
            clear hb a0 a1 a2
            obtain ⟨x0, x1, x2, x3⟩ := opr_cells HX6.out
            have hs6 := block_lt HX6.out
            have HLT := Lib.hid hlt
            by_cases hts : otext ⟨(k : Int), a, b, c⟩ = s
            · have q1 := strT hts
              by_cases hk0 : 0 < k
              · have g0 : decide ((0 : Int) < ((k : Nat) : Int)) = true := by simp; omega
                have HNY : Hid (oread s = (⟨(k : Int), a, b, c⟩, 0)) := onums_yes HON.out (by omega) hts
                clear hts hlt hk
                generalize otext ⟨(k : Int), a, b, c⟩ = tx at q1
                obtain ⟨z0, z1, z2, z3⟩ := opr_cells HC6.out
                have f0 := frozen_of_block HC6.out 0
                have f1 := frozen_of_block HC6.out 1
                have f2 := frozen_of_block HC6.out 2
                have f3 := frozen_of_block HC6.out 3
                have hsz0 := block_lt HC6.out
                go_wp2_with fail
                exact bodyPost_ret (v := .tuple #[.agg #[.int .i64 (k : Int), .int .i64 a, .int .i64 b, .int .i64 c], .int .i64 0]) (by simp [results, Tryd.results38, go_sem, z0, z1, z2, z3]) rfl
                  ⟨by rw [HNY.out], by repeat (first | exact HB6.out | refine Below.setCell ?_ (by simp) _)⟩
              · have g0 : decide ((0 : Int) < ((k : Nat) : Int)) = false := by simp; omega
                have HNX : Hid (∀ j : Int, 1 ≤ j → j < ((k + 1 : Nat) : Int) → otext ⟨j, a, b, c⟩ ≠ s) := fun j h1 h2 => by omega
                clear hts hlt hk
                generalize otext ⟨(k : Int), a, b, c⟩ = tx at q1
                go_wp2_with fail
                go_roundw
                case rel => exact ⟨k + 1, by have := HLT.out; omega, by go_num, HA6.out, HC6.out, HB6.out, HNX.out⟩
                case measure => have := HLT.out; simp [intOf]; omega
            · have q1 := strF hts
              have HNX : Hid (∀ j : Int, 1 ≤ j → j < ((k + 1 : Nat) : Int) → otext ⟨j, a, b, c⟩ ≠ s) := fun j h1 h2 => by
                by_cases e : j = (k : Int)
                · rw [e]; exact hts
                · exact HJ.out j h1 (by omega)
              clear hts hlt hk
              generalize otext ⟨(k : Int), a, b, c⟩ = tx at q1
              go_wp2_with fail
              go_roundw
              case rel => exact ⟨k + 1, by have := HLT.out; omega, by go_num, HA6.out, HC6.out, HB6.out, HNX.out⟩
              case measure => have := HLT.out; simp [intOf]; omega
          · obtain rfl : k = 12 := by omega
            have HNY : Hid (oread s = (⟨0, 0, 0, 0⟩, 3)) := onums_no HON.out (fun j hj => HJ.out j hj.1 (by omega))
            clear hlt hk
            obtain ⟨z0, z1, z2, z3⟩ := opr_cells HC5.out
            have f0 := frozen_of_block HC5.out 0
            have f1 := frozen_of_block HC5.out 1
            have f2 := frozen_of_block HC5.out 2
            have f3 := frozen_of_block HC5.out 3
            have hsz0 := block_lt HC5.out
            go_wp2_with fail
            exact bodyPost_ret (v := .tuple #[.agg #[.int .i64 0, .int .i64 0, .int .i64 0, .int .i64 0], .int .i64 3]) (by simp [results, Tryd.results38, go_sem, z0, z1, z2, z3]) rfl
              ⟨by rw [HNY.out], by repeat (first | exact HB5.out | refine Below.setCell ?_ (by simp) _)⟩
  · obtain ⟨m, rfl⟩ : ∃ m, n = m + 1 := ⟨n - 1, by omega⟩
    have j1 : (1 : Int) ≤ ((m + 1 : Nat) : Int) := by omega
    have j2 : ¬ m = 0 := by omega
    have j3 : (((m + 1 : Nat) : Int)) - 1 = (m : Int) := by omega
    clear hn1 h1
    go_wp2_with fail
    go_loopw [6, 7, 8, 9, 17] (fun _ _ _ _ i wr => ∃ (k : Nat) (v : List Int), k ≤ m ∧ i = .int .i64 k ∧ Hid (IntArr 125 wr w1.heap.size v) ∧ Hid (OTo s v k) ∧ Hid (Below w1.heap.size w1 wr)) (fun _ _ _ _ i _ => m - (intOf i).toNat)
    case atStart => exact ⟨0, [0, 0, 0], by omega, rfl, HA0.out, HO0.out, (Below.refl _ _).alloc (Nat.le_refl _) _⟩
    case round =>
      obtain ⟨k, v, hk, rfl, HA, HO, HB⟩ := hrel
      by_cases hlt : k < m
      · have i1 : ((k : Nat) : Int) < ((m : Nat) : Int) := by omega
        have i0 : (0 : Int) ≤ ((k : Nat) : Int) := by omega
        obtain ⟨t, ht⟩ : ∃ t, (pieces s)[k + 1]? = some t := ⟨(pieces s)[k + 1]'(by have := HN.out; omega), List.getElem?_eq_getElem _⟩
        have c1 : wr.cell? ⟨w.heap.size + 1, 1 + k, none⟩ = some (.string t) := (HB.out.cell (show w.heap.size + 1 < _ from HW.out)).trans (by have := HCS.out _ _ ht; rw [Nat.add_comm 1 k]; simpa using this)
        have HT1 := Lib.hid ht
        have HTZ : Hid (t.size ≤ 1000000) := by have := HZ.out t (List.mem_of_getElem? ht); unfold Hid; omega
        clear ht
        go_wp2_with fail
        refine (atoi_any t HTZ.out _ (HE.out.below (Nat.le_refl _) (HB1.out.trans (HB.out.mono HB1.out.size)))).mono ?_
        rintro e w3 ⟨x, ev, rfl, hx, he, hb⟩
        have HA3 : Hid (IntArr 125 w3 w1.heap.size v) := HA.out.below HA.out.lt hb
        have HB3 : Hid (Below w1.heap.size w1 w3) := HB.out.trans (hb.mono HB.out.size)
        have HBA : Hid (Below w.heap.size w w3) := HB1.out.trans (HB3.out.mono HB1.out.size)
        have HC3 : Hid (w3.heap[w.heap.size]? = some zopr.obj) := (HB3.out.block _ (block_lt HC1.out)).trans HC1.out
        have HER := Lib.hid (fun h => onone_err HT1.out he h)
        have HXX := Lib.hid hx
        clear hb hx c1
        rcases he.1 with rfl | ⟨T, N, rfl⟩
        · clear he
          by_cases h2 : k ≤ 2
          · have g2 : decide ((2 : Int) < ((k : Nat) : Int)) = false := by simp; omega
            have hlen := HA3.out.cell (k := k) (by rw [HO.out.1]; omega)
            have fz : w3.frozen? ⟨w1.heap.size, k, none⟩ = false := frozen_of_block HA3.out k
            have b3 : ((k : Nat) : Int) < 3 := by omega
            have HXI := Lib.hid (HO.out.put (by omega) HT1.out HXX.out)
            generalize v.getD k 0 = old at hlen
            clear h2
            go_wp2_with fail
            go_roundw
            case rel => exact ⟨k + 1, v.set k x, by omega, by go_num, HA3.out.put k x, HXI.out, HB3.out.setCell (Nat.le_refl _) _⟩
            case measure => simp [intOf]; omega
          · have g2 : decide ((2 : Int) < ((k : Nat) : Int)) = true := by simp; omega
            have HNY : Hid (oread s = (⟨0, 0, 0, 0⟩, 3)) := onone_many HT1.out (by omega)
            clear h2
            obtain ⟨z0, z1, z2, z3⟩ := opr_cells HC3.out
            have f0 := frozen_of_block HC3.out 0
            have f1 := frozen_of_block HC3.out 1
            have f2 := frozen_of_block HC3.out 2
            have f3 := frozen_of_block HC3.out 3
            have hsz0 := block_lt HC3.out
            go_wp2_with fail
            exact bodyPost_ret (v := .tuple #[.agg #[.int .i64 0, .int .i64 0, .int .i64 0, .int .i64 0], .int .i64 3]) (by simp [results, Tryd.results38, go_sem, z0, z1, z2, z3]) rfl
              ⟨by rw [HNY.out], by repeat (first | exact HBA.out | refine Below.setCell ?_ (by simp) _)⟩
        · have HNY : Hid (oread s = (⟨0, 0, 0, 0⟩, 3)) := HER.out (fun h => by cases h)
          clear he
          obtain ⟨z0, z1, z2, z3⟩ := opr_cells HC3.out
          have f0 := frozen_of_block HC3.out 0
          have f1 := frozen_of_block HC3.out 1
          have f2 := frozen_of_block HC3.out 2
          have f3 := frozen_of_block HC3.out 3
          have hsz0 := block_lt HC3.out
          go_wp2_with fail
          exact bodyPost_ret (v := .tuple #[.agg #[.int .i64 0, .int .i64 0, .int .i64 0, .int .i64 0], .int .i64 3]) (by simp [results, Tryd.results38, go_sem, z0, z1, z2, z3]) rfl
            ⟨by rw [HNY.out], by repeat (first | exact HBA.out | refine Below.setCell ?_ (by simp) _)⟩
      · obtain rfl : k = m := by omega
        obtain ⟨a, b, c, rfl⟩ : ∃ a b c, v = [a, b, c] := by
          have h3 := HO.out.1
          match v, h3 with
          | [a, b, c], _ => exact ⟨a, b, c, rfl⟩
        have HON : Hid (ONums s a b c) := OTo.nums (v := [a, b, c]) (by have h := HO.out; rw [show (pieces s).length - 1 = k by have := HN.out; omega]; exact h) HP.out.2
        clear hlt hk HO
        have a0 : wr.cell? ⟨w1.heap.size, 0, none⟩ = some (.int .i64 a) := HA.out.cell (k := 0) (by simp)
        have a1 : wr.cell? ⟨w1.heap.size, 1, none⟩ = some (.int .i64 b) := HA.out.cell (k := 1) (by simp)
        have a2 : wr.cell? ⟨w1.heap.size, 2, none⟩ = some (.int .i64 c) := HA.out.cell (k := 2) (by simp)
        have hs1 := HA.out.lt
        have HBR : Hid (Below w.heap.size w wr) := HB1.out.trans (HB.out.mono HB1.out.size)
        have HCR : Hid (wr.heap[w.heap.size]? = some zopr.obj) := (HB.out.block w.heap.size (block_lt HC1.out)).trans HC1.out
        go_wp2_with fail
        refine (forms_any _).mono ?_
        rintro e w4 ⟨rfl, hw4⟩
        have HB4 : Hid (Below w.heap.size w w4) := by rw [hw4]; exact HBR.out.alloc HBR.out.size _
        have HA4 : Hid (IntArr 125 w4 w1.heap.size [a, b, c]) := by rw [hw4]; exact (Below.heap_alloc _ _ _ hs1).trans HA.out
        have HC4 : Hid (w4.heap[w.heap.size]? = some zopr.obj) := by rw [hw4]; exact (Below.heap_alloc _ _ _ (block_lt HCR.out)).trans HCR.out
        clear hw4 a0 a1 a2
        go_wp2_with fail
        go_loopw [10, 11, 40] (fun _ _ i wr => ∃ k : Nat, k ≤ 12 ∧ i = .int .i64 k ∧ Hid (IntArr 125 wr w1.heap.size [a, b, c]) ∧ Hid (wr.heap[w.heap.size]? = some zopr.obj) ∧ Hid (Below w.heap.size w wr) ∧ Hid (∀ j : Int, 1 ≤ j → j < k → otext ⟨j, a, b, c⟩ ≠ s)) (fun _ _ i _ => 12 - (intOf i).toNat)
        case atStart => exact ⟨0, by omega, rfl, HA4.out, HC4.out, HB4.out, fun j h1 h2 => by omega⟩
        case round =>
          obtain ⟨k, hk, rfl, HA5, HC5, HB5, HJ⟩ := hrel
          by_cases hlt : k < 12
          · have i1 : ((k : Nat) : Int) < 12 := by omega
            have a0 : wr.cell? ⟨w1.heap.size, 0, none⟩ = some (.int .i64 a) := HA5.out.cell (k := 0) (by simp)
            have a1 : wr.cell? ⟨w1.heap.size, 1, none⟩ = some (.int .i64 b) := HA5.out.cell (k := 1) (by simp)
            have a2 : wr.cell? ⟨w1.heap.size, 2, none⟩ = some (.int .i64 c) := HA5.out.cell (k := 2) (by simp)
            have hs1 := HA5.out.lt
            have HBA : Hid (Below w.heap.size w (wr.alloc (⟨(k : Int), a, b, c⟩ : Opr).obj)) := HB5.out.alloc HB5.out.size _
            have HCA : Hid ((wr.alloc (⟨(k : Int), a, b, c⟩ : Opr).obj).heap[w.heap.size]? = some zopr.obj) := (Below.heap_alloc _ _ _ (block_lt HC5.out)).trans HC5.out
            have HAA : Hid (IntArr 125 (wr.alloc (⟨(k : Int), a, b, c⟩ : Opr).obj) w1.heap.size [a, b, c]) := (Below.heap_alloc _ _ _ hs1).trans HA5.out
            have HXA : Hid ((wr.alloc (⟨(k : Int), a, b, c⟩ : Opr).obj).heap[wr.heap.size]? = some (⟨(k : Int), a, b, c⟩ : Opr).obj) := heap_alloc_new wr _
            have HTX : Hid (∀ W, Tens W → Calls Tryd.prog 37 #[.agg #[.int .i64 (k : Int), .int .i64 a, .int .i64 b, .int .i64 c]] W fun e w' => e = .returned (.string (otext ⟨(k : Int), a, b, c⟩)) ∧ Below W.heap.size W w') := fun W h => otext_any W ⟨(k : Int), a, b, c⟩ (onums_fits HON.out (by omega)) h
            go_wp2_with fail
            refine (HTX.out _ (HT.out.below (Nat.le_refl _) HBA.out)).mono ?_
            rintro e w6 ⟨rfl, hb⟩
            have HB6 : Hid (Below w.heap.size w w6) := HBA.out.trans (hb.mono HBA.out.size)
            have HC6 : Hid (w6.heap[w.heap.size]? = some zopr.obj) := (hb.block _ (block_lt HCA.out)).trans HCA.out
            have HA6 : Hid (IntArr 125 w6 w1.heap.size [a, b, c]) := HAA.out.below HAA.out.lt hb
            have HX6 : Hid (w6.heap[wr.heap.size]? = some (⟨(k : Int), a, b, c⟩ : Opr).obj) := (hb.block _ (block_lt HXA.out)).trans HXA.out
            clear hb a0 a1 a2
            obtain ⟨x0, x1, x2, x3⟩ := opr_cells HX6.out
            have hs6 := block_lt HX6.out
            have HLT := Lib.hid hlt
            by_cases hts : otext ⟨(k : Int), a, b, c⟩ = s
            · have q1 := strT hts
              by_cases hk0 : 0 < k
              · have g0 : decide ((0 : Int) < ((k : Nat) : Int)) = true := by simp; omega
                have HNY : Hid (oread s = (⟨(k : Int), a, b, c⟩, 0)) := onums_yes HON.out (by omega) hts
                clear hts hlt hk
                generalize otext ⟨(k : Int), a, b, c⟩ = tx at q1
                obtain ⟨z0, z1, z2, z3⟩ := opr_cells HC6.out
                have f0 := frozen_of_block HC6.out 0
                have f1 := frozen_of_block HC6.out 1
                have f2 := frozen_of_block HC6.out 2
                have f3 := frozen_of_block HC6.out 3
                have hsz0 := block_lt HC6.out
                go_wp2_with fail
                exact bodyPost_ret (v := .tuple #[.agg #[.int .i64 (k : Int), .int .i64 a, .int .i64 b, .int .i64 c], .int .i64 0]) (by simp [results, Tryd.results38, go_sem, z0, z1, z2, z3]) rfl
                  ⟨by rw [HNY.out], by repeat (first | exact HB6.out | refine Below.setCell ?_ (by simp) _)⟩
              · have g0 : decide ((0 : Int) < ((k : Nat) : Int)) = false := by simp; omega
                have HNX : Hid (∀ j : Int, 1 ≤ j → j < ((k + 1 : Nat) : Int) → otext ⟨j, a, b, c⟩ ≠ s) := fun j h1 h2 => by omega
                clear hts hlt hk
                generalize otext ⟨(k : Int), a, b, c⟩ = tx at q1
                go_wp2_with fail
                go_roundw
                case rel => exact ⟨k + 1, by have := HLT.out; omega, by go_num, HA6.out, HC6.out, HB6.out, HNX.out⟩
                case measure => have := HLT.out; simp [intOf]; omega
            · have q1 := strF hts
              have HNX : Hid (∀ j : Int, 1 ≤ j → j < ((k + 1 : Nat) : Int) → otext ⟨j, a, b, c⟩ ≠ s) := fun j h1 h2 => by
                by_cases e : j = (k : Int)
                · rw [e]; exact hts
                · exact HJ.out j h1 (by omega)
              clear hts hlt hk
              generalize otext ⟨(k : Int), a, b, c⟩ = tx at q1
              go_wp2_with fail
              go_roundw
              case rel => exact ⟨k + 1, by have := HLT.out; omega, by go_num, HA6.out, HC6.out, HB6.out, HNX.out⟩
              case measure => have := HLT.out; simp [intOf]; omega
          · obtain rfl : k = 12 := by omega
            have HNY : Hid (oread s = (⟨0, 0, 0, 0⟩, 3)) := onums_no HON.out (fun j hj => HJ.out j hj.1 (by omega))
            clear hlt hk
            obtain ⟨z0, z1, z2, z3⟩ := opr_cells HC5.out
            have f0 := frozen_of_block HC5.out 0
            have f1 := frozen_of_block HC5.out 1
            have f2 := frozen_of_block HC5.out 2
            have f3 := frozen_of_block HC5.out 3
            have hsz0 := block_lt HC5.out
            go_wp2_with fail
            exact bodyPost_ret (v := .tuple #[.agg #[.int .i64 0, .int .i64 0, .int .i64 0, .int .i64 0], .int .i64 3]) (by simp [results, Tryd.results38, go_sem, z0, z1, z2, z3]) rfl
              ⟨by rw [HNY.out], by repeat (first | exact HB5.out | refine Below.setCell ?_ (by simp) _)⟩
end Go.Proofs.YtcheafeaioflmaaDoor

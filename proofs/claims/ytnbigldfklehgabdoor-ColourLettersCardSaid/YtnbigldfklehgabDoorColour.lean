/- Package colour and its twin mudlarkref02: what each function returns. -/
import Derived.Test.YtnbigldfklehgabDoorNames
import Derived.Test.YtnbigldfklehgabDoorBuilder
namespace Go.Proofs.YtnbigldfklehgabDoor
open Go Go.RowKit
set_option linter.unusedSimpArgs false
set_option linter.unusedVariables false

/-- a colour's name -/
def cname (a : Int) : ByteArray := if a = 0 then ⟨#[119, 104, 105, 116, 101]⟩ else if a = 1 then ⟨#[103, 114, 101, 121]⟩ else if a = 2 then ⟨#[98, 108, 97, 99, 107]⟩ else ⟨#[]⟩

theorem name_any (w : World) (a : Int) (h0 : 0 ≤ a) (h1 : a < 18446744073709551616) (hn : Names w) :
    Calls Tryd.prog 11 #[.int .u64 a] w fun e w' => e = .returned (.string (cname a)) ∧ w' = w := by
  obtain ⟨c0, c1, c2⟩ := hn.cells
  by_cases h : 2 < a
  · have d : decide (2 < a) = true := by simpa using h
    have e : Hid (cname a = ⟨#[]⟩) := by unfold Hid cname; rw [if_neg (by omega), if_neg (by omega), if_neg (by omega)]
    go_enter Tryd.func11, Tryd.ntmps11
    go_wp2_with fail
    go_ret
    exact ⟨by rw [e.out]; rfl, rfl⟩
  · obtain rfl | rfl | rfl : a = 0 ∨ a = 1 ∨ a = 2 := by omega
    all_goals
      go_enter Tryd.func11, Tryd.ntmps11
      go_wp2_with fail
      go_ret
      exact ⟨rfl, rfl⟩
theorem refName_any (w : World) (a : Int) (h0 : 0 ≤ a) (h1 : a < 18446744073709551616) :
    Calls Tryd.prog 15 #[.int .u64 a] w fun e w' => e = .returned (.string (cname a)) ∧ w' = w := by
  by_cases h : 2 < a
  · have d0 : (a == 0) = false := by simp; omega
    have d1 : (a == 1) = false := by simp; omega
    have d2 : (a == 2) = false := by simp; omega
    have e : Hid (cname a = ⟨#[]⟩) := by unfold Hid cname; rw [if_neg (by omega), if_neg (by omega), if_neg (by omega)]
    go_enter Tryd.func15, Tryd.ntmps15
    go_wp2_with fail
    go_ret
    exact ⟨by rw [e.out]; rfl, rfl⟩
  · obtain rfl | rfl | rfl : a = 0 ∨ a = 1 ∨ a = 2 := by omega
    all_goals
      go_enter Tryd.func15, Tryd.ntmps15
      go_wp2_with fail
      go_ret
      exact ⟨rfl, rfl⟩
theorem str_beq (a b : ByteArray) : (a.toList == b.toList) = decide (a = b) := by
  rw [Bool.eq_iff_iff]
  simp only [beq_iff_eq, decide_eq_true_eq]
  refine ⟨fun h => ByteArray.ext (Array.toList_inj.1 (by rwa [Go.ByteArray.toList_eq, Go.ByteArray.toList_eq] at h)), fun h => by rw [h]⟩
theorem str_ne {a b : ByteArray} (h : a ≠ b) : (a.toList == b.toList) = false := by rw [str_beq]; simpa using h
/-- a colour's letter -/
def lett (a : Int) : UInt8 := if a = 0 then 119 else if a = 1 then 103 else if a = 2 then 98 else 63
def letters (xs : List Int) : ByteArray := ⟨(xs.map lett).toArray⟩
theorem builder_new (w : World) : Lib.IsBuilder 39 5 w.heap.size w.heap.size [] (w.alloc (.cells #[.pointer none, .slice none 0 0] 39)) :=
  .inl ⟨Nat.le_refl _, .slice none 0 0, heap_alloc_new w _, ⟨rfl, .inl ⟨rfl, rfl⟩⟩, by simp [Value.ownBlock]⟩
theorem cname_big (v : Int) (h : 2 < v) : cname v = ⟨#[]⟩ ∧ lett v = 63 := by
  unfold cname lett
  rw [if_neg (by omega), if_neg (by omega), if_neg (by omega), if_neg (by omega), if_neg (by omega), if_neg (by omega)]
  exact ⟨rfl, rfl⟩
theorem cname_small (v : Int) (h0 : 0 ≤ v) (h : ¬ 2 < v) : (cname v).toList.isEmpty = false ∧ 0 < (cname v).size ∧ ∀ hx : 0 < (cname v).size, (cname v)[0]'hx = lett v := by
  obtain rfl | rfl | rfl : v = 0 ∨ v = 1 ∨ v = 2 := by omega
  all_goals exact ⟨by decide +kernel, by decide, fun _ => by rfl⟩
theorem wd_nth (xs : List Int) (i : Nat) (h : i < xs.length) : wd xs i = xs[i] := by simp [wd, h]
theorem letters_next (xs : List Int) (k : Nat) (h : k < xs.length) : Lib.byteCells ((xs.take k).map lett) ++ [.int .u8 ((lett (wd xs k)).toNat : Int)] = Lib.byteCells ((xs.take (k + 1)).map lett) := by
  unfold Lib.byteCells
  rw [wd_nth xs k h, List.take_succ_eq_append_getElem h, List.map_append, List.map_append]
  rfl
set_option maxHeartbeats 2000000 in
theorem letters_any (w : World) (A : Option Addr) (c : Nat) (xs : List Int) (h : Words w w.heap.size A xs) (hx : ∀ x ∈ xs, 0 ≤ x ∧ x < 18446744073709551616) (hl : xs.length ≤ 1000) (hn : Names w) :
    Calls Tryd.prog 5 #[.slice A xs.length c] w fun e w' => e = .returned (.string (letters xs)) ∧ Below w.heap.size w w' := by
  have H := Lib.hid h
  have HN := Lib.hid hn
  have HX := Lib.hid hx
  have HB0 := Lib.hid (builder_new w)
  clear h hn hx
  go_enter Tryd.func5, Tryd.ntmps5
  go_wp2_with fail
  go_loopw [9] (fun i wr => ∃ k : Nat, k ≤ xs.length ∧ i = .int .i64 k ∧ Hid (Lib.IsBuilder 39 5 w.heap.size w.heap.size (Lib.byteCells ((xs.take k).map lett)) wr) ∧ Hid (Below w.heap.size w wr)) (fun i _ => xs.length - (intOf i).toNat)
  case atStart => exact ⟨0, by omega, rfl, HB0.out, (Below.refl _ _).alloc (Nat.le_refl _) _⟩
  case round =>
    obtain ⟨k, hk, rfl, HI, HB⟩ := hrel
    have hlen : (Lib.byteCells ((xs.take k).map lett)).length + 1 ≤ 140737488355328 := by
      unfold Lib.byteCells
      simp
      omega
    have hsz : w.heap.size ≤ wr.heap.size := HB.out.size
    by_cases hlt : k < xs.length
    · obtain ⟨ad, rfl, hB, hcx⟩ := H.out.cell HB.out hlt
      have i1 : ((k : Nat) : Int) < ((xs.length : Nat) : Int) := by omega
      have hw := HX.out (wd xs k) (by rw [wd_nth xs k hlt]; exact List.getElem_mem hlt)
      have HW := Lib.hid (writeByte_any w.heap.size w.heap.size _ ((lett (wd xs k)).toNat : Int) wr HI.out hlen hsz)
      have HNX := Lib.hid (letters_next xs k hlt)
      by_cases hbig : 2 < wd xs k
      · obtain ⟨e1, e2⟩ := cname_big _ hbig
        rw [e2] at HW HNX
        have E1 := Lib.hid e1
        clear e1 e2 hbig
        go_wp2_with fail
        refine (name_any _ _ hw.1 hw.2 (HN.out.below (Nat.le_refl _) HB.out)).mono ?_
        rintro e w' ⟨rfl, rfl⟩
        rw [E1.out]
        go_wp2_with fail
        refine HW.out.mono ?_
        rintro e w2 ⟨rfl, hbu, hbe⟩
        have HBU := Lib.hid hbu
        have HBE := Lib.hid hbe
        clear hbu hbe
        go_wp2_with fail
        go_roundw
        case rel => exact ⟨k + 1, by omega, by go_num, .inr (HNX.out ▸ HBU.out), HB.out.trans HBE.out⟩
        case measure => simp [intOf]; omega
      · obtain ⟨e1, e2, e3⟩ := cname_small _ hw.1 hbig
        have E3 := Lib.hid e3
        clear e3 hbig
        go_wp2_with fail
        refine (name_any _ _ hw.1 hw.2 (HN.out.below (Nat.le_refl _) HB.out)).mono ?_
        rintro e w' ⟨rfl, rfl⟩
        go_wp2_with fail
        rw [E3.out]
        refine HW.out.mono ?_
        rintro e w2 ⟨rfl, hbu, hbe⟩
        have HBU := Lib.hid hbu
        have HBE := Lib.hid hbe
        clear hbu hbe
        go_wp2_with fail
        go_roundw
        case rel => exact ⟨k + 1, by omega, by go_num, .inr (HNX.out ▸ HBU.out), HB.out.trans HBE.out⟩
        case measure => simp [intOf]; omega
    · have hke : k = xs.length := by omega
      subst hke
      have HS := Lib.hid (Tryd.Builder_String_any w.heap.size w.heap.size (xs.map lett) wr (by have := HI.out; rwa [List.take_length] at this) hsz)
      go_wp2_with fail
      refine HS.out.mono ?_
      rintro e w2 ⟨rfl, hbe⟩
      have HBE := Lib.hid hbe
      clear hbe
      go_wp2_with fail
      go_ret
      exact ⟨rfl, HB.out.trans HBE.out⟩
end Go.Proofs.YtnbigldfklehgabDoor

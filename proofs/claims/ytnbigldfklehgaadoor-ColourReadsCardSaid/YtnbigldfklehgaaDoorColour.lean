/- Package colour and its twin mudlarkref02: what each function returns. -/
import Derived.Test.YtnbigldfklehgaaDoorNames
import Derived.Test.YtnbigldfklehgaaDoorBuilder
namespace Go.Proofs.YtnbigldfklehgaaDoor
open Go Go.RowKit
set_option linter.unusedSimpArgs false
set_option linter.unusedVariables false

/-- a colour's name -/
def cname (a : Int) : ByteArray := if a = 0 then ⟨#[119, 104, 105, 116, 101]⟩ else if a = 1 then ⟨#[103, 114, 101, 121]⟩ else if a = 2 then ⟨#[98, 108, 97, 99, 107]⟩ else ⟨#[]⟩

theorem name_any (w : World) (a : Int) (h0 : 0 ≤ a) (h1 : a < 18446744073709551616) (hn : Names w) :
    Calls Tryd.prog 8 #[.int .u64 a] w fun e w' => e = .returned (.string (cname a)) ∧ w' = w := by
  obtain ⟨c0, c1, c2⟩ := hn.cells
  by_cases h : 2 < a
  · have d : decide (2 < a) = true := by simpa using h
    have e : Hid (cname a = ⟨#[]⟩) := by unfold Hid cname; rw [if_neg (by omega), if_neg (by omega), if_neg (by omega)]
    go_enter Tryd.func8, Tryd.ntmps8
    go_wp2_with fail
    go_ret
    exact ⟨by rw [e.out]; rfl, rfl⟩
  · obtain rfl | rfl | rfl : a = 0 ∨ a = 1 ∨ a = 2 := by omega
    all_goals
      go_enter Tryd.func8, Tryd.ntmps8
      go_wp2_with fail
      go_ret
      exact ⟨rfl, rfl⟩
theorem shaded_any (w : World) (a : Int) (h0 : 0 ≤ a) (h1 : a < 18446744073709551616) :
    Calls Tryd.prog 10 #[.int .u64 a] w fun e w' => e = .returned (.int .u64 (if a = 0 then 1 else a)) ∧ w' = w := by
  by_cases h : a = 0
  · subst h
    go_enter Tryd.func10, Tryd.ntmps10
    go_wp2_with fail
    go_ret
    exact ⟨rfl, rfl⟩
  · rw [if_neg h]
    have d : (a == 0) = false := by simpa using h
    go_enter Tryd.func10, Tryd.ntmps10
    go_wp2_with fail
    go_ret
    exact ⟨rfl, rfl⟩
theorem refName_any (w : World) (a : Int) (h0 : 0 ≤ a) (h1 : a < 18446744073709551616) :
    Calls Tryd.prog 9 #[.int .u64 a] w fun e w' => e = .returned (.string (cname a)) ∧ w' = w := by
  by_cases h : 2 < a
  · have d0 : (a == 0) = false := by simp; omega
    have d1 : (a == 1) = false := by simp; omega
    have d2 : (a == 2) = false := by simp; omega
    have e : Hid (cname a = ⟨#[]⟩) := by unfold Hid cname; rw [if_neg (by omega), if_neg (by omega), if_neg (by omega)]
    go_enter Tryd.func9, Tryd.ntmps9
    go_wp2_with fail
    go_ret
    exact ⟨by rw [e.out]; rfl, rfl⟩
  · obtain rfl | rfl | rfl : a = 0 ∨ a = 1 ∨ a = 2 := by omega
    all_goals
      go_enter Tryd.func9, Tryd.ntmps9
      go_wp2_with fail
      go_ret
      exact ⟨rfl, rfl⟩
/-- the colour of a name; 3: there is none -/
def ccode (s : ByteArray) : Nat := if cname ((0 : Nat) : Int) = s then 0 else if cname ((1 : Nat) : Int) = s then 1 else if cname ((2 : Nat) : Int) = s then 2 else 3
theorem ccode_at (s : ByteArray) (k : Nat) (hk : k < 3) (h : ∀ j : Nat, j < k → cname j ≠ s) (he : cname k = s) : ccode s = k := by
  unfold ccode
  obtain rfl | rfl | rfl : k = 0 ∨ k = 1 ∨ k = 2 := by omega
  · rw [if_pos he]
  · rw [if_neg (h 0 (by omega)), if_pos he]
  · rw [if_neg (h 0 (by omega)), if_neg (h 1 (by omega)), if_pos he]
theorem ccode_none (s : ByteArray) (h : ∀ j : Nat, j < 3 → cname j ≠ s) : ccode s = 3 := by
  unfold ccode
  rw [if_neg (h 0 (by omega)), if_neg (h 1 (by omega)), if_neg (h 2 (by omega))]
/-- what Code hands back -/
def codeA (n : Nat) : Int := if n < 3 then n else 0
def codeOk (n : Nat) : Bool := decide (n < 3)
abbrev namesV : Value := .agg #[.string ⟨#[119, 104, 105, 116, 101]⟩, .string ⟨#[103, 114, 101, 121]⟩, .string ⟨#[98, 108, 97, 99, 107]⟩]
theorem names_ix0 (w : World) : (Instr.index 37 namesV (.int .i64 0)).run Tryd.prog w = .ok (.string (cname ((0 : Nat) : Int))) w := by
  simp [Instr.index, run_underlying Tryd.underlying37, asIntOf, go_sem, cname]
theorem names_ix1 (w : World) : (Instr.index 37 namesV (.int .i64 1)).run Tryd.prog w = .ok (.string (cname ((1 : Nat) : Int))) w := by
  simp [Instr.index, run_underlying Tryd.underlying37, asIntOf, go_sem, cname]
theorem names_ix2 (w : World) : (Instr.index 37 namesV (.int .i64 2)).run Tryd.prog w = .ok (.string (cname ((2 : Nat) : Int))) w := by
  simp [Instr.index, run_underlying Tryd.underlying37, asIntOf, go_sem, cname]
theorem str_beq (a b : ByteArray) : (a.toList == b.toList) = decide (a = b) := by
  rw [Bool.eq_iff_iff]
  simp only [beq_iff_eq, decide_eq_true_eq]
  refine ⟨fun h => ByteArray.ext (Array.toList_inj.1 (by rwa [Go.ByteArray.toList_eq, Go.ByteArray.toList_eq] at h)), fun h => by rw [h]⟩
theorem str_ne {a b : ByteArray} (h : a ≠ b) : (a.toList == b.toList) = false := by rw [str_beq]; simpa using h
theorem code_any (w : World) (s : ByteArray) (hn : Names w) :
    Calls Tryd.prog 6 #[.string s] w fun e w' => e = .returned (.tuple #[.int .u64 (codeA (ccode s)), .bool (codeOk (ccode s))]) ∧ w' = w := by
  obtain ⟨c0, c1, c2⟩ := hn.cells
  have i0 := names_ix0 w
  have i1 := names_ix1 w
  have i2 := names_ix2 w
  go_enter Tryd.func6, Tryd.ntmps6
  go_wp2_with fail
  go_loopw [7] (fun i wr => ∃ k : Nat, k ≤ 3 ∧ i = .int .i64 k ∧ Hid (∀ j : Nat, j < k → cname j ≠ s) ∧ wr = w) (fun i _ => 3 - (intOf i).toNat)
  case atStart => exact ⟨0, by omega, rfl, fun j hj => absurd hj (by omega), rfl⟩
  case round =>
    obtain ⟨k, hk, rfl, H, rfl⟩ := hrel
    by_cases h3 : k = 3
    · subst h3
      have E := Lib.hid (ccode_none s H.out)
      go_wp2_with fail
      go_ret2
      exact ⟨by rw [E.out]; rfl, rfl⟩
    · by_cases he : cname k = s
      · have E := Lib.hid (ccode_at s k (by omega) H.out he)
        obtain rfl | rfl | rfl : k = 0 ∨ k = 1 ∨ k = 2 := by omega
        all_goals
          subst he
          go_wp2_with fail
          go_ret2
          exact ⟨by rw [E.out]; rfl, rfl⟩
      · have H' : Hid (∀ j : Nat, j < k + 1 → cname j ≠ s) := fun j hj => by
          by_cases hjk : j = k
          · rw [hjk]; exact he
          · exact H.out j (by omega)
        obtain rfl | rfl | rfl : k = 0 ∨ k = 1 ∨ k = 2 := by omega
        all_goals
          first
            | (have he2 : ((cname 0).toList == s.toList) = false := str_ne he)
            | (have he2 : ((cname 1).toList == s.toList) = false := str_ne he)
            | (have he2 : ((cname 2).toList == s.toList) = false := str_ne he)
          clear he H
          go_wp2_with fail
          go_roundw
          case rel => first | exact ⟨0 + 1, by decide, rfl, H', trivial⟩ | exact ⟨1 + 1, by decide, rfl, H', trivial⟩ | exact ⟨2 + 1, by decide, rfl, H', trivial⟩
          case measure => simp [intOf]
/-- what mudlarkref02.Code hands back -/
def codeR (n : Nat) : Int := if n < 3 then n else -1
theorem refCode_any (w : World) (s : ByteArray) :
    Calls Tryd.prog 7 #[.string s] w fun e w' => e = .returned (.int .i64 (codeR (ccode s))) ∧ w' = w := by
  have N0 := Lib.hid (refName_any w ((0 : Nat) : Int) (by decide) (by decide))
  have N1 := Lib.hid (refName_any w ((1 : Nat) : Int) (by decide) (by decide))
  have N2 := Lib.hid (refName_any w ((2 : Nat) : Int) (by decide) (by decide))
  go_enter Tryd.func7, Tryd.ntmps7
  go_wp2_with fail
  go_loopw [3] (fun i wr => ∃ k : Nat, k ≤ 3 ∧ i = .int .i64 k ∧ Hid (∀ j : Nat, j < k → cname j ≠ s) ∧ wr = w) (fun i _ => 3 - (intOf i).toNat)
  case atStart => exact ⟨0, by omega, rfl, fun j hj => absurd hj (by omega), rfl⟩
  case round =>
    obtain ⟨k, hk, rfl, H, rfl⟩ := hrel
    by_cases h3 : k = 3
    · subst h3
      have E := Lib.hid (ccode_none s H.out)
      go_wp2_with fail
      go_ret
      exact ⟨by rw [E.out]; rfl, rfl⟩
    · by_cases he : cname k = s
      · have E := Lib.hid (ccode_at s k (by omega) H.out he)
        have he2 : ((cname k).toList == s.toList) = true := by rw [he]; simp
        have N : Hid (Calls Tryd.prog 9 #[.int .u64 k] wr fun e w' => e = .returned (.string (cname k)) ∧ w' = wr) := refName_any _ _ (by omega) (by omega)
        have hlt : (k : Int) < 3 := by omega
        clear he N0 N1 N2
        go_wp2_with fail
        refine N.out.mono ?_
        rintro e w' ⟨rfl, rfl⟩
        go_wp2_with fail
        go_ret
        exact ⟨by rw [E.out]; obtain rfl | rfl | rfl : k = 0 ∨ k = 1 ∨ k = 2 := by omega
                  all_goals rfl, rfl⟩
      · have H' : Hid (∀ j : Nat, j < k + 1 → cname j ≠ s) := fun j hj => by
          by_cases hjk : j = k
          · rw [hjk]; exact he
          · exact H.out j (by omega)
        have he2 := str_ne he
        have N : Hid (Calls Tryd.prog 9 #[.int .u64 k] wr fun e w' => e = .returned (.string (cname k)) ∧ w' = wr) := refName_any _ _ (by omega) (by omega)
        have hlt : (k : Int) < 3 := by omega
        clear he H N0 N1 N2
        go_wp2_with fail
        refine N.out.mono ?_
        rintro e w' ⟨rfl, rfl⟩
        go_wp2_with fail
        go_roundw
        case rel => exact ⟨k + 1, by omega, by go_num, H', trivial⟩
        case measure => simp [intOf]; omega

/-- a colour's letter -/
def lett (a : Int) : UInt8 := if a = 0 then 119 else if a = 1 then 103 else if a = 2 then 98 else 63
def letters (xs : List Int) : ByteArray := ⟨(xs.map lett).toArray⟩
theorem builder_new (w : World) : Lib.IsBuilder 42 5 w.heap.size w.heap.size [] (w.alloc (.cells #[.pointer none, .slice none 0 0] 42)) :=
  .inl ⟨Nat.le_refl _, .slice none 0 0, heap_alloc_new w _, ⟨rfl, .inl ⟨rfl, rfl⟩⟩, by simp [Value.ownBlock]⟩
theorem cname_big (v : Int) (h : 2 < v) : cname v = ⟨#[]⟩ ∧ lett v = 63 := by
  unfold cname lett
  rw [if_neg (by omega), if_neg (by omega), if_neg (by omega), if_neg (by omega), if_neg (by omega), if_neg (by omega)]
  exact ⟨rfl, rfl⟩
theorem cname_small (v : Int) (h0 : 0 ≤ v) (h : ¬ 2 < v) : (cname v).toList.isEmpty = false ∧ 0 < (cname v).size ∧ ∀ hx : 0 < (cname v).size, (cname v)[0]'hx = lett v := by
  obtain rfl | rfl | rfl : v = 0 ∨ v = 1 ∨ v = 2 := by omega
  all_goals exact ⟨by decide +kernel, by decide, fun _ => by rfl⟩
theorem wd_nth (xs : List Int) (i : Nat) (h : i < xs.length) : wd xs i = xs[i] := by simp [wd, h]
theorem letters_next (xs : List Int) (k : Nat) (h : k < xs.length) : Lib.byteCells ((xs.take k).map lett) ++ [.int .u8 ((lett (wd xs k)).toNat : Int)] = Lib.byteCells ((xs.take (k + 1)).map lett) := by
  unfold Lib.byteCells
  rw [wd_nth xs k h, List.take_succ_eq_append_getElem h, List.map_append, List.map_append]
  rfl
set_option maxHeartbeats 2000000 in
theorem letters_any (w : World) (A : Option Addr) (c : Nat) (xs : List Int) (h : Words w w.heap.size A xs) (hx : ∀ x ∈ xs, 0 ≤ x ∧ x < 18446744073709551616) (hl : xs.length ≤ 1000) (hn : Names w) :
    Calls Tryd.prog 12 #[.slice A xs.length c] w fun e w' => e = .returned (.string (letters xs)) ∧ Below w.heap.size w w' := by
  have H := Lib.hid h
  have HN := Lib.hid hn
  have HX := Lib.hid hx
  have HB0 := Lib.hid (builder_new w)
  clear h hn hx
  go_enter Tryd.func12, Tryd.ntmps12
  go_wp2_with fail
  go_loopw [9] (fun i wr => ∃ k : Nat, k ≤ xs.length ∧ i = .int .i64 k ∧ Hid (Lib.IsBuilder 42 5 w.heap.size w.heap.size (Lib.byteCells ((xs.take k).map lett)) wr) ∧ Hid (Below w.heap.size w wr)) (fun i _ => xs.length - (intOf i).toNat)
  case atStart => exact ⟨0, by omega, rfl, HB0.out, (Below.refl _ _).alloc (Nat.le_refl _) _⟩
  case round =>
    obtain ⟨k, hk, rfl, HI, HB⟩ := hrel
    have hlen : (Lib.byteCells ((xs.take k).map lett)).length + 1 ≤ 140737488355328 := by
      unfold Lib.byteCells
      simp
      omega
    have hsz : w.heap.size ≤ wr.heap.size := HB.out.size
    by_cases hlt : k < xs.length
    · obtain ⟨ad, rfl, hB, hcx⟩ := H.out.cell HB.out hlt
      have i1 : ((k : Nat) : Int) < ((xs.length : Nat) : Int) := by omega
      have hw := HX.out (wd xs k) (by rw [wd_nth xs k hlt]; exact List.getElem_mem hlt)
      have HW := Lib.hid (writeByte_any w.heap.size w.heap.size _ ((lett (wd xs k)).toNat : Int) wr HI.out hlen hsz)
      have HNX := Lib.hid (letters_next xs k hlt)
      by_cases hbig : 2 < wd xs k
      · obtain ⟨e1, e2⟩ := cname_big _ hbig
        rw [e2] at HW HNX
        have E1 := Lib.hid e1
        clear e1 e2 hbig
        go_wp2_with fail
        refine (name_any _ _ hw.1 hw.2 (HN.out.below (Nat.le_refl _) HB.out)).mono ?_
        rintro e w' ⟨rfl, rfl⟩
        rw [E1.out]
        go_wp2_with fail
        refine HW.out.mono ?_
        rintro e w2 ⟨rfl, hbu, hbe⟩
        have HBU := Lib.hid hbu
        have HBE := Lib.hid hbe
        clear hbu hbe
        go_wp2_with fail
        go_roundw
        case rel => exact ⟨k + 1, by omega, by go_num, .inr (HNX.out ▸ HBU.out), HB.out.trans HBE.out⟩
        case measure => simp [intOf]; omega
      · obtain ⟨e1, e2, e3⟩ := cname_small _ hw.1 hbig
        have E3 := Lib.hid e3
        clear e3 hbig
        go_wp2_with fail
        refine (name_any _ _ hw.1 hw.2 (HN.out.below (Nat.le_refl _) HB.out)).mono ?_
        rintro e w' ⟨rfl, rfl⟩
        go_wp2_with fail
        rw [E3.out]
        refine HW.out.mono ?_
        rintro e w2 ⟨rfl, hbu, hbe⟩
        have HBU := Lib.hid hbu
        have HBE := Lib.hid hbe
        clear hbu hbe
        go_wp2_with fail
        go_roundw
        case rel => exact ⟨k + 1, by omega, by go_num, .inr (HNX.out ▸ HBU.out), HB.out.trans HBE.out⟩
        case measure => simp [intOf]; omega
    · have hke : k = xs.length := by omega
      subst hke
      have HS := Lib.hid (Tryd.Builder_String_any w.heap.size w.heap.size (xs.map lett) wr (by have := HI.out; rwa [List.take_length] at this) hsz)
      go_wp2_with fail
      refine HS.out.mono ?_
      rintro e w2 ⟨rfl, hbe⟩
      have HBE := Lib.hid hbe
      clear hbe
      go_wp2_with fail
      go_ret
      exact ⟨rfl, HB.out.trans HBE.out⟩
end Go.Proofs.YtnbigldfklehgaaDoor

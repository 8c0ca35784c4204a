/- strconv.FormatUint at base 10, of every uint64. -/
import Derived.Test.YtipoklnoknkfhaaDoorBase
import Derived.Test.YtipoklnoknkfhaaDoorShelf
import Derived.Lib.AppendIntMem
namespace Go.Proofs.YtipoklnoknkfhaaDoor
open Go Go.RowKit Go.Sort
set_option linter.unusedSimpArgs false
set_option linter.unusedVariables false

/-- the table of powers of ten, as a world holds it -/
def Tens (w : World) : Prop := Lib.TabIs Tryd.prog w "internal/strconv.uint64pow10" .u64 Lib.pow10Tab
theorem Tens.below {w w' : World} {B : Nat} (h : Tens w) (hB : w.heap.size ≤ B) (hb : Below B w w') : Tens w' := by
  unfold Tens Lib.TabIs World.var? at *
  cases hg : Tryd.prog.globalNamed "internal/strconv.uint64pow10" with
  | none => simp [hg] at h
  | some g =>
    simp only [hg, Option.bind_some] at h ⊢
    have hlt : g < w.heap.size := by
      rcases Nat.lt_or_ge g w.heap.size with h' | h'
      · exact h'
      · rw [Array.getElem?_eq_none h'] at h; simp at h
    rw [hb.block g (by omega)]
    exact h
/-- a number's text -/
def dec (u : Nat) : ByteArray := ⟨(Lib.decDigits u).toArray⟩

theorem dec_size (u : Nat) (h : u < 18446744073709551616) : 1 ≤ (dec u).size ∧ (dec u).size ≤ 20 := by
  have e : (dec u).size = Lib.nDigits u := by
    show (Lib.decDigits u).toArray.size = _
    rw [List.size_toArray, Lib.decDigits_length]
  rw [e]
  by_cases h0 : u = 0
  · subst h0; decide +kernel
  · have h1 := Lib.numDigits_eq u (by omega) h
    have h2 := Lib.nDigits_pos u
    refine ⟨by omega, ?_⟩
    split at h1 <;> omega
set_option maxHeartbeats 6400000 in
set_option maxRecDepth 100000 in
theorem ufmt_any (w : World) (u : Nat) (hu64 : u < 18446744073709551616) (htab : Tens w) :
    Calls Tryd.prog 157 #[.int .u64 u, .int .i64 10] w fun e w' => e = .returned (.string (dec u)) ∧ Below w.heap.size w w' := by
  by_cases hs : u < 100
  · have d : decide ((u : Int) < 100) = true := by simp; omega
    go_enter Tryd.func157, Tryd.ntmps157
    go_wp2_with fail
    refine (Tryd.internal_strconv_small u hs _).mono ?_
    rintro e w' ⟨rfl, rfl⟩
    go_wp2_with fail
    go_ret
    exact ⟨rfl, Below.refl _ _⟩
  have d : decide ((u : Int) < 100) = false := by simp; omega
  have hu1 : 1 ≤ u := by omega
  have hnd20 : Lib.nDigits u ≤ 20 := by have := Lib.numDigits_eq u hu1 hu64; split at this <;> omega
  have hal : Tryd.prog.arrayLen 229 = 24 := by kernel_rfl
  have hsl : ∀ W, (Instr.sliceAt 229 (.pointer (some ⟨w.heap.size, 0, none⟩)) none (some (.int .i64 (Lib.nDigits u : Int))) none).run Tryd.prog W = .ok (.slice (some ⟨w.heap.size, 0, none⟩) (Lib.nDigits u) 24) W := fun W => by
    rw [run_sliceAt_array_h W 229 ⟨w.heap.size, 0, none⟩ (by rw [hal]; exact Tryd.underlying229) .i64 (Lib.nDigits u : Int) (by omega) (by rw [hal]; omega)]
    go_simp
  have hH0 := Lib.holds_zero0 w 229 (Lib.nDigits u) (by omega)
  have hfmt := Tryd.internal_strconv_formatBase10 w.heap.size 0 24 u (Array.replicate (Lib.nDigits u) 0) (w.alloc (.cells Lib.zeros24 229)) hH0 (by rw [Array.size_replicate]; exact Lib.lt_pow_nDigits u) hu64 (by rw [Array.size_replicate]; omega)
  rw [Array.size_replicate] at hfmt
  have HH0 := Lib.hid hH0
  have HF := Lib.hid hfmt
  have HT := Lib.hid (Lib.tabIs_alloc htab (.cells Lib.zeros24 229))
  clear hH0 hal hfmt htab
  go_enter Tryd.func157, Tryd.ntmps157
  go_wp2_with fail
  refine (Tryd.internal_strconv_numDigits u hu1 hu64 _ HT.out).mono ?_
  rintro e w' ⟨rfl, rfl⟩
  go_wp2_with fail
  refine HF.out.mono ?_
  rintro e w' ⟨rfl, k, v', dk, rfl, hF⟩
  have hcv : (convert 160 9 (.slice (some ⟨w.heap.size, 0, none⟩) (Lib.nDigits u) 24)).run Tryd.prog ((putRow (fun (b : UInt8) => Value.int .u8 (b.toNat : Int)) (w.alloc (.cells Lib.zeros24 229)) w.heap.size 0 dk).drewN k) = .ok (.string ⟨(Lib.decDigits u).toArray⟩) ((putRow (fun (b : UInt8) => Value.int .u8 (b.toNat : Int)) (w.alloc (.cells Lib.zeros24 229)) w.heap.size 0 dk).drewN k) := by
    have h := run_convert_bytes_back (P := Tryd.prog) ((putRow (fun (b : UInt8) => Value.int .u8 (b.toNat : Int)) (w.alloc (.cells Lib.zeros24 229)) w.heap.size 0 dk).drewN k) 160 9 5 ⟨w.heap.size, 0, none⟩ 24 (Lib.decDigits u) Tryd.underlying160 Tryd.underlying5 Tryd.underlying9 (fun j hj => by
      rw [Lib.row_is_numeral hF j hj, Lib.add_plain, World.cell?_drewN]
      exact cell?_putRow (fun (b : UInt8) => Value.int .u8 (b.toNat : Int)) _ w.heap.size 0 _ dk HH0.out (by rw [hF.size, Array.size_replicate]) j (by rw [hF.size]; rw [Lib.decDigits_length] at hj; exact hj))
    rw [Lib.decDigits_length] at h
    exact h
  go_wp2_with fail
  go_ret
  obtain ⟨os, eo⟩ := Lib.fin_at w (.cells Lib.zeros24 229) dk k 0
  refine ⟨rfl, ?_⟩
  rw [eo]
  exact Lib.below_grow _ w (Nat.le_refl _) k os
theorem fmt_any (w : World) (u : Nat) (hu64 : u < 18446744073709551616) (htab : Tens w) :
    Calls Tryd.prog 140 #[.int .u64 u, .int .i64 10] w fun e w' => e = .returned (.string (dec u)) ∧ Below w.heap.size w w' := by
  go_enter Tryd.func140, Tryd.ntmps140
  go_wp2_with fail
  refine (ufmt_any _ u hu64 htab).mono ?_
  rintro e w' ⟨rfl, hb⟩
  go_wp2_with fail
  go_ret
  exact ⟨rfl, hb⟩
end Go.Proofs.YtipoklnoknkfhaaDoor

/- strconv.FormatUint at base 10, of every uint64. Plain laws of decimal numerals: what they are read as, that unlike numbers have unlike numerals, texts in parts. The value of digits only grows. Words of atoms and cells: what the functions return (those that ask no library). Package word and its twin mudlarkref01: what each function returns. The walks of the laws WordKinds and WordTotal: awake, number. A word's text; the walk of the law WordTotal. strconv.ParseUint at base 10 and 63 bits, of every text (turned from the shelf's walk at 64 bits). The words of texts: plain laws. The reference's numerals: digits and Digits. Bits of words. The word of a text: word.Parse at any text, and the reference's text of a word. -/
import Derived.Test.YtipoklnoknkfhaaDoorBase
import Derived.Test.YtipoklnoknkfhaaDoorShelf
import Derived.Lib.AppendIntMem
import Derived.Lib.Atoi
import Derived.Lib.Strings
import Derived.Lib.Walk
import Derived.Lib.ConvBytes
import Derived.Laws.Strings3
import Derived.Laws.Closers25
import Derived.Laws.Closers25b
import Derived.BigCall
import Derived.BigGuard
import Derived.Lib.AtoiErrMem
import Derived.Lib.SlTrimSet
import Derived.Laws.IdiomStrings
import Derived.IntWalk
import Derived.Lib.ItoaLen
import Derived.Shelf.Strings.SlTrimAscii
import Derived.Lib.SmallJoins
namespace Go.Proofs.YtipoklnoknkfhaaDoor
open Go Go.RowKit Go.Sort
set_option linter.unusedSimpArgs false
set_option linter.unusedVariables false

/-- the table of powers of ten, as a world holds it -/
def Tens (w : World) : Prop := Lib.TabIs Tryd.prog w "internal/strconv.uint64pow10" .u64 Lib.pow10Tab
theorem Tens.below {w w' : World} {B : Nat} (h : Tens w) (hB : w.heap.size ≤ B) (hb : Below B w w') : Tens w' := by
  unfold Tens Lib.TabIs World.var? at *
  cases hg : Tryd.prog.globalNamed "internal/strconv.uint64pow10" with
  | none => simp [hg] at h
  | some g =>
    simp only [hg, Option.bind_some] at h ⊢
    have hlt : g < w.heap.size := by
      rcases Nat.lt_or_ge g w.heap.size with h' | h'
      · exact h'
      · rw [Array.getElem?_eq_none h'] at h; simp at h
    rw [hb.block g (by omega)]
    exact h
/-- a number's text -/
def dec (u : Nat) : ByteArray := ⟨(Lib.decDigits u).toArray⟩

theorem dec_size (u : Nat) (h : u < 18446744073709551616) : 1 ≤ (dec u).size ∧ (dec u).size ≤ 20 := by
  have e : (dec u).size = Lib.nDigits u := by
    show (Lib.decDigits u).toArray.size = _
    rw [List.size_toArray, Lib.decDigits_length]
  rw [e]
  by_cases h0 : u = 0
  · subst h0; decide +kernel
  · have h1 := Lib.numDigits_eq u (by omega) h
    have h2 := Lib.nDigits_pos u
    refine ⟨by omega, ?_⟩
    split at h1 <;> omega
set_option maxHeartbeats 6400000 in
set_option maxRecDepth 100000 in
theorem ufmt_any (w : World) (u : Nat) (hu64 : u < 18446744073709551616) (htab : Tens w) :
    Calls Tryd.prog 157 #[.int .u64 u, .int .i64 10] w fun e w' => e = .returned (.string (dec u)) ∧ Below w.heap.size w w' := by
  by_cases hs : u < 100
  · have d : decide ((u : Int) < 100) = true := by simp; omega
    go_enter Tryd.func157, Tryd.ntmps157
    go_wp2_with fail
    refine (Tryd.internal_strconv_small u hs _).mono ?_
    rintro e w' ⟨rfl, rfl⟩
    go_wp2_with fail
    go_ret
    exact ⟨rfl, Below.refl _ _⟩
  have d : decide ((u : Int) < 100) = false := by simp; omega
  have hu1 : 1 ≤ u := by omega
  have hnd20 : Lib.nDigits u ≤ 20 := by have := Lib.numDigits_eq u hu1 hu64; split at this <;> omega
  have hal : Tryd.prog.arrayLen 229 = 24 := by kernel_rfl
  have hsl : ∀ W, (Instr.sliceAt 229 (.pointer (some ⟨w.heap.size, 0, none⟩)) none (some (.int .i64 (Lib.nDigits u : Int))) none).run Tryd.prog W = .ok (.slice (some ⟨w.heap.size, 0, none⟩) (Lib.nDigits u) 24) W := fun W => by
    rw [run_sliceAt_array_h W 229 ⟨w.heap.size, 0, none⟩ (by rw [hal]; exact Tryd.underlying229) .i64 (Lib.nDigits u : Int) (by omega) (by rw [hal]; omega)]
    go_simp
  have hH0 := Lib.holds_zero0 w 229 (Lib.nDigits u) (by omega)
  have hfmt := Tryd.internal_strconv_formatBase10 w.heap.size 0 24 u (Array.replicate (Lib.nDigits u) 0) (w.alloc (.cells Lib.zeros24 229)) hH0 (by rw [Array.size_replicate]; exact Lib.lt_pow_nDigits u) hu64 (by rw [Array.size_replicate]; omega)
  rw [Array.size_replicate] at hfmt
  have HH0 := Lib.hid hH0
  have HF := Lib.hid hfmt
  have HT := Lib.hid (Lib.tabIs_alloc htab (.cells Lib.zeros24 229))
  clear hH0 hal hfmt htab
  go_enter Tryd.func157, Tryd.ntmps157
  go_wp2_with fail
  refine (Tryd.internal_strconv_numDigits u hu1 hu64 _ HT.out).mono ?_
  rintro e w' ⟨rfl, rfl⟩
  go_wp2_with fail
  refine HF.out.mono ?_
  rintro e w' ⟨rfl, k, v', dk, rfl, hF⟩
  have hcv : (convert 160 9 (.slice (some ⟨w.heap.size, 0, none⟩) (Lib.nDigits u) 24)).run Tryd.prog ((putRow (fun (b : UInt8) => Value.int .u8 (b.toNat : Int)) (w.alloc (.cells Lib.zeros24 229)) w.heap.size 0 dk).drewN k) = .ok (.string ⟨(Lib.decDigits u).toArray⟩) ((putRow (fun (b : UInt8) => Value.int .u8 (b.toNat : Int)) (w.alloc (.cells Lib.zeros24 229)) w.heap.size 0 dk).drewN k) := by
    have h := run_convert_bytes_back (P := Tryd.prog) ((putRow (fun (b : UInt8) => Value.int .u8 (b.toNat : Int)) (w.alloc (.cells Lib.zeros24 229)) w.heap.size 0 dk).drewN k) 160 9 5 ⟨w.heap.size, 0, none⟩ 24 (Lib.decDigits u) Tryd.underlying160 Tryd.underlying5 Tryd.underlying9 (fun j hj => by
      rw [Lib.row_is_numeral hF j hj, Lib.add_plain, World.cell?_drewN]
      exact cell?_putRow (fun (b : UInt8) => Value.int .u8 (b.toNat : Int)) _ w.heap.size 0 _ dk HH0.out (by rw [hF.size, Array.size_replicate]) j (by rw [hF.size]; rw [Lib.decDigits_length] at hj; exact hj))
    rw [Lib.decDigits_length] at h
    exact h
  go_wp2_with fail
  go_ret
  obtain ⟨os, eo⟩ := Lib.fin_at w (.cells Lib.zeros24 229) dk k 0
  refine ⟨rfl, ?_⟩
  rw [eo]
  exact Lib.below_grow _ w (Nat.le_refl _) k os
theorem fmt_any (w : World) (u : Nat) (hu64 : u < 18446744073709551616) (htab : Tens w) :
    Calls Tryd.prog 140 #[.int .u64 u, .int .i64 10] w fun e w' => e = .returned (.string (dec u)) ∧ Below w.heap.size w w' := by
  go_enter Tryd.func140, Tryd.ntmps140
  go_wp2_with fail
  refine (ufmt_any _ u hu64 htab).mono ?_
  rintro e w' ⟨rfl, hb⟩
  go_wp2_with fail
  go_ret
  exact ⟨rfl, hb⟩
end Go.Proofs.YtipoklnoknkfhaaDoor
namespace Go.Proofs.YtipoklnoknkfhaaDoor
open Go Go.RowKit

theorem dd_small {n : Nat} (h : n < 10) : Lib.decDigits n = [UInt8.ofNat (48 + n)] := by rw [Lib.decDigits, dif_pos h]
theorem dd_big {n : Nat} (h : ¬ n < 10) : Lib.decDigits n = Lib.decDigits (n / 10) ++ [UInt8.ofNat (48 + n % 10)] := by rw [Lib.decDigits, dif_neg h]
theorem dd_byte {d : Nat} (h : d < 10) : (UInt8.ofNat (48 + d)).toNat = 48 + d := by
  rw [UInt8.toNat_ofNat']
  omega
theorem dd_bytes (n : Nat) : ∀ b ∈ Lib.decDigits n, 48 ≤ b.toNat ∧ b.toNat ≤ 57 := by
  induction n using Nat.strongRecOn with
  | _ n ih =>
    intro b hb
    by_cases h : n < 10
    · rw [dd_small h] at hb
      obtain rfl := List.mem_singleton.1 hb
      rw [dd_byte h]
      omega
    · rw [dd_big h] at hb
      rcases List.mem_append.1 hb with hb | hb
      · exact ih (n / 10) (by omega) b hb
      · obtain rfl := List.mem_singleton.1 hb
        rw [dd_byte (by omega)]
        omega
theorem dd_ne (n : Nat) : Lib.decDigits n ≠ [] := by
  by_cases h : n < 10
  · rw [dd_small h]; simp
  · rw [dd_big h]; simp
theorem decFrom_append (l r : List UInt8) : ∀ acc : Nat, Lib.decFrom acc (l ++ r) = (Lib.decFrom acc l).bind fun a => Lib.decFrom a r := by
  induction l with
  | nil => intro acc; rfl
  | cons b l ih =>
    intro acc
    simp only [List.cons_append, Lib.decFrom]
    cases Lib.digitVal b with
    | none => rfl
    | some d => exact ih _
theorem dd_read (n : Nat) : Lib.decFrom 0 (Lib.decDigits n) = some n := by
  induction n using Nat.strongRecOn with
  | _ n ih =>
    have hd : ∀ d : Nat, d < 10 → Lib.digitVal (UInt8.ofNat (48 + d)) = some d := by
      intro d h
      unfold Lib.digitVal
      rw [dd_byte h, if_pos (by omega)]
      simp
    by_cases h : n < 10
    · rw [dd_small h]
      unfold Lib.decFrom
      rw [hd n h]
      simp [Lib.decFrom]
    · rw [dd_big h, decFrom_append, ih (n / 10) (by omega)]
      rw [Option.bind_some]
      unfold Lib.decFrom
      rw [hd (n % 10) (by omega)]
      simp only [Lib.decFrom]
      congr 1
      omega
theorem dd_inj {a b : Nat} (h : Lib.decDigits a = Lib.decDigits b) : a = b := by
  have h1 := dd_read a
  rw [h, dd_read b] at h1
  exact (Option.some.inj h1).symm
/-- what stands ahead of the first space is told by the text -/
theorem cut_space {a b r s : List UInt8} (ha : ∀ x ∈ a, x.toNat ≠ 32) (hb : ∀ x ∈ b, x.toNat ≠ 32) (h : a ++ 32 :: r = b ++ 32 :: s) : a = b ∧ r = s := by
  induction a generalizing b with
  | nil =>
    cases b with
    | nil => simpa using h
    | cons y b =>
      simp at h
      exact absurd (by rw [← h.1]; rfl) (hb y (by simp))
  | cons x a ih =>
    cases b with
    | nil =>
      simp at h
      exact absurd (by rw [h.1]; rfl) (ha x (by simp))
    | cons y b =>
      simp at h
      obtain ⟨rfl, h2⟩ := h
      obtain ⟨rfl, rfl⟩ := ih (fun z hz => ha z (by simp [hz])) (fun z hz => hb z (by simp [hz])) h2
      exact ⟨rfl, rfl⟩
/-- a text without a space is none with one -/
theorem no_space {a b r : List UInt8} (ha : ∀ x ∈ a, x.toNat ≠ 32) (h : a = b ++ 32 :: r) : False := ha 32 (by rw [h]; simp) rfl
theorem dd_nosp (n : Nat) : ∀ b ∈ Lib.decDigits n, b.toNat ≠ 32 := fun b hb => by have := dd_bytes n b hb; omega
end Go.Proofs.YtipoklnoknkfhaaDoor
namespace Go.Proofs.YtipoklnoknkfhaaDoor
open Go Go.RowKit

theorem decFrom_ge (l : List UInt8) : ∀ acc m : Nat, Lib.decFrom acc l = some m → acc ≤ m := by
  induction l with
  | nil => intro acc m h; simp [Lib.decFrom] at h; omega
  | cons c r ih =>
    intro acc m h
    unfold Lib.decFrom at h
    cases hd : Lib.digitVal c with
    | none => rw [hd] at h; cases h
    | some d =>
      rw [hd] at h
      have := ih _ _ h
      omega
end Go.Proofs.YtipoklnoknkfhaaDoor
namespace Go.Proofs.YtipoklnoknkfhaaDoor
open Go Go.RowKit
set_option linter.unusedSimpArgs false
set_option linter.unusedVariables false

theorem and_one (a : Int) (h0 : 0 ≤ a) (h1 : a < 18446744073709551616) : bits BinOp.and IntKind.u64 a 1 = a % 2 := by
  obtain ⟨n, rfl⟩ := Int.eq_ofNat_of_zero_le h0
  have h : (BitVec.ofInt IntKind.u64.bits (n : Int) &&& BitVec.ofInt IntKind.u64.bits 1).toNat = n % 2 := by
    rw [BitVec.toNat_and]
    simp [IntKind.bits, Nat.and_one_is_mod]
  unfold bits
  simp only
  rw [h]
  have : IntKind.u64.wrap ((n % 2 : Nat) : Int) = ((n % 2 : Nat) : Int) := by
    unfold IntKind.wrap; simp [IntKind.bits, IntKind.signed]; omega
  rw [this]; omega
theorem or_one (a : Int) (h0 : 0 ≤ a) (h1 : a < 9223372036854775808) : bits BinOp.or IntKind.u64 (a * 2) 1 = a * 2 + 1 := by
  obtain ⟨n, rfl⟩ := Int.eq_ofNat_of_zero_le h0
  have h : (BitVec.ofInt IntKind.u64.bits ((n : Int) * 2) ||| BitVec.ofInt IntKind.u64.bits 1).toNat = n * 2 + 1 := by
    rw [BitVec.toNat_or]
    have e : (n : Int) * 2 = ((n * 2 : Nat) : Int) := by omega
    rw [e]
    simp only [BitVec.toNat_ofInt, IntKind.bits]
    have := Nat.shiftLeft_add_eq_or_of_lt (a := n) (b := 1) (i := 1) (by decide)
    rw [Nat.shiftLeft_eq] at this
    rw [show ((((n * 2 : Nat) : Int) % ((2 ^ 64 : Nat) : Int)).toNat) = n * 2 ^ 1 by omega, show ((1 : Int) % ((2 ^ 64 : Nat) : Int)).toNat = 1 by decide, ← this]
  unfold bits
  simp only
  rw [h]
  unfold IntKind.wrap; simp [IntKind.bits, IntKind.signed]; omega
theorem isCell_any (w : World) (a : Int) (h0 : 0 ≤ a) (h1 : a < 18446744073709551616) :
    Calls Tryd.prog 141 #[.int .u64 a] w fun e w' => e = .returned (.tuple #[.int .i64 (if a % 2 = 1 ∧ a < 8192 then a / 2 else 0), .bool (decide (a % 2 = 1 ∧ a < 8192))]) ∧ w' = w := by
  have e1 := and_one a h0 h1
  rcases Int.emod_two_eq a with h | h
  · rw [h] at e1
    simp only [h]
    go_enter Tryd.func141, Tryd.ntmps141
    go_wp2_with fail
    go_ret2
    exact ⟨by simp, rfl⟩
  · rw [h] at e1
    simp only [h]
    by_cases h2 : a < 8192
    · have d : decide (4096 ≤ a / 2) = false := by simp; omega
      simp only [h2]
      go_enter Tryd.func141, Tryd.ntmps141
      go_wp2_with fail
      go_ret2
      exact ⟨by simp, rfl⟩
    · have d : decide (4096 ≤ a / 2) = true := by simp; omega
      simp only [h2]
      go_enter Tryd.func141, Tryd.ntmps141
      go_wp2_with fail
      go_ret2
      exact ⟨by simp, rfl⟩
theorem atom_any (w : World) (k : Int) (h0 : -9223372036854775808 ≤ k) (h1 : k < 9223372036854775808) :
    Calls Tryd.prog 51 #[.int .i64 k] w fun e w' => e = .returned (.int .u64 (if k < 0 then 0 else k * 2)) ∧ w' = w := by
  by_cases h : k < 0
  · rw [if_pos h]
    have d : decide (k < 0) = true := by simpa using h
    go_enter Tryd.func51, Tryd.ntmps51
    go_wp2_with fail
    go_ret
    exact ⟨rfl, rfl⟩
  · rw [if_neg h]
    have d : decide (k < 0) = false := by simpa using h
    go_enter Tryd.func51, Tryd.ntmps51
    go_wp2_with fail
    go_ret
    exact ⟨rfl, rfl⟩
theorem refCell_any (w : World) (k : Int) (h0 : -9223372036854775808 ≤ k) (h1 : k < 9223372036854775808) :
    Calls Tryd.prog 84 #[.int .i64 k] w fun e w' => e = .returned (.int .u64 (if 0 ≤ k ∧ k < 4096 then k * 2 + 1 else 0)) ∧ w' = w := by
  by_cases h : 0 ≤ k ∧ k < 4096
  · rw [if_pos h]
    have d : decide (k < 0) = false := by simp; omega
    have d2 : decide (4095 < k) = false := by simp; omega
    go_enter Tryd.func84, Tryd.ntmps84
    go_wp2_with fail
    go_ret
    exact ⟨rfl, rfl⟩
  · rw [if_neg h]
    by_cases hn : k < 0
    · have d : decide (k < 0) = true := by simpa using hn
      go_enter Tryd.func84, Tryd.ntmps84
      go_wp2_with fail
      go_ret
      exact ⟨rfl, rfl⟩
    · have d : decide (k < 0) = false := by simpa using hn
      have d2 : decide (4095 < k) = true := by simp; omega
      go_enter Tryd.func84, Tryd.ntmps84
      go_wp2_with fail
      go_ret
      exact ⟨rfl, rfl⟩
theorem refIsAtom_any (w : World) (a : Int) (h0 : 0 ≤ a) (h1 : a < 18446744073709551616) :
    Calls Tryd.prog 104 #[.int .u64 a] w fun e w' => e = .returned (.int .i64 (if a % 2 = 1 then -1 else a / 2)) ∧ w' = w := by
  rcases Int.emod_two_eq a with h | h
  · simp only [h]
    go_enter Tryd.func104, Tryd.ntmps104
    go_wp2_with fail
    go_ret
    exact ⟨rfl, rfl⟩
  · simp only [h]
    go_enter Tryd.func104, Tryd.ntmps104
    go_wp2_with fail
    go_ret
    exact ⟨rfl, rfl⟩
end Go.Proofs.YtipoklnoknkfhaaDoor
namespace Go.Proofs.YtipoklnoknkfhaaDoor
open Go Go.RowKit
set_option linter.unusedSimpArgs false
set_option linter.unusedVariables false

theorem funit_small (w : World) (i : Nat) (h : i < 100) :
    Calls Tryd.prog 140 #[.int .u64 i, .int .i64 10] w fun e w' => e = .returned (.string ⟨(Lib.decDigits i).toArray⟩) ∧ w' = w := by
  have d : decide ((i : Int) < 100) = true := by simp; omega
  go_enter Tryd.func140, Tryd.ntmps140
  go_wp2_with fail
  have hin : Calls Tryd.prog 157 #[.int .u64 i, .int .i64 10] w fun e w' => e = .returned (.string ⟨(Lib.decDigits i).toArray⟩) ∧ w' = w := by
    go_enter Tryd.func157, Tryd.ntmps157
    go_wp2_with fail
    refine (Tryd.internal_strconv_small i h _).mono ?_
    rintro e w' ⟨rfl, rfl⟩
    go_wp2_with fail
    go_ret
    exact ⟨rfl, rfl⟩
  refine hin.mono ?_
  rintro e w' ⟨rfl, rfl⟩
  go_wp2_with fail
  go_ret
  exact ⟨rfl, rfl⟩
theorem text7 (w : World) : Calls Tryd.prog 121 #[.int .u64 7] w fun e w' => e = .returned (.string ⟨#[35, 51]⟩) ∧ w' = w := by
  go_enter Tryd.func121, Tryd.ntmps121
  go_wp2_with fail
  refine (funit_small _ 3 (by decide)).mono ?_
  rintro e w' ⟨rfl, rfl⟩
  rw [show (⟨(Lib.decDigits 3).toArray⟩ : ByteArray) = ⟨#[51]⟩ by decide +kernel]
  go_wp2_with fail
  refine (isCell_any _ 7 (by decide) (by decide)).mono ?_
  rintro e w' ⟨rfl, rfl⟩
  rw [show (decide ((7 : Int) % 2 = 1 ∧ (7 : Int) < 8192)) = true by decide]
  go_wp2_with fail
  go_ret
  exact ⟨by rfl, rfl⟩
theorem text6 (w : World) : Calls Tryd.prog 121 #[.int .u64 6] w fun e w' => e = .returned (.string ⟨#[51]⟩) ∧ w' = w := by
  go_enter Tryd.func121, Tryd.ntmps121
  have e1 : bits BinOp.and IntKind.u64 6 1 = 0 := by decide
  go_wp2_with fail
  refine (funit_small _ 3 (by decide)).mono ?_
  rintro e w' ⟨rfl, rfl⟩
  rw [show (⟨(Lib.decDigits 3).toArray⟩ : ByteArray) = ⟨#[51]⟩ by decide +kernel]
  go_wp2_with fail
  refine (isCell_any _ 6 (by decide) (by decide)).mono ?_
  rintro e w' ⟨rfl, rfl⟩
  rw [show (decide ((6 : Int) % 2 = 1 ∧ (6 : Int) < 8192)) = false by decide]
  go_wp2_with fail
  go_ret
  exact ⟨by rfl, rfl⟩
/-! ### the twins -/
end Go.Proofs.YtipoklnoknkfhaaDoor
namespace Go.Proofs.YtipoklnoknkfhaaDoor
open Go Go.RowKit
set_option linter.unusedSimpArgs false
set_option linter.unusedVariables false

end Go.Proofs.YtipoklnoknkfhaaDoor
namespace Go.Proofs.YtipoklnoknkfhaaDoor
open Go Go.RowKit
set_option linter.unusedSimpArgs false
set_option linter.unusedVariables false

/-- what stands ahead of the number in a word's text -/
def wpre (a : Int) : ByteArray := if a % 2 = 1 then (if a < 8192 then ⟨#[35]⟩ else ⟨#[63]⟩) else ⟨#[]⟩
def wtext (a : Int) : ByteArray := if a % 2 = 1 then wpre a ++ dec (a / 2).toNat else dec (a / 2).toNat
theorem text_any (w : World) (a : Int) (h0 : 0 ≤ a) (h1 : a < 18446744073709551616) (ht : Tens w) :
    Calls Tryd.prog 121 #[.int .u64 a] w fun e w' => e = .returned (.string (wtext a)) ∧ Below w.heap.size w w' := by
  have e1 := and_one a h0 h1
  obtain ⟨u, hu⟩ : ∃ u : Nat, a / 2 = u := ⟨(a / 2).toNat, by omega⟩
  have F := Lib.hid (fmt_any w u (by omega) ht)
  obtain ⟨hd1, hd2⟩ := dec_size u (by omega)
  have ee : (a / 2).toNat = u := by omega
  rcases Int.emod_two_eq a with h | h
  · have C : Hid (∀ w, Calls Tryd.prog 141 #[.int .u64 a] w fun e w' => e = .returned (.tuple #[.int .i64 0, .bool false]) ∧ w' = w) := fun w => by simpa [h] using isCell_any w a h0 h1
    have et : Hid (wtext a = dec u) := by unfold Hid wtext; rw [if_neg (by omega), ee]
    rw [h] at e1
    clear h ht ee
    go_enter Tryd.func121, Tryd.ntmps121
    go_wp2_with fail
    refine F.out.mono ?_
    rintro e w' ⟨rfl, hb⟩
    have HB := Lib.hid hb
    clear hb
    go_wp2_with fail
    refine (C.out _).mono ?_
    rintro e w' ⟨rfl, rfl⟩
    go_wp2_with fail
    go_ret
    exact ⟨by rw [et.out]; rfl, HB.out⟩
  · rw [h] at e1
    by_cases h2 : a < 8192
    · have C : Hid (∀ w, Calls Tryd.prog 141 #[.int .u64 a] w fun e w' => e = .returned (.tuple #[.int .i64 (a / 2), .bool true]) ∧ w' = w) := fun w => by simpa [h, h2] using isCell_any w a h0 h1
      have et : Hid (wtext a = ⟨#[35]⟩ ++ dec u) := by unfold Hid wtext wpre; rw [if_pos h, if_pos h, if_pos h2, ee]
      clear h ht ee h2
      go_enter Tryd.func121, Tryd.ntmps121
      go_wp2_with fail
      refine F.out.mono ?_
      rintro e w' ⟨rfl, hb⟩
      have HB := Lib.hid hb
      clear hb
      go_wp2_with fail
      refine (C.out _).mono ?_
      rintro e w' ⟨rfl, rfl⟩
      go_wp2_with fail
      go_ret
      exact ⟨by rw [et.out]; rfl, HB.out⟩
    · have C : Hid (∀ w, Calls Tryd.prog 141 #[.int .u64 a] w fun e w' => e = .returned (.tuple #[.int .i64 0, .bool false]) ∧ w' = w) := fun w => by simpa [h, h2] using isCell_any w a h0 h1
      have et : Hid (wtext a = ⟨#[63]⟩ ++ dec u) := by unfold Hid wtext wpre; rw [if_pos h, if_pos h, if_neg h2, ee]
      clear h ht ee h2
      go_enter Tryd.func121, Tryd.ntmps121
      go_wp2_with fail
      refine F.out.mono ?_
      rintro e w' ⟨rfl, hb⟩
      have HB := Lib.hid hb
      clear hb
      go_wp2_with fail
      refine (C.out _).mono ?_
      rintro e w' ⟨rfl, rfl⟩
      go_wp2_with fail
      go_ret
      exact ⟨by rw [et.out]; rfl, HB.out⟩
end Go.Proofs.YtipoklnoknkfhaaDoor
namespace Go.Proofs.YtipoklnoknkfhaaDoor
open Go Go.RowKit
set_option linter.unusedSimpArgs false
set_option linter.unusedVariables false

/-- what is read behind a number: none: a byte that is no digit; some none: too great a number -/
def pu (acc : Nat) : List UInt8 → Option (Option Nat)
  | [] => some (some acc)
  | c :: r => if 48 ≤ c.toNat ∧ c.toNat ≤ 57 then (if 9223372036854775807 < acc * 10 + (c.toNat - 48) then some none else pu (acc * 10 + (c.toNat - 48)) r) else none
def puVal : Option (Option Nat) → Value
  | none => .tuple #[.int .u64 0, .iface 219 (.int .i64 2)]
  | some none => .tuple #[.int .u64 9223372036854775807, .iface 219 (.int .i64 1)]
  | some (some n) => .tuple #[.int .u64 (n : Int), .nilIface]
set_option maxHeartbeats 32000000 in
set_option maxRecDepth 100000 in
theorem pu_in (t : ByteArray) (hne : t.size ≠ 0) (hmax : t.size ≤ 1000000) (w : World) :
    Calls Tryd.prog 165 #[.string t, .int .i64 10, .int .i64 63] w fun e w' => e = .returned (puVal (pu 0 t.data.toList)) ∧ w' = Lib.bytesWorld w 5 t := by
  have hemp : t.toList.isEmpty = false := by
    rw [← decide_eq_emptyBytes]
    exact decide_eq_false (fun h => hne (by rw [h]; rfl))
  have hcv := Lib.run_convert_string_bytes (P := Tryd.prog) w 9 160 5 t (u := .string) Tryd.underlying9 Tryd.underlying160 Tryd.underlying5
  have hB : ∀ j, j < t.size → (Lib.bytesWorld w 5 t).cell? ⟨w.heap.size, j, none⟩ = some (.int .u8 (t.data.toList.getD j 0).toNat) := fun j hj => Lib.bytesWorld_cell w 5 t j hj
  obtain ⟨W1, hW1⟩ : ∃ W1, W1 = Lib.bytesWorld w 5 t := ⟨_, rfl⟩
  rw [← hW1] at hcv hB ⊢
  clear hW1
  obtain ⟨bs, hL⟩ : ∃ bs, bs = t.data.toList := ⟨_, rfl⟩
  have hLn : bs.length = t.size := by rw [hL, Lib.size_eq]
  rw [← hL] at hB ⊢
  clear hL
  have hmv : IntKind.u64.wrap (IntKind.u64.wrap 9223372036854775808 - 1) = 9223372036854775807 := by
    rw [IntKind.wrap_u64, IntKind.wrap_u64]
    decide
  go_enter Tryd.func165, Tryd.ntmps165
  go_wp2
  go_loop [12, 13, 101] (fun vu vn vi => ∃ (k acc : Nat) (a : Int), vu = .bool false ∧ vn = .int .u64 a ∧ vi = .int .i64 k ∧ k ≤ t.size ∧ Hid (a = (acc : Int) ∧ acc ≤ 9223372036854775807 ∧ pu 0 bs = pu acc (bs.drop k)))
    (fun _ _ vi => t.size - (intOf vi).toNat)
  case atStart => exact ⟨0, 0, 0, rfl, rfl, rfl, by omega, rfl, by omega, rfl⟩
  case round =>
    obtain ⟨k, acc, a, rfl, rfl, rfl, hk, hh⟩ := hrel
    obtain ⟨ha, hacc, hdec⟩ := hh.out
    clear hh
    have a0 : 0 ≤ a := by omega
    have a1 : a ≤ 9223372036854775807 := by omega
    by_cases hkn : k < t.size
    · have hc := hB k hkn
      have hdrop : bs.drop k = bs[k]'(by omega) :: bs.drop (k + 1) := List.drop_eq_getElem_cons (by omega)
      have hget : bs.getD k 0 = bs[k]'(by omega) := by simp [List.getD, List.getElem?_eq_getElem (show k < bs.length by omega)]
      rw [hdrop] at hdec
      rw [hget] at hc
      generalize bs[k]'(by omega) = c at hc hdec
      have hc256 : c.toNat < 256 := c.toNat_lt
      clear hB hdrop hget
      by_cases hdig : 48 ≤ c.toNat ∧ c.toNat ≤ 57
      · obtain ⟨hd0, hd1⟩ := hdig
        by_cases hov : 9223372036854775807 < acc * 10 + (c.toNat - 48)
        · have hF : pu acc (c :: bs.drop (k + 1)) = some none := by simp [pu, hd0, hd1, hov]
          rw [hF] at hdec
          have HD := Lib.hid hdec
          by_cases hcut : 1844674407370955162 ≤ acc
          · have icut : 1844674407370955162 ≤ a := by omega
            clear hcut hacc hF ha hov hdec
            go_wp2
            go_ret2
            exact ⟨by rw [HD.out]; rfl, rfl⟩
          · have icut : a < 1844674407370955162 := by omega
            by_cases h64 : 18446744073709551616 ≤ acc * 10 + (c.toNat - 48)
            · have iov : 18446744073709551616 ≤ a * 10 + ((c.toNat : Int) - 48) := by omega
              have hwr : IntKind.u64.wrap (a * 10 + ((c.toNat : Int) - 48)) = a * 10 + ((c.toNat : Int) - 48) - 18446744073709551616 := by
                rw [IntKind.wrap_u64]
                omega
              clear hcut hacc hF hov ha h64 hdec
              go_wp2
              go_ret2
              exact ⟨by rw [HD.out]; rfl, rfl⟩
            · have iov : a * 10 + ((c.toNat : Int) - 48) < 18446744073709551616 := by omega
              have iov2 : 9223372036854775807 < a * 10 + ((c.toNat : Int) - 48) := by omega
              clear hcut hacc hF hov ha h64 hdec
              go_wp2
              go_ret2
              exact ⟨by rw [HD.out]; rfl, rfl⟩
        · have hF : pu acc (c :: bs.drop (k + 1)) = pu (acc * 10 + (c.toNat - 48)) (bs.drop (k + 1)) := by simp [pu, hd0, hd1, hov]
          have HN : Hid (a * 10 + ((c.toNat : Int) - 48) = ((acc * 10 + (c.toNat - 48) : Nat) : Int) ∧ acc * 10 + (c.toNat - 48) ≤ 9223372036854775807 ∧ pu 0 bs = pu (acc * 10 + (c.toNat - 48)) (bs.drop (k + 1))) := Lib.hid ⟨by omega, by omega, hdec.trans hF⟩
          have icut : a < 1844674407370955162 := by omega
          have iov : a * 10 + ((c.toNat : Int) - 48) ≤ 9223372036854775807 := by omega
          clear hacc hF hov hdec ha
          go_wp2
          refine ⟨⟨k + 1, acc * 10 + (c.toNat - 48), a * 10 + ((c.toNat : Int) - 48), rfl, (by first | rfl | (congr 1; omega)), (by first | rfl | (congr 1; omega)), by omega, HN⟩, by simp [intOf]; omega⟩
      · have hF : pu acc (c :: bs.drop (k + 1)) = none := by simp [pu, hdig]
        rw [hF] at hdec
        have HD := Lib.hid hdec
        clear hacc hF ha hdec
        have hv0 := bits_lo_u8 .or (c.toNat : Int) 32
        have hv1 := bits_hi_u8 .or (c.toNat : Int) 32
        have hu0 := bits_lo_u8 .or 95 32
        have hu1 := bits_hi_u8 .or 95 32
        go_wp2_with (go_at_call 175; refine (Tryd.internal_strconv_lower _ _).mono ?_; rintro e w' ⟨rfl, rfl⟩)
        all_goals go_ret2
        all_goals exact ⟨by rw [HD.out]; rfl, rfl⟩
    · have hkk : k = t.size := by omega
      subst hkk
      have hF : pu acc (bs.drop t.size) = some (some acc) := by rw [List.drop_eq_nil_of_le (by omega)]; rfl
      rw [hF] at hdec
      have HD := Lib.hid hdec
      subst ha
      clear hacc hF a0 a1 hdec
      go_wp2
      go_ret2
      exact ⟨by rw [HD.out]; rfl, rfl⟩
end Go.Proofs.YtipoklnoknkfhaaDoor
namespace Go.Proofs.YtipoklnoknkfhaaDoor
open Go Go.RowKit

theorem pu_dec (l : List UInt8) : ∀ acc m : Nat, Lib.decFrom acc l = some m → m ≤ 9223372036854775807 → pu acc l = some (some m) := by
  induction l with
  | nil => intro acc m h _; simp [Lib.decFrom] at h; simp [pu, h]
  | cons c r ih =>
    intro acc m h hm
    unfold Lib.decFrom at h
    cases hd : Lib.digitVal c with
    | none => rw [hd] at h; cases h
    | some d =>
      rw [hd] at h
      obtain ⟨h1, h2, h3⟩ := Lib.digitVal_eq hd
      have hg := decFrom_ge r _ _ h
      unfold pu
      rw [if_pos ⟨h1, h2⟩, if_neg (by omega), ← h3]
      exact ih _ _ h hm
theorem pu_digits (n : Nat) (h : n ≤ 9223372036854775807) : pu 0 (Lib.decDigits n) = some (some n) := pu_dec _ _ _ (dd_read n) h
/-- the bytes behind the mark -/
def unmark (l : List UInt8) : List UInt8 := Lib.trimLeftS l [35, 63]
theorem unmark_digits (n : Nat) : unmark (Lib.decDigits n) = Lib.decDigits n := by
  unfold unmark Lib.trimLeftS
  cases h : Lib.decDigits n with
  | nil => rfl
  | cons c r =>
    have hb := dd_bytes n c (by rw [h]; simp)
    rw [List.dropWhile_cons_of_neg]
    simp
    exact ⟨fun e => by subst e; revert hb; decide, fun e => by subst e; revert hb; decide⟩
theorem unmark_marked (c : UInt8) (hc : c = 35 ∨ c = 63) (n : Nat) : unmark (c :: Lib.decDigits n) = Lib.decDigits n := by
  have h := unmark_digits n
  unfold unmark Lib.trimLeftS at h ⊢
  rw [List.dropWhile_cons_of_pos (by rcases hc with rfl | rfl <;> simp)]
  exact h
/-- a word's text, byte for byte -/
def wbytes (a : Int) : List UInt8 := (wpre a).data.toList ++ Lib.decDigits (a / 2).toNat
theorem wtext_bytes (a : Int) : (wtext a).data.toList = wbytes a := by
  unfold wtext wbytes
  by_cases h : a % 2 = 1
  · rw [if_pos h, ByteArray.data_append, Array.toList_append]
    rfl
  · rw [if_neg h]
    unfold wpre
    rw [if_neg h]
    rfl
theorem wbytes_even (a : Int) (h : a % 2 = 0) : wbytes a = Lib.decDigits (a / 2).toNat := by
  unfold wbytes wpre
  rw [if_neg (by omega)]
  rfl
theorem wbytes_odd (a : Int) (h : a % 2 = 1) : ∃ c : UInt8, (c = 35 ∨ c = 63) ∧ wbytes a = c :: Lib.decDigits (a / 2).toNat := by
  unfold wbytes wpre
  rw [if_pos h]
  by_cases h2 : a < 8192
  · rw [if_pos h2]
    exact ⟨35, .inl rfl, rfl⟩
  · rw [if_neg h2]
    exact ⟨63, .inr rfl, rfl⟩
theorem unmark_w (a : Int) : unmark (wbytes a) = Lib.decDigits (a / 2).toNat := by
  rcases Int.emod_two_eq a with h | h
  · rw [wbytes_even a h, unmark_digits]
  · obtain ⟨c, hc, e⟩ := wbytes_odd a h
    rw [e, unmark_marked c hc]
/-- the word that a text would be of, by what stands in it -/
def wcand (l : List UInt8) : Option Int := match pu 0 (unmark l) with
  | some (some n) => if unmark l = [] then none else some (2 * (n : Int) + (if (unmark l).length < l.length then 1 else 0))
  | _ => none
/-- the word of a text -/
def wread (s : ByteArray) : Option Int := match wcand s.data.toList with
  | some x => if wtext x = s then some x else none
  | none => none
theorem wcand_w (a : Int) (h0 : 0 ≤ a) (h1 : a < 18446744073709551616) : wcand (wbytes a) = some a := by
  unfold wcand
  rw [unmark_w, pu_digits _ (by omega)]
  simp only
  rw [if_neg (dd_ne _)]
  rcases Int.emod_two_eq a with h | h
  · rw [wbytes_even a h, if_neg (by omega)]
    congr 1
    omega
  · obtain ⟨c, hc, e⟩ := wbytes_odd a h
    rw [e, if_pos (by simp)]
    congr 1
    omega
theorem wread_w (a : Int) (h0 : 0 ≤ a) (h1 : a < 18446744073709551616) : wread (wtext a) = some a := by
  unfold wread
  rw [wtext_bytes, wcand_w a h0 h1]
  simp
theorem wtext_inj {a b : Int} (ha : 0 ≤ a ∧ a < 18446744073709551616) (hb : 0 ≤ b ∧ b < 18446744073709551616) (h : wtext a = wtext b) : a = b := by
  have h1 := wread_w a ha.1 ha.2
  rw [h, wread_w b hb.1 hb.2] at h1
  exact (Option.some.inj h1).symm
/-- what is read is a word, and the text is the word's -/
theorem pu_le (l : List UInt8) : ∀ acc n : Nat, acc ≤ 9223372036854775807 → pu acc l = some (some n) → n ≤ 9223372036854775807 := by
  induction l with
  | nil => intro acc n h0 h; simp [pu] at h; omega
  | cons c r ih =>
    intro acc n h0 h
    unfold pu at h
    split at h
    · split at h
      · cases h
      · exact ih _ _ (by omega) h
    · cases h
theorem wcand_bd (l : List UInt8) (x : Int) (h : wcand l = some x) : 0 ≤ x ∧ x < 18446744073709551616 := by
  unfold wcand at h
  split at h
  · rename_i n hn
    have := pu_le _ 0 n (by omega) hn
    split at h
    · cases h
    · have h2 := Option.some.inj h
      split at h2 <;> omega
  · cases h
theorem wread_some (s : ByteArray) (x : Int) (h : wread s = some x) : wtext x = s ∧ 0 ≤ x ∧ x < 18446744073709551616 := by
  unfold wread at h
  split at h
  · rename_i y hy
    split at h
    · rename_i he
      have := Option.some.inj h
      subst this
      exact ⟨he, wcand_bd _ _ hy⟩
    · cases h
  · cases h
end Go.Proofs.YtipoklnoknkfhaaDoor
namespace Go.Proofs.YtipoklnoknkfhaaDoor
open Go Go.RowKit
set_option linter.unusedSimpArgs false
set_option linter.unusedVariables false

theorem ret_str {a b : ByteArray} (h : a = b) : Ending.returned (.string a) = .returned (.string b) := by rw [h]
theorem bytes_ext {a b : ByteArray} (h : a.data.toList = b.data.toList) : a = b := by
  cases a; cases b
  congr 1
  exact Array.toList_inj.1 h
theorem bytes_len (t : ByteArray) : t.data.toList.length = t.size := Array.length_toList
theorem one_byte (W : World) (E : TypeId) (n : Nat) (h : n < 10) : ∀ j (hj : j < ([UInt8.ofNat (48 + n)] : List UInt8).length), (W.alloc (.cells #[.int .u8 ((48 : Int) + n)] E)).cell? ((⟨W.heap.size, 0, none⟩ : Addr).add j) = some (.int .u8 (([UInt8.ofNat (48 + n)] : List UInt8)[j].toNat : Int)) := by
  intro j hj
  have h0 : j = 0 := by simpa using hj
  subst h0
  have e : (⟨W.heap.size, 0, none⟩ : Addr).add 0 = ⟨W.heap.size, 0, none⟩ := by unfold Addr.add; simp
  rw [e, cell_of_block (heap_alloc_new W _)]
  simp only [List.getElem_cons_zero, dd_byte h]
  simp
set_option maxHeartbeats 1000000 in
set_option maxRecDepth 20000 in
theorem refdigits_any (w : World) (n : Nat) (h : n < 18446744073709551616) :
    Calls Tryd.prog 77 #[.int .u64 n] w fun e w' => e = .returned (.string (dec n)) ∧ Below w.heap.size w w' := by
  obtain ⟨a0, ha0⟩ : ∃ a : Int, a = n := ⟨_, rfl⟩
  have H0 := Lib.hid (And.intro ha0 h)
  rw [← ha0]
  clear ha0 h
  go_enter Tryd.func77, Tryd.ntmps77
  go_wp2_with fail
  go_loopw [0, 3] (fun m s wr => ∃ (a : Int) (t : ByteArray), m = .int .u64 a ∧ s = .string t ∧ Hid (0 ≤ a ∧ a < 18446744073709551616 ∧ Lib.decDigits n = Lib.decDigits a.toNat ++ t.data.toList) ∧ Below w.heap.size w wr) (fun m _ _ => (intOf m).toNat)
  case atStart => exact ⟨a0, ⟨#[]⟩, rfl, rfl, by have := H0.out; refine ⟨by omega, by omega, ?_⟩; rw [this.1]; simp, Below.refl _ _⟩
  case round =>
    obtain ⟨a, t, rfl, rfl, HD, hb⟩ := hrel
    have HB := Lib.hid hb
    clear hb
    have h0 := HD.out.1
    have hlt := HD.out.2.1
    have hts : t.size ≤ 20 := by
      have h1 := congrArg List.length HD.out.2.2
      rw [List.length_append, Lib.decDigits_length, Lib.decDigits_length] at h1
      have h2 := Lib.nDigits_le20 n H0.out.2
      have h3 : t.data.toList.length = t.size := bytes_len t
      omega
    have hm0 : 0 ≤ a % 10 := by omega
    have hm1 : a % 10 < 10 := by omega
    obtain ⟨m, hm⟩ : ∃ m : Nat, a = m := ⟨a.toNat, by omega⟩
    obtain ⟨c, hc⟩ : ∃ c : UInt8, c = UInt8.ofNat (48 + m % 10) := ⟨_, rfl⟩
    have hcv : (convert 160 9 (.slice (some ⟨wr.heap.size, 0, none⟩) 1 1)).run Tryd.prog (wr.alloc (.cells #[.int .u8 (48 + a % 10)] 5)) = .ok (.string ⟨#[c]⟩) (wr.alloc (.cells #[.int .u8 (48 + a % 10)] 5)) := by
      have h := run_convert_bytes_back (P := Tryd.prog) (wr.alloc (.cells #[.int .u8 ((48 : Int) + ((m % 10 : Nat) : Int))] 5)) 160 9 5 ⟨wr.heap.size, 0, none⟩ 1 [UInt8.ofNat (48 + m % 10)] Tryd.underlying160 Tryd.underlying5 Tryd.underlying9 (one_byte wr 5 (m % 10) (by omega))
      rw [show a % 10 = ((m % 10 : Nat) : Int) by omega, hc]
      exact h
    have HM := Lib.hid hm
    have HC := Lib.hid hc
    clear hc
    have HB2 : Hid (Below w.heap.size w (wr.alloc (.cells #[.int .u8 (48 + a % 10)] 5))) := HB.out.alloc HB.out.size _
    clear hm
    by_cases hz : a < 10
    · have d0 : (a / 10 == 0) = true := by rw [beq_iff_eq]; omega
      have HE : Hid (Lib.decDigits n = [c] ++ t.data.toList) := by
        unfold Hid
        rw [HC.out, HD.out.2.2, show a.toNat = m by have := HM.out; omega, dd_small (by have := HM.out; omega), show m % 10 = m by have := HM.out; omega]
      clear hz hm0 hm1
      go_wp2_with fail
      go_ret
      refine ⟨ret_str (bytes_ext ?_), HB2.out⟩
      rw [ByteArray.data_append, Array.toList_append]
      exact HE.out.symm
    · have d0 : (a / 10 == 0) = false := by rw [beq_eq_false_iff_ne]; omega
      have HE : Hid (0 ≤ a / 10 ∧ a / 10 < 18446744073709551616 ∧ Lib.decDigits n = Lib.decDigits (a / 10).toNat ++ ((⟨#[c]⟩ : ByteArray) ++ t).data.toList) := by
        have h1 := HD.out
        have h2 := HM.out
        refine ⟨by omega, by omega, ?_⟩
        rw [h1.2.2, show a.toNat = m by omega, dd_big (n := m) (by omega), show (a / 10).toNat = m / 10 by omega, ByteArray.data_append, Array.toList_append, List.append_assoc, HC.out]
      have hz2 : 10 ≤ a := by omega
      clear hz hm0 hm1
      go_wp2_with fail
      go_roundw
      case rel => exact ⟨a / 10, _, rfl, rfl, HE.out, HB2.out⟩
      case measure => simp [intOf]; omega
theorem refDigits_any (w : World) (n : Int) (h0 : 0 ≤ n) (h : n < 9223372036854775808) :
    Calls Tryd.prog 41 #[.int .i64 n] w fun e w' => e = .returned (.string (dec n.toNat)) ∧ Below w.heap.size w w' := by
  obtain ⟨k, rfl⟩ : ∃ k : Nat, n = k := ⟨n.toNat, by omega⟩
  go_enter Tryd.func41, Tryd.ntmps41
  go_wp2_with fail
  refine (refdigits_any _ k (by omega)).mono ?_
  rintro e w' ⟨rfl, hb⟩
  go_wp2_with fail
  go_ret
  exact ⟨by simp, hb⟩
end Go.Proofs.YtipoklnoknkfhaaDoor

namespace Go.Proofs.YtipoklnoknkfhaaDoor
open Go Go.RowKit
set_option linter.unusedSimpArgs false
set_option linter.unusedVariables false

/-- the library's two errors are there -/
def Errs (w : World) : Prop := (∃ ev, w.cell? ⟨3, 0, none⟩ = some ev ∧ (ev = .nilIface ∨ ∃ te pe, ev = .iface te pe)) ∧ (∃ ev, w.cell? ⟨4, 0, none⟩ = some ev ∧ (ev = .nilIface ∨ ∃ te pe, ev = .iface te pe))
theorem Errs.below {w w' : World} {B : Nat} (h : Errs w) (hB : w.heap.size ≤ B) (hb : Below B w w') : Errs w' := by
  obtain ⟨⟨e1, c1, h1⟩, ⟨e2, c2, h2⟩⟩ := h
  have l1 := World.block_lt_of_cell? w _ c1
  have l2 := World.block_lt_of_cell? w _ c2
  exact ⟨⟨e1, (hb.cell (Nat.lt_of_lt_of_le l1 hB)).trans c1, h1⟩, ⟨e2, (hb.cell (Nat.lt_of_lt_of_le l2 hB)).trans c2, h2⟩⟩
theorem reftext_any (w : World) (a : Int) (h0 : 0 ≤ a) (h1 : a < 18446744073709551616) :
    Calls Tryd.prog 91 #[.int .u64 a] w fun e w' => e = .returned (.string (wtext a)) ∧ Below w.heap.size w w' := by
  obtain ⟨u, hu⟩ : ∃ u : Nat, a / 2 = u := ⟨(a / 2).toNat, by omega⟩
  have F := Lib.hid (refdigits_any w u (by omega))
  obtain ⟨hd1, hd2⟩ := dec_size u (by omega)
  have ee : (a / 2).toNat = u := by omega
  have hz : ¬ 9223372036854775807 < 1 + (dec u).size := by omega
  rcases Int.emod_two_eq a with h | h
  · have et : Hid (wtext a = dec u) := by unfold Hid wtext; rw [if_neg (by omega), ee]
    have e1 : (a % 2 == 0) = true := by rw [h]; rfl
    clear ee h
    go_enter Tryd.func91, Tryd.ntmps91
    go_wp2_with fail
    refine F.out.mono ?_
    rintro e w' ⟨rfl, hb⟩
    have HB := Lib.hid hb
    clear hb
    go_wp2_with fail
    go_ret
    exact ⟨by rw [et.out]; rfl, HB.out⟩
  · have e1 : (a % 2 == 0) = false := by rw [h]; rfl
    by_cases h2 : a < 8192
    · have et : Hid (wtext a = ⟨#[35]⟩ ++ dec u) := by unfold Hid wtext wpre; rw [if_pos h, if_pos h, if_pos h2, ee]
      have d2 : decide (a < 8192) = true := by simpa using h2
      clear ee h h2
      go_enter Tryd.func91, Tryd.ntmps91
      go_wp2_with fail
      refine F.out.mono ?_
      rintro e w' ⟨rfl, hb⟩
      have HB := Lib.hid hb
      clear hb
      go_wp2_with fail
      go_ret
      exact ⟨by rw [et.out]; rfl, HB.out⟩
    · have et : Hid (wtext a = ⟨#[63]⟩ ++ dec u) := by unfold Hid wtext wpre; rw [if_pos h, if_pos h, if_neg h2, ee]
      have d2 : decide (a < 8192) = false := by simpa using h2
      clear ee h h2
      go_enter Tryd.func91, Tryd.ntmps91
      go_wp2_with fail
      refine F.out.mono ?_
      rintro e w' ⟨rfl, hb⟩
      have HB := Lib.hid hb
      clear hb
      go_wp2_with fail
      go_ret
      exact ⟨by rw [et.out]; rfl, HB.out⟩
/-! ### ParseUint, the public one -/
set_option maxRecDepth 100000 in
theorem pu_empty (w : World) : Calls Tryd.prog 165 #[.string ⟨#[]⟩, .int .i64 10, .int .i64 63] w fun e w' => e = .returned (puVal none) ∧ w' = w := by
  go_enter Tryd.func165, Tryd.ntmps165
  go_wp2
  go_ret2
  exact ⟨rfl, rfl⟩
/-- the number of a text that is not empty -/
def puOf (l : List UInt8) : Option (Option Nat) := if l = [] then none else pu 0 l
theorem pu_any (t : ByteArray) (hmax : t.size ≤ 1000000) (w : World) :
    Calls Tryd.prog 165 #[.string t, .int .i64 10, .int .i64 63] w fun e w' => e = .returned (puVal (puOf t.data.toList)) ∧ Below w.heap.size w w' := by
  by_cases h0 : t.size = 0
  · have ht : t = ⟨#[]⟩ := by
      apply ByteArray.ext
      exact Array.eq_empty_of_size_eq_zero h0
    subst ht
    refine (pu_empty w).mono fun e w' ⟨he, hw⟩ => ?_
    subst hw
    exact ⟨he, Below.refl _ _⟩
  · have hne : t.data.toList ≠ [] := fun h => h0 (by rw [← bytes_len, h]; rfl)
    refine (pu_in t h0 hmax w).mono fun e w' ⟨he, hw⟩ => ?_
    subst hw
    exact ⟨by rw [he]; unfold puOf; rw [if_neg hne], Lib.bytesWorld_below _ _ _⟩
def PuErr (w : World) (e : Ending) (w' : World) : Prop := ∃ v N, e = .returned (.tuple #[.int .u64 v, .iface 222 (.pointer (some ⟨N, 0, none⟩))]) ∧ Below w.heap.size w w'
/-! ### TrimLeft -/
/-! ### Parse -/
theorem str_eqT {a b : ByteArray} (h : a = b) : (a.toList == b.toList) = true := by rw [h]; simp
theorem str_neT {a b : ByteArray} (h : ¬ a = b) : (a.toList == b.toList) = false := by
  rw [beq_eq_false_iff_ne]
  intro e
  exact h (bytes_ext (by rw [← Go.ByteArray.toList_eq, ← Go.ByteArray.toList_eq]; exact e))
def wval (s : ByteArray) : Int := (wread s).getD 0
def werr (s : ByteArray) : Int := if (wread s).isSome = true then 0 else 3
theorem puOf_cand (l : List UInt8) (n : Nat) (h : puOf (unmark l) = some (some n)) : wcand l = some (2 * (n : Int) + (if (unmark l).length < l.length then 1 else 0)) ∧ n ≤ 9223372036854775807 := by
  unfold puOf at h
  by_cases he : unmark l = []
  · rw [if_pos he] at h; cases h
  · rw [if_neg he] at h
    exact ⟨by unfold wcand; rw [h]; simp only; rw [if_neg he], pu_le _ 0 n (by omega) h⟩
theorem puOf_none (s : ByteArray) (h : ∀ n, puOf (unmark s.data.toList) ≠ some (some n)) : wread s = none := by
  unfold wread wcand
  unfold puOf at h
  by_cases he : unmark s.data.toList = []
  · cases hp : pu 0 (unmark s.data.toList) with
    | none => rfl
    | some o => cases o with
      | none => rfl
      | some n => simp [he]
  · cases hp : pu 0 (unmark s.data.toList) with
    | none => rfl
    | some o => cases o with
      | none => rfl
      | some n =>
        have := h n
        rw [if_neg he, hp] at this
        exact absurd rfl this
theorem wread_of (s : ByteArray) (x : Int) (h : wcand s.data.toList = some x) : wread s = if wtext x = s then some x else none := by unfold wread; rw [h]
end Go.Proofs.YtipoklnoknkfhaaDoor

/- strconv.ParseUint at base 10 and 63 bits, of every text (turned from the shelf's walk at 64 bits). -/
import Derived.Test.YtipoklnoknkfhaaDoorBase
import Derived.Test.YtipoklnoknkfhaaDoorShelf
import Derived.Lib.Strings
import Derived.Lib.Walk
import Derived.Lib.ConvBytes
import Derived.Laws.Strings3
import Derived.Laws.Closers25
import Derived.Laws.Closers25b
import Derived.BigCall
import Derived.BigGuard
import Derived.Lib.AtoiErrMem
namespace Go.Proofs.YtipoklnoknkfhaaDoor
open Go Go.RowKit
set_option linter.unusedSimpArgs false
set_option linter.unusedVariables false

/-- what is read behind a number: none: a byte that is no digit; some none: too great a number -/
def pu (acc : Nat) : List UInt8 → Option (Option Nat)
  | [] => some (some acc)
  | c :: r => if 48 ≤ c.toNat ∧ c.toNat ≤ 57 then (if 9223372036854775807 < acc * 10 + (c.toNat - 48) then some none else pu (acc * 10 + (c.toNat - 48)) r) else none
def puVal : Option (Option Nat) → Value
  | none => .tuple #[.int .u64 0, .iface 219 (.int .i64 2)]
  | some none => .tuple #[.int .u64 9223372036854775807, .iface 219 (.int .i64 1)]
  | some (some n) => .tuple #[.int .u64 (n : Int), .nilIface]
set_option maxHeartbeats 32000000 in
set_option maxRecDepth 100000 in
theorem pu_in (t : ByteArray) (hne : t.size ≠ 0) (hmax : t.size ≤ 1000000) (w : World) :
    Calls Tryd.prog 165 #[.string t, .int .i64 10, .int .i64 63] w fun e w' => e = .returned (puVal (pu 0 t.data.toList)) ∧ w' = Lib.bytesWorld w 5 t := by
  have hemp : t.toList.isEmpty = false := by
    rw [← decide_eq_emptyBytes]
    exact decide_eq_false (fun h => hne (by rw [h]; rfl))
  have hcv := Lib.run_convert_string_bytes (P := Tryd.prog) w 9 160 5 t (u := .string) Tryd.underlying9 Tryd.underlying160 Tryd.underlying5
  have hB : ∀ j, j < t.size → (Lib.bytesWorld w 5 t).cell? ⟨w.heap.size, j, none⟩ = some (.int .u8 (t.data.toList.getD j 0).toNat) := fun j hj => Lib.bytesWorld_cell w 5 t j hj
  obtain ⟨W1, hW1⟩ : ∃ W1, W1 = Lib.bytesWorld w 5 t := ⟨_, rfl⟩
  rw [← hW1] at hcv hB ⊢
  clear hW1
  obtain ⟨bs, hL⟩ : ∃ bs, bs = t.data.toList := ⟨_, rfl⟩
  have hLn : bs.length = t.size := by rw [hL, Lib.size_eq]
  rw [← hL] at hB ⊢
  clear hL
  have hmv : IntKind.u64.wrap (IntKind.u64.wrap 9223372036854775808 - 1) = 9223372036854775807 := by
    rw [IntKind.wrap_u64, IntKind.wrap_u64]
    decide
  go_enter Tryd.func165, Tryd.ntmps165
  go_wp2
  go_loop [12, 13, 101] (fun vu vn vi => ∃ (k acc : Nat) (a : Int), vu = .bool false ∧ vn = .int .u64 a ∧ vi = .int .i64 k ∧ k ≤ t.size ∧ Hid (a = (acc : Int) ∧ acc ≤ 9223372036854775807 ∧ pu 0 bs = pu acc (bs.drop k)))
    (fun _ _ vi => t.size - (intOf vi).toNat)
  case atStart => exact ⟨0, 0, 0, rfl, rfl, rfl, by omega, rfl, by omega, rfl⟩
  case round =>
    obtain ⟨k, acc, a, rfl, rfl, rfl, hk, hh⟩ := hrel
    obtain ⟨ha, hacc, hdec⟩ := hh.out
    clear hh
    have a0 : 0 ≤ a := by omega
    have a1 : a ≤ 9223372036854775807 := by omega
    by_cases hkn : k < t.size
    · have hc := hB k hkn
      have hdrop : bs.drop k = bs[k]'(by omega) :: bs.drop (k + 1) := List.drop_eq_getElem_cons (by omega)
      have hget : bs.getD k 0 = bs[k]'(by omega) := by simp [List.getD, List.getElem?_eq_getElem (show k < bs.length by omega)]
      rw [hdrop] at hdec
      rw [hget] at hc
      generalize bs[k]'(by omega) = c at hc hdec
      have hc256 : c.toNat < 256 := c.toNat_lt
      clear hB hdrop hget
      by_cases hdig : 48 ≤ c.toNat ∧ c.toNat ≤ 57
      · obtain ⟨hd0, hd1⟩ := hdig
        by_cases hov : 9223372036854775807 < acc * 10 + (c.toNat - 48)
        · have hF : pu acc (c :: bs.drop (k + 1)) = some none := by simp [pu, hd0, hd1, hov]
          rw [hF] at hdec
          have HD := Lib.hid hdec
          by_cases hcut : 1844674407370955162 ≤ acc
          · have icut : 1844674407370955162 ≤ a := by omega
            clear hcut hacc hF ha hov hdec
            go_wp2
            go_ret2
            exact ⟨by rw [HD.out]; rfl, rfl⟩
          · have icut : a < 1844674407370955162 := by omega
            by_cases h64 : 18446744073709551616 ≤ acc * 10 + (c.toNat - 48)
            · have iov : 18446744073709551616 ≤ a * 10 + ((c.toNat : Int) - 48) := by omega
              have hwr : IntKind.u64.wrap (a * 10 + ((c.toNat : Int) - 48)) = a * 10 + ((c.toNat : Int) - 48) - 18446744073709551616 := by
                rw [IntKind.wrap_u64]
                omega
              clear hcut hacc hF hov ha h64 hdec
              go_wp2
              go_ret2
              exact ⟨by rw [HD.out]; rfl, rfl⟩
            · have iov : a * 10 + ((c.toNat : Int) - 48) < 18446744073709551616 := by omega
              have iov2 : 9223372036854775807 < a * 10 + ((c.toNat : Int) - 48) := by omega
              clear hcut hacc hF hov ha h64 hdec
              go_wp2
              go_ret2
              exact ⟨by rw [HD.out]; rfl, rfl⟩
        · have hF : pu acc (c :: bs.drop (k + 1)) = pu (acc * 10 + (c.toNat - 48)) (bs.drop (k + 1)) := by simp [pu, hd0, hd1, hov]
          have HN : Hid (a * 10 + ((c.toNat : Int) - 48) = ((acc * 10 + (c.toNat - 48) : Nat) : Int) ∧ acc * 10 + (c.toNat - 48) ≤ 9223372036854775807 ∧ pu 0 bs = pu (acc * 10 + (c.toNat - 48)) (bs.drop (k + 1))) := Lib.hid ⟨by omega, by omega, hdec.trans hF⟩
          have icut : a < 1844674407370955162 := by omega
          have iov : a * 10 + ((c.toNat : Int) - 48) ≤ 9223372036854775807 := by omega
          clear hacc hF hov hdec ha
          go_wp2
          refine ⟨⟨k + 1, acc * 10 + (c.toNat - 48), a * 10 + ((c.toNat : Int) - 48), rfl, (by first | rfl | (congr 1; omega)), (by first | rfl | (congr 1; omega)), by omega, HN⟩, by simp [intOf]; omega⟩
      · have hF : pu acc (c :: bs.drop (k + 1)) = none := by simp [pu, hdig]
        rw [hF] at hdec
        have HD := Lib.hid hdec
        clear hacc hF ha hdec
        have hv0 := bits_lo_u8 .or (c.toNat : Int) 32
        have hv1 := bits_hi_u8 .or (c.toNat : Int) 32
        have hu0 := bits_lo_u8 .or 95 32
        have hu1 := bits_hi_u8 .or 95 32
        go_wp2_with (go_at_call 175; refine (Tryd.internal_strconv_lower _ _).mono ?_; rintro e w' ⟨rfl, rfl⟩)
        all_goals go_ret2
        all_goals exact ⟨by rw [HD.out]; rfl, rfl⟩
    · have hkk : k = t.size := by omega
      subst hkk
      have hF : pu acc (bs.drop t.size) = some (some acc) := by rw [List.drop_eq_nil_of_le (by omega)]; rfl
      rw [hF] at hdec
      have HD := Lib.hid hdec
      subst ha
      clear hacc hF a0 a1 hdec
      go_wp2
      go_ret2
      exact ⟨by rw [HD.out]; rfl, rfl⟩
end Go.Proofs.YtipoklnoknkfhaaDoor

/- The reference's numerals: digits and Digits. -/
import Derived.Test.YtipoklnoknkfhaaDoorDec
import Derived.Laws.IdiomStrings
import Derived.IntWalk
import Derived.Lib.ItoaLen
namespace Go.Proofs.YtipoklnoknkfhaaDoor
open Go Go.RowKit
set_option linter.unusedSimpArgs false
set_option linter.unusedVariables false

theorem ret_str {a b : ByteArray} (h : a = b) : Ending.returned (.string a) = .returned (.string b) := by rw [h]
theorem bytes_ext {a b : ByteArray} (h : a.data.toList = b.data.toList) : a = b := by
  cases a; cases b
  congr 1
  exact Array.toList_inj.1 h
theorem bytes_len (t : ByteArray) : t.data.toList.length = t.size := Array.length_toList
theorem one_byte (W : World) (E : TypeId) (n : Nat) (h : n < 10) : ∀ j (hj : j < ([UInt8.ofNat (48 + n)] : List UInt8).length), (W.alloc (.cells #[.int .u8 ((48 : Int) + n)] E)).cell? ((⟨W.heap.size, 0, none⟩ : Addr).add j) = some (.int .u8 (([UInt8.ofNat (48 + n)] : List UInt8)[j].toNat : Int)) := by
  intro j hj
  have h0 : j = 0 := by simpa using hj
  subst h0
  have e : (⟨W.heap.size, 0, none⟩ : Addr).add 0 = ⟨W.heap.size, 0, none⟩ := by unfold Addr.add; simp
  rw [e, cell_of_block (heap_alloc_new W _)]
  simp only [List.getElem_cons_zero, dd_byte h]
  simp
set_option maxHeartbeats 1000000 in
set_option maxRecDepth 20000 in
theorem refdigits_any (w : World) (n : Nat) (h : n < 18446744073709551616) :
    Calls Tryd.prog 77 #[.int .u64 n] w fun e w' => e = .returned (.string (dec n)) ∧ Below w.heap.size w w' := by
  obtain ⟨a0, ha0⟩ : ∃ a : Int, a = n := ⟨_, rfl⟩
  have H0 := Lib.hid (And.intro ha0 h)
  rw [← ha0]
  clear ha0 h
  go_enter Tryd.func77, Tryd.ntmps77
  go_wp2_with fail
  go_loopw [0, 3] (fun m s wr => ∃ (a : Int) (t : ByteArray), m = .int .u64 a ∧ s = .string t ∧ Hid (0 ≤ a ∧ a < 18446744073709551616 ∧ Lib.decDigits n = Lib.decDigits a.toNat ++ t.data.toList) ∧ Below w.heap.size w wr) (fun m _ _ => (intOf m).toNat)
  case atStart => exact ⟨a0, ⟨#[]⟩, rfl, rfl, by have := H0.out; refine ⟨by omega, by omega, ?_⟩; rw [this.1]; simp, Below.refl _ _⟩
  case round =>
    obtain ⟨a, t, rfl, rfl, HD, hb⟩ := hrel
    have HB := Lib.hid hb
    clear hb
    have h0 := HD.out.1
    have hlt := HD.out.2.1
    have hts : t.size ≤ 20 := by
      have h1 := congrArg List.length HD.out.2.2
      rw [List.length_append, Lib.decDigits_length, Lib.decDigits_length] at h1
      have h2 := Lib.nDigits_le20 n H0.out.2
      have h3 : t.data.toList.length = t.size := bytes_len t
      omega
    have hm0 : 0 ≤ a % 10 := by omega
    have hm1 : a % 10 < 10 := by omega
    obtain ⟨m, hm⟩ : ∃ m : Nat, a = m := ⟨a.toNat, by omega⟩
    obtain ⟨c, hc⟩ : ∃ c : UInt8, c = UInt8.ofNat (48 + m % 10) := ⟨_, rfl⟩
    have hcv : (convert 160 9 (.slice (some ⟨wr.heap.size, 0, none⟩) 1 1)).run Tryd.prog (wr.alloc (.cells #[.int .u8 (48 + a % 10)] 5)) = .ok (.string ⟨#[c]⟩) (wr.alloc (.cells #[.int .u8 (48 + a % 10)] 5)) := by
      have h := run_convert_bytes_back (P := Tryd.prog) (wr.alloc (.cells #[.int .u8 ((48 : Int) + ((m % 10 : Nat) : Int))] 5)) 160 9 5 ⟨wr.heap.size, 0, none⟩ 1 [UInt8.ofNat (48 + m % 10)] Tryd.underlying160 Tryd.underlying5 Tryd.underlying9 (one_byte wr 5 (m % 10) (by omega))
      rw [show a % 10 = ((m % 10 : Nat) : Int) by omega, hc]
      exact h
    have HM := Lib.hid hm
    have HC := Lib.hid hc
    clear hc
    have HB2 : Hid (Below w.heap.size w (wr.alloc (.cells #[.int .u8 (48 + a % 10)] 5))) := HB.out.alloc HB.out.size _
    clear hm
    by_cases hz : a < 10
    · have d0 : (a / 10 == 0) = true := by rw [beq_iff_eq]; omega
      have HE : Hid (Lib.decDigits n = [c] ++ t.data.toList) := by
        unfold Hid
        rw [HC.out, HD.out.2.2, show a.toNat = m by have := HM.out; omega, dd_small (by have := HM.out; omega), show m % 10 = m by have := HM.out; omega]
      clear hz hm0 hm1
      go_wp2_with fail
      go_ret
      refine ⟨ret_str (bytes_ext ?_), HB2.out⟩
      rw [ByteArray.data_append, Array.toList_append]
      exact HE.out.symm
    · have d0 : (a / 10 == 0) = false := by rw [beq_eq_false_iff_ne]; omega
      have HE : Hid (0 ≤ a / 10 ∧ a / 10 < 18446744073709551616 ∧ Lib.decDigits n = Lib.decDigits (a / 10).toNat ++ ((⟨#[c]⟩ : ByteArray) ++ t).data.toList) := by
        have h1 := HD.out
        have h2 := HM.out
        refine ⟨by omega, by omega, ?_⟩
        rw [h1.2.2, show a.toNat = m by omega, dd_big (n := m) (by omega), show (a / 10).toNat = m / 10 by omega, ByteArray.data_append, Array.toList_append, List.append_assoc, HC.out]
      have hz2 : 10 ≤ a := by omega
      clear hz hm0 hm1
      go_wp2_with fail
      go_roundw
      case rel => exact ⟨a / 10, _, rfl, rfl, HE.out, HB2.out⟩
      case measure => simp [intOf]; omega
theorem refDigits_any (w : World) (n : Int) (h0 : 0 ≤ n) (h : n < 9223372036854775808) :
    Calls Tryd.prog 41 #[.int .i64 n] w fun e w' => e = .returned (.string (dec n.toNat)) ∧ Below w.heap.size w w' := by
  obtain ⟨k, rfl⟩ : ∃ k : Nat, n = k := ⟨n.toNat, by omega⟩
  go_enter Tryd.func41, Tryd.ntmps41
  go_wp2_with fail
  refine (refdigits_any _ k (by omega)).mono ?_
  rintro e w' ⟨rfl, hb⟩
  go_wp2_with fail
  go_ret
  exact ⟨by simp, hb⟩
end Go.Proofs.YtipoklnoknkfhaaDoor

/- The document's text of a number. -/
import Derived.Test.YtcheafeaioflmaaDoorDigits
import Derived.Test.YtcheafeaioflmaaDoorOpText
namespace Go.Proofs.YtcheafeaioflmaaDoor
open Go Go.RowKit
set_option linter.unusedSimpArgs false
set_option linter.unusedVariables false

theorem otx_pos (n : Nat) : otx (n : Int) = dec n := by
  refine bytes_ext ?_
  show (Lib.itoa (n : Int)).toArray.toList = (Lib.decDigits n).toArray.toList
  rw [List.toList_toArray, List.toList_toArray]
  unfold Lib.itoa
  rw [if_neg (by omega), Int.toNat_natCast]
theorem otx_neg (m : Nat) (h : 0 < m) : otx (-(m : Int)) = ⟨#[45]⟩ ++ dec m := by
  refine bytes_ext ?_
  show (Lib.itoa (-(m : Int))).toArray.toList = _
  rw [List.toList_toArray]
  unfold Lib.itoa
  rw [if_pos (by omega), show (-(m : Int)).natAbs = m by omega]
  simp [dec, ByteArray.data_append]
theorem otx_next (m : Nat) (h : 10 ≤ m) : otx (-(m : Int)) = otx (-((m / 10 : Nat) : Int)) ++ dec (m % 10) := by
  rw [otx_neg m (by omega), otx_neg (m / 10) (by omega)]
  refine bytes_ext ?_
  simp only [ByteArray.data_append, Array.toList_append, dec, List.toList_toArray]
  rw [dd_big (n := m) (by omega), dd_small (n := m % 10) (by omega), List.append_assoc]
set_option maxHeartbeats 4000000 in
theorem num_pos (w : World) (n : Nat) (h : n < 9223372036854775808) :
    Calls Tryd.prog 88 #[.int .i64 (n : Int)] w fun e w' => e = .returned (.string (otx (n : Int))) ∧ Below w.heap.size w w' := by
  have j1 : decide ((0 : Int) ≤ (n : Int)) = true := by simp
  have HD := Lib.hid (fun W => refDigits_any W (n : Int) (by omega) (by omega))
  rw [Int.toNat_natCast, ← otx_pos] at HD
  go_enter Tryd.func88, Tryd.ntmps88
  go_wp2_with fail
  refine (HD.out _).mono ?_
  rintro e w' ⟨rfl, hb⟩
  have HB := Lib.hid hb
  clear hb
  go_wp2_with fail
  go_ret
  exact ⟨rfl, HB.out⟩
set_option maxHeartbeats 4000000 in
theorem num_neg (m : Nat) : 0 < m → m ≤ 9223372036854775808 → ∀ w : World,
    Calls Tryd.prog 88 #[.int .i64 (-(m : Int))] w fun e w' => e = .returned (.string (otx (-(m : Int)))) ∧ Below w.heap.size w w' := by
  induction m using Nat.strongRecOn with
  | _ m ih =>
    intro h0 h1 w
    obtain ⟨n, hn⟩ : ∃ n : Int, n = -(m : Int) := ⟨_, rfl⟩
    have j1 : decide ((0 : Int) ≤ n) = false := by simp; omega
    by_cases h10 : m < 10
    · have j2 : decide (-10 < n) = true := by simp; omega
      have HE : Hid (otx (-(m : Int)) = ⟨#[45]⟩ ++ dec m) := otx_neg m h0
      have HD := Lib.hid (fun W => refDigits_any W (m : Int) (by omega) (by omega))
      rw [Int.toNat_natCast] at HD
      have hz := (dec_size m (by omega)).2
      have hz1 : ¬ 9223372036854775807 < 1 + (dec m).size := by omega
      have s1 : IntKind.i64.wrap (-n) = (m : Int) := by rw [IntWalk.i64_in _ (by omega)]; omega
      rw [HE.out, ← hn]
      generalize dec m = d at *
      clear hn ih
      go_enter Tryd.func88, Tryd.ntmps88
      go_wp2_with fail
      refine (HD.out _).mono ?_
      rintro e w' ⟨rfl, hb⟩
      have HB := Lib.hid hb
      clear hb
      go_wp2_with fail
      go_ret
      exact ⟨rfl, HB.out⟩
    · have j2 : decide (-10 < n) = false := by simp; omega
      obtain ⟨q, hq⟩ : ∃ q : Int, q = -((m / 10 : Nat) : Int) := ⟨_, rfl⟩
      obtain ⟨r, hr⟩ : ∃ r : Nat, r = m % 10 := ⟨_, rfl⟩
      have HE : Hid (otx (-(m : Int)) = otx q ++ dec r) := by rw [hq, hr]; exact otx_next m (by omega)
      have HD := Lib.hid (fun W => refDigits_any W (r : Int) (by omega) (by omega))
      rw [Int.toNat_natCast] at HD
      have HI : Hid (∀ W, Calls Tryd.prog 88 #[.int .i64 q] W fun e w' => e = .returned (.string (otx q)) ∧ Below W.heap.size W w') := by rw [hq]; exact ih (m / 10) (by omega) (by omega) (by omega)
      have hz := (dec_size r (by omega)).2
      have hz2 := otx_size q (by omega)
      have hz1 : ¬ 9223372036854775807 < (otx q).size + (dec r).size := by omega
      have t1 : n.tdiv 10 = q := by rw [hn, hq, Int.neg_tdiv]; rfl
      have t2 : n.tmod 10 = -(r : Int) := by rw [hn, hr, Int.neg_tmod]; rfl
      have s1 : IntKind.i64.wrap q = q := IntWalk.i64_in _ (by omega)
      have s2 : IntKind.i64.wrap (-(r : Int)) = -(r : Int) := IntWalk.i64_in _ (by omega)
      have s3 : IntKind.i64.wrap (r : Int) = (r : Int) := IntWalk.i64_in _ (by omega)
      rw [HE.out, ← hn]
      generalize dec r = d at *
      generalize otx q = tq at *
      clear hn ih hq hr
      go_enter Tryd.func88, Tryd.ntmps88
      go_wp2_with fail
      refine (HI.out _).mono ?_
      rintro e w2 ⟨rfl, hb⟩
      have HB2 := Lib.hid hb
      clear hb
      go_wp2_with fail
      refine (HD.out _).mono ?_
      rintro e w3 ⟨rfl, hb⟩
      have HB3 : Hid (Below w.heap.size w w3) := HB2.out.trans (hb.mono HB2.out.size)
      clear hb
      go_wp2_with fail
      go_ret
      exact ⟨rfl, HB3.out⟩
theorem num_any (w : World) (n : Int) (h : -9223372036854775808 ≤ n ∧ n ≤ 9223372036854775807) :
    Calls Tryd.prog 88 #[.int .i64 n] w fun e w' => e = .returned (.string (otx n)) ∧ Below w.heap.size w w' := by
  by_cases h0 : 0 ≤ n
  · obtain ⟨k, rfl⟩ : ∃ k : Nat, n = k := ⟨n.toNat, by omega⟩
    exact num_pos w k (by omega)
  · obtain ⟨k, rfl⟩ : ∃ k : Nat, n = -(k : Int) := ⟨(-n).toNat, by omega⟩
    exact num_neg k (by omega) (by omega) w
end Go.Proofs.YtcheafeaioflmaaDoor

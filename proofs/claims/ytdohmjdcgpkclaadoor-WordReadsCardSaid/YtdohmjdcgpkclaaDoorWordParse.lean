/- The word of a text: word.Parse at any text, and the reference's text of a word. -/
import Derived.Test.YtdohmjdcgpkclaaDoorWordText
import Derived.Test.YtdohmjdcgpkclaaDoorDigits
import Derived.Shelf.Strings.SlTrimAscii
import Derived.Lib.SmallJoins
namespace Go.Proofs.YtdohmjdcgpkclaaDoor
open Go Go.RowKit
set_option linter.unusedSimpArgs false
set_option linter.unusedVariables false

/-- the library's two errors are there -/
def Errs (w : World) : Prop := (∃ ev, w.cell? ⟨1, 0, none⟩ = some ev ∧ (ev = .nilIface ∨ ∃ te pe, ev = .iface te pe)) ∧ (∃ ev, w.cell? ⟨2, 0, none⟩ = some ev ∧ (ev = .nilIface ∨ ∃ te pe, ev = .iface te pe))
theorem Errs.below {w w' : World} {B : Nat} (h : Errs w) (hB : w.heap.size ≤ B) (hb : Below B w w') : Errs w' := by
  obtain ⟨⟨e1, c1, h1⟩, ⟨e2, c2, h2⟩⟩ := h
  have l1 := World.block_lt_of_cell? w _ c1
  have l2 := World.block_lt_of_cell? w _ c2
  exact ⟨⟨e1, (hb.cell (Nat.lt_of_lt_of_le l1 hB)).trans c1, h1⟩, ⟨e2, (hb.cell (Nat.lt_of_lt_of_le l2 hB)).trans c2, h2⟩⟩
theorem reftext_any (w : World) (a : Int) (h0 : 0 ≤ a) (h1 : a < 18446744073709551616) :
    Calls Tryd.prog 18 #[.int .u64 a] w fun e w' => e = .returned (.string (wtext a)) ∧ Below w.heap.size w w' := by
  obtain ⟨u, hu⟩ : ∃ u : Nat, a / 2 = u := ⟨(a / 2).toNat, by omega⟩
  have F := Lib.hid (refdigits_any w u (by omega))
  obtain ⟨hd1, hd2⟩ := dec_size u (by omega)
  have ee : (a / 2).toNat = u := by omega
  have hz : ¬ 9223372036854775807 < 1 + (dec u).size := by omega
  rcases Int.emod_two_eq a with h | h
  · have et : Hid (wtext a = dec u) := by unfold Hid wtext; rw [if_neg (by omega), ee]
    have e1 : (a % 2 == 0) = true := by rw [h]; rfl
    clear ee h
    go_enter Tryd.func18, Tryd.ntmps18
    go_wp2_with fail
    refine F.out.mono ?_
    rintro e w' ⟨rfl, hb⟩
    have HB := Lib.hid hb
    clear hb
    go_wp2_with fail
    go_ret
    exact ⟨by rw [et.out]; rfl, HB.out⟩
  · have e1 : (a % 2 == 0) = false := by rw [h]; rfl
    by_cases h2 : a < 8192
    · have et : Hid (wtext a = ⟨#[35]⟩ ++ dec u) := by unfold Hid wtext wpre; rw [if_pos h, if_pos h, if_pos h2, ee]
      have d2 : decide (a < 8192) = true := by simpa using h2
      clear ee h h2
      go_enter Tryd.func18, Tryd.ntmps18
      go_wp2_with fail
      refine F.out.mono ?_
      rintro e w' ⟨rfl, hb⟩
      have HB := Lib.hid hb
      clear hb
      go_wp2_with fail
      go_ret
      exact ⟨by rw [et.out]; rfl, HB.out⟩
    · have et : Hid (wtext a = ⟨#[63]⟩ ++ dec u) := by unfold Hid wtext wpre; rw [if_pos h, if_pos h, if_neg h2, ee]
      have d2 : decide (a < 8192) = false := by simpa using h2
      clear ee h h2
      go_enter Tryd.func18, Tryd.ntmps18
      go_wp2_with fail
      refine F.out.mono ?_
      rintro e w' ⟨rfl, hb⟩
      have HB := Lib.hid hb
      clear hb
      go_wp2_with fail
      go_ret
      exact ⟨by rw [et.out]; rfl, HB.out⟩
/-! ### ParseUint, the public one -/
set_option maxRecDepth 100000 in
theorem pu_empty (w : World) : Calls Tryd.prog 109 #[.string ⟨#[]⟩, .int .i64 10, .int .i64 63] w fun e w' => e = .returned (puVal none) ∧ w' = w := by
  go_enter Tryd.func109, Tryd.ntmps109
  go_wp2
  go_ret2
  exact ⟨rfl, rfl⟩
/-- the number of a text that is not empty -/
def puOf (l : List UInt8) : Option (Option Nat) := if l = [] then none else pu 0 l
theorem pu_any (t : ByteArray) (hmax : t.size ≤ 1000000) (w : World) :
    Calls Tryd.prog 109 #[.string t, .int .i64 10, .int .i64 63] w fun e w' => e = .returned (puVal (puOf t.data.toList)) ∧ Below w.heap.size w w' := by
  by_cases h0 : t.size = 0
  · have ht : t = ⟨#[]⟩ := by
      apply ByteArray.ext
      exact Array.eq_empty_of_size_eq_zero h0
    subst ht
    refine (pu_empty w).mono fun e w' ⟨he, hw⟩ => ?_
    subst hw
    exact ⟨he, Below.refl _ _⟩
  · have hne : t.data.toList ≠ [] := fun h => h0 (by rw [← bytes_len, h]; rfl)
    refine (pu_in t h0 hmax w).mono fun e w' ⟨he, hw⟩ => ?_
    subst hw
    exact ⟨by rw [he]; unfold puOf; rw [if_neg hne], Lib.bytesWorld_below _ _ _⟩
def PuErr (w : World) (e : Ending) (w' : World) : Prop := ∃ v N, e = .returned (.tuple #[.int .u64 v, .iface 173 (.pointer (some ⟨N, 0, none⟩))]) ∧ Below w.heap.size w w'
theorem puint_ok (t : ByteArray) (hmax : t.size ≤ 1000000) (n : Nat) (h : puOf t.data.toList = some (some n)) (w : World) :
    Calls Tryd.prog 70 #[.string t, .int .i64 10, .int .i64 63] w fun e w' => e = .returned (.tuple #[.int .u64 (n : Int), .nilIface]) ∧ Below w.heap.size w w' := by
  have H := Lib.hid h
  clear h
  go_enter Tryd.func70, Tryd.ntmps70
  go_wp2_with fail
  refine (pu_any t hmax _).mono ?_
  rw [H.out]
  rintro e w1 ⟨rfl, hb⟩
  have HB := Lib.hid hb
  clear hb
  unfold puVal
  go_wp2_with fail
  go_ret2
  exact ⟨rfl, HB.out⟩
theorem puint_err (t : ByteArray) (hmax : t.size ≤ 1000000) (h : ∀ n, puOf t.data.toList ≠ some (some n)) (w : World) (he : Errs w) :
    Calls Tryd.prog 70 #[.string t, .int .i64 10, .int .i64 63] w (PuErr w) := by
  have HE := Lib.hid he
  clear he
  cases hp : puOf t.data.toList with
  | none =>
    have H := Lib.hid hp
    clear h hp
    go_enter Tryd.func70, Tryd.ntmps70
    go_wp2_with fail
    refine (pu_any t hmax _).mono ?_
    rw [H.out]
    rintro e w1 ⟨rfl, hb⟩
    obtain ⟨ev, hc, hev⟩ := (HE.out.below (Nat.le_refl _) hb).1
    have HB := Lib.hid hb
    have HC := Lib.hid (And.intro hc hev)
    clear hb hc hev
    unfold puVal
    go_wp2_with fail
    refine (Tryd.strconv_toError_syntax _ t _ _ ev _ (by omega) HC.out.1 HC.out.2).mono ?_
    rintro e w2 ⟨N, rfl, hN, hw, hb⟩
    have HB2 : Hid (Below w.heap.size w w2) := HB.out.trans (hb.mono HB.out.size)
    clear hb hw hN
    go_wp2_with fail
    go_ret2
    exact ⟨_, _, rfl, HB2.out⟩
  | some o =>
    cases o with
    | some n => exact absurd hp (h n)
    | none =>
      have H := Lib.hid hp
      clear h hp
      go_enter Tryd.func70, Tryd.ntmps70
      go_wp2_with fail
      refine (pu_any t hmax _).mono ?_
      rw [H.out]
      rintro e w1 ⟨rfl, hb⟩
      obtain ⟨ev, hc, hev⟩ := (HE.out.below (Nat.le_refl _) hb).2
      have HB := Lib.hid hb
      have HC := Lib.hid (And.intro hc hev)
      clear hb hc hev
      unfold puVal
      go_wp2_with fail
      refine (Tryd.strconv_toError_range _ t _ _ ev _ (by omega) HC.out.1 HC.out.2).mono ?_
      rintro e w2 ⟨N, rfl, hN, hw, hb⟩
      have HB2 : Hid (Below w.heap.size w w2) := HB.out.trans (hb.mono HB.out.size)
      clear hb hw hN
      go_wp2_with fail
      go_ret2
      exact ⟨_, _, rfl, HB2.out⟩
/-! ### TrimLeft -/
theorem trim_any (t : ByteArray) (w : World) :
    Calls Tryd.prog 69 #[.string t, .string ⟨#[35, 63]⟩] w fun e w' => e = .returned (.string ⟨(unmark t.data.toList).toArray⟩) ∧ Below w.heap.size w w' :=
  Any.strings_TrimLeft_laid Tryd.lays161 (by kernel_rfl) t ⟨#[35, 63]⟩ w (by decide) (ascii_of_all (by decide))
/-! ### Parse -/
theorem str_eqT {a b : ByteArray} (h : a = b) : (a.toList == b.toList) = true := by rw [h]; simp
theorem str_neT {a b : ByteArray} (h : ¬ a = b) : (a.toList == b.toList) = false := by
  rw [beq_eq_false_iff_ne]
  intro e
  exact h (bytes_ext (by rw [← Go.ByteArray.toList_eq, ← Go.ByteArray.toList_eq]; exact e))
def wval (s : ByteArray) : Int := (wread s).getD 0
def werr (s : ByteArray) : Int := if (wread s).isSome = true then 0 else 3
theorem puOf_cand (l : List UInt8) (n : Nat) (h : puOf (unmark l) = some (some n)) : wcand l = some (2 * (n : Int) + (if (unmark l).length < l.length then 1 else 0)) ∧ n ≤ 9223372036854775807 := by
  unfold puOf at h
  by_cases he : unmark l = []
  · rw [if_pos he] at h; cases h
  · rw [if_neg he] at h
    exact ⟨by unfold wcand; rw [h]; simp only; rw [if_neg he], pu_le _ 0 n (by omega) h⟩
theorem puOf_none (s : ByteArray) (h : ∀ n, puOf (unmark s.data.toList) ≠ some (some n)) : wread s = none := by
  unfold wread wcand
  unfold puOf at h
  by_cases he : unmark s.data.toList = []
  · cases hp : pu 0 (unmark s.data.toList) with
    | none => rfl
    | some o => cases o with
      | none => rfl
      | some n => simp [he]
  · cases hp : pu 0 (unmark s.data.toList) with
    | none => rfl
    | some o => cases o with
      | none => rfl
      | some n =>
        have := h n
        rw [if_neg he, hp] at this
        exact absurd rfl this
theorem wread_of (s : ByteArray) (x : Int) (h : wcand s.data.toList = some x) : wread s = if wtext x = s then some x else none := by unfold wread; rw [h]
set_option maxHeartbeats 1000000 in
theorem wparse_any (w : World) (s : ByteArray) (hs : s.size ≤ 100000) (ht : Tens w) (he : Errs w) :
    Calls Tryd.prog 17 #[.string s] w fun e w' => e = .returned (.tuple #[.int .u64 (wval s), .int .i64 (werr s)]) ∧ Below w.heap.size w w' := by
  have HT : Hid (Tens w) := ht
  have HE : Hid (Errs w) := he
  clear ht he
  have hl : (unmark s.data.toList).length ≤ s.size := by
    rw [← bytes_len s]
    exact (List.dropWhile_sublist _).length_le
  obtain ⟨D, hD⟩ : ∃ D : ByteArray, D = ⟨(unmark s.data.toList).toArray⟩ := ⟨_, rfl⟩
  have hDl : D.data.toList = unmark s.data.toList := by rw [hD]
  have hDs : D.size = (unmark s.data.toList).length := by rw [← bytes_len D, hDl]
  have HTR := Lib.hid (trim_any s w)
  rw [← hD] at HTR
  have HDL := Lib.hid hDl
  clear hD hDl
  by_cases hok : ∃ n, puOf (unmark s.data.toList) = some (some n)
  · obtain ⟨n, hn⟩ := hok
    obtain ⟨hc, hn63⟩ := puOf_cand _ n hn
    have HPU := Lib.hid (fun W => puint_ok D (by omega) n (by rw [HDL.out]; exact hn) W)
    obtain ⟨a, ha⟩ : ∃ a : Int, a = n := ⟨_, rfl⟩
    rw [← ha] at HPU hc
    have a0 : 0 ≤ a := by omega
    have a1 : a ≤ 9223372036854775807 := by omega
    have eo := or_one a a0 (by omega)
    rw [← hDs, bytes_len] at hc
    clear hn hn63 ha n hl hDs
    by_cases hlt : D.size < s.size
    · rw [if_pos hlt] at hc
      have hr := wread_of s _ hc
      have dl : decide (D.size < s.size) = true := by simpa using hlt
      have htx := Lib.hid (fun W (h : Tens W) => text_any W (a * 2 + 1) (by omega) (by omega) h)
      by_cases hts : wtext (2 * a + 1) = s
      · have HV : Hid (wval s = a * 2 + 1 ∧ werr s = 0) := by
          unfold Hid wval werr
          rw [hr, if_pos hts]
          exact ⟨by simp; omega, by simp⟩
        have te : ((wtext (a * 2 + 1)).toList == s.toList) = true := str_eqT (by rw [show a * 2 + 1 = 2 * a + 1 by omega]; exact hts)
        clear hr hc hts hlt
        go_enter Tryd.func17, Tryd.ntmps17
        go_wp2_with fail
        refine HTR.out.mono ?_
        rintro e w1 ⟨rfl, hb⟩
        have HB1 := Lib.hid hb
        clear hb
        go_wp2_with fail
        refine (HPU.out _).mono ?_
        rintro e w2 ⟨rfl, hb⟩
        have HB2 : Hid (Below w.heap.size w w2) := HB1.out.trans (hb.mono HB1.out.size)
        clear hb
        go_wp2_with fail
        refine (htx.out _ (HT.out.below (Nat.le_refl _) HB2.out)).mono ?_
        rintro e w3 ⟨rfl, hb⟩
        have HB3 : Hid (Below w.heap.size w w3) := HB2.out.trans (hb.mono HB2.out.size)
        clear hb
        go_wp2_with fail
        go_ret2
        exact ⟨by rw [HV.out.1, HV.out.2]; rfl, HB3.out⟩
      · have HV : Hid (wval s = 0 ∧ werr s = 3) := by
          unfold Hid wval werr
          rw [hr, if_neg hts]
          exact ⟨by simp, by simp⟩
        have te : ((wtext (a * 2 + 1)).toList == s.toList) = false := str_neT (by rw [show a * 2 + 1 = 2 * a + 1 by omega]; exact hts)
        clear hr hc hts hlt
        go_enter Tryd.func17, Tryd.ntmps17
        go_wp2_with fail
        refine HTR.out.mono ?_
        rintro e w1 ⟨rfl, hb⟩
        have HB1 := Lib.hid hb
        clear hb
        go_wp2_with fail
        refine (HPU.out _).mono ?_
        rintro e w2 ⟨rfl, hb⟩
        have HB2 : Hid (Below w.heap.size w w2) := HB1.out.trans (hb.mono HB1.out.size)
        clear hb
        go_wp2_with fail
        refine (htx.out _ (HT.out.below (Nat.le_refl _) HB2.out)).mono ?_
        rintro e w3 ⟨rfl, hb⟩
        have HB3 : Hid (Below w.heap.size w w3) := HB2.out.trans (hb.mono HB2.out.size)
        clear hb
        go_wp2_with fail
        go_ret2
        exact ⟨by rw [HV.out.1, HV.out.2]; rfl, HB3.out⟩
    · rw [if_neg hlt] at hc
      have hr := wread_of s _ hc
      have dl : decide (D.size < s.size) = false := by simpa using hlt
      have htx := Lib.hid (fun W (h : Tens W) => text_any W (a * 2) (by omega) (by omega) h)
      by_cases hts : wtext (2 * a + 0) = s
      · have HV : Hid (wval s = a * 2 ∧ werr s = 0) := by
          unfold Hid wval werr
          rw [hr, if_pos hts]
          exact ⟨by simp; omega, by simp⟩
        have te : ((wtext (a * 2)).toList == s.toList) = true := str_eqT (by rw [show a * 2 = 2 * a + 0 by omega]; exact hts)
        clear hr hc hts hlt
        go_enter Tryd.func17, Tryd.ntmps17
        go_wp2_with fail
        refine HTR.out.mono ?_
        rintro e w1 ⟨rfl, hb⟩
        have HB1 := Lib.hid hb
        clear hb
        go_wp2_with fail
        refine (HPU.out _).mono ?_
        rintro e w2 ⟨rfl, hb⟩
        have HB2 : Hid (Below w.heap.size w w2) := HB1.out.trans (hb.mono HB1.out.size)
        clear hb
        go_wp2_with fail
        refine (htx.out _ (HT.out.below (Nat.le_refl _) HB2.out)).mono ?_
        rintro e w3 ⟨rfl, hb⟩
        have HB3 : Hid (Below w.heap.size w w3) := HB2.out.trans (hb.mono HB2.out.size)
        clear hb
        go_wp2_with fail
        go_ret2
        exact ⟨by rw [HV.out.1, HV.out.2]; rfl, HB3.out⟩
      · have HV : Hid (wval s = 0 ∧ werr s = 3) := by
          unfold Hid wval werr
          rw [hr, if_neg hts]
          exact ⟨by simp, by simp⟩
        have te : ((wtext (a * 2)).toList == s.toList) = false := str_neT (by rw [show a * 2 = 2 * a + 0 by omega]; exact hts)
        clear hr hc hts hlt
        go_enter Tryd.func17, Tryd.ntmps17
        go_wp2_with fail
        refine HTR.out.mono ?_
        rintro e w1 ⟨rfl, hb⟩
        have HB1 := Lib.hid hb
        clear hb
        go_wp2_with fail
        refine (HPU.out _).mono ?_
        rintro e w2 ⟨rfl, hb⟩
        have HB2 : Hid (Below w.heap.size w w2) := HB1.out.trans (hb.mono HB1.out.size)
        clear hb
        go_wp2_with fail
        refine (htx.out _ (HT.out.below (Nat.le_refl _) HB2.out)).mono ?_
        rintro e w3 ⟨rfl, hb⟩
        have HB3 : Hid (Below w.heap.size w w3) := HB2.out.trans (hb.mono HB2.out.size)
        clear hb
        go_wp2_with fail
        go_ret2
        exact ⟨by rw [HV.out.1, HV.out.2]; rfl, HB3.out⟩
  · have hno : ∀ n, puOf (unmark s.data.toList) ≠ some (some n) := fun n h => hok ⟨n, h⟩
    have HR := Lib.hid (puOf_none s hno)
    have HPU := Lib.hid (fun W (h : Errs W) => puint_err D (by omega) (by rw [HDL.out]; exact hno) W h)
    have HV : Hid (wval s = 0 ∧ werr s = 3) := by
      unfold Hid wval werr
      rw [HR.out]
      exact ⟨rfl, rfl⟩
    clear hok hno hl hDs
    go_enter Tryd.func17, Tryd.ntmps17
    go_wp2_with fail
    refine HTR.out.mono ?_
    rintro e w1 ⟨rfl, hb⟩
    have HB1 := Lib.hid hb
    clear hb
    go_wp2_with fail
    refine (HPU.out _ (HE.out.below (Nat.le_refl _) HB1.out)).mono ?_
    rintro e w2 ⟨v, N, rfl, hb⟩
    have HB2 : Hid (Below w.heap.size w w2) := HB1.out.trans (hb.mono HB1.out.size)
    clear hb
    go_wp2_with fail
    go_ret2
    exact ⟨by rw [HV.out.1, HV.out.2]; rfl, HB2.out⟩
end Go.Proofs.YtdohmjdcgpkclaaDoor

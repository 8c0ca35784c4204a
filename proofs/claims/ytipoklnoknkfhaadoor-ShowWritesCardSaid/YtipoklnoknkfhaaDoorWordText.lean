/- The words of texts: plain laws. -/
import Derived.Test.YtipoklnoknkfhaaDoorWordDec
import Derived.Test.YtipoklnoknkfhaaDoorWordTotal
import Derived.Test.YtipoklnoknkfhaaDoorParseUint
import Derived.Lib.SlTrimSet
namespace Go.Proofs.YtipoklnoknkfhaaDoor
open Go Go.RowKit

theorem pu_dec (l : List UInt8) : ∀ acc m : Nat, Lib.decFrom acc l = some m → m ≤ 9223372036854775807 → pu acc l = some (some m) := by
  induction l with
  | nil => intro acc m h _; simp [Lib.decFrom] at h; simp [pu, h]
  | cons c r ih =>
    intro acc m h hm
    unfold Lib.decFrom at h
    cases hd : Lib.digitVal c with
    | none => rw [hd] at h; cases h
    | some d =>
      rw [hd] at h
      obtain ⟨h1, h2, h3⟩ := Lib.digitVal_eq hd
      have hg := decFrom_ge r _ _ h
      unfold pu
      rw [if_pos ⟨h1, h2⟩, if_neg (by omega), ← h3]
      exact ih _ _ h hm
theorem pu_digits (n : Nat) (h : n ≤ 9223372036854775807) : pu 0 (Lib.decDigits n) = some (some n) := pu_dec _ _ _ (dd_read n) h
/-- the bytes behind the mark -/
def unmark (l : List UInt8) : List UInt8 := Lib.trimLeftS l [35, 63]
theorem unmark_digits (n : Nat) : unmark (Lib.decDigits n) = Lib.decDigits n := by
  unfold unmark Lib.trimLeftS
  cases h : Lib.decDigits n with
  | nil => rfl
  | cons c r =>
    have hb := dd_bytes n c (by rw [h]; simp)
    rw [List.dropWhile_cons_of_neg]
    simp
    exact ⟨fun e => by subst e; revert hb; decide, fun e => by subst e; revert hb; decide⟩
theorem unmark_marked (c : UInt8) (hc : c = 35 ∨ c = 63) (n : Nat) : unmark (c :: Lib.decDigits n) = Lib.decDigits n := by
  have h := unmark_digits n
  unfold unmark Lib.trimLeftS at h ⊢
  rw [List.dropWhile_cons_of_pos (by rcases hc with rfl | rfl <;> simp)]
  exact h
/-- a word's text, byte for byte -/
def wbytes (a : Int) : List UInt8 := (wpre a).data.toList ++ Lib.decDigits (a / 2).toNat
theorem wtext_bytes (a : Int) : (wtext a).data.toList = wbytes a := by
  unfold wtext wbytes
  by_cases h : a % 2 = 1
  · rw [if_pos h, ByteArray.data_append, Array.toList_append]
    rfl
  · rw [if_neg h]
    unfold wpre
    rw [if_neg h]
    rfl
theorem wbytes_even (a : Int) (h : a % 2 = 0) : wbytes a = Lib.decDigits (a / 2).toNat := by
  unfold wbytes wpre
  rw [if_neg (by omega)]
  rfl
theorem wbytes_odd (a : Int) (h : a % 2 = 1) : ∃ c : UInt8, (c = 35 ∨ c = 63) ∧ wbytes a = c :: Lib.decDigits (a / 2).toNat := by
  unfold wbytes wpre
  rw [if_pos h]
  by_cases h2 : a < 8192
  · rw [if_pos h2]
    exact ⟨35, .inl rfl, rfl⟩
  · rw [if_neg h2]
    exact ⟨63, .inr rfl, rfl⟩
theorem unmark_w (a : Int) : unmark (wbytes a) = Lib.decDigits (a / 2).toNat := by
  rcases Int.emod_two_eq a with h | h
  · rw [wbytes_even a h, unmark_digits]
  · obtain ⟨c, hc, e⟩ := wbytes_odd a h
    rw [e, unmark_marked c hc]
/-- the word that a text would be of, by what stands in it -/
def wcand (l : List UInt8) : Option Int := match pu 0 (unmark l) with
  | some (some n) => if unmark l = [] then none else some (2 * (n : Int) + (if (unmark l).length < l.length then 1 else 0))
  | _ => none
/-- the word of a text -/
def wread (s : ByteArray) : Option Int := match wcand s.data.toList with
  | some x => if wtext x = s then some x else none
  | none => none
theorem wcand_w (a : Int) (h0 : 0 ≤ a) (h1 : a < 18446744073709551616) : wcand (wbytes a) = some a := by
  unfold wcand
  rw [unmark_w, pu_digits _ (by omega)]
  simp only
  rw [if_neg (dd_ne _)]
  rcases Int.emod_two_eq a with h | h
  · rw [wbytes_even a h, if_neg (by omega)]
    congr 1
    omega
  · obtain ⟨c, hc, e⟩ := wbytes_odd a h
    rw [e, if_pos (by simp)]
    congr 1
    omega
theorem wread_w (a : Int) (h0 : 0 ≤ a) (h1 : a < 18446744073709551616) : wread (wtext a) = some a := by
  unfold wread
  rw [wtext_bytes, wcand_w a h0 h1]
  simp
theorem wtext_inj {a b : Int} (ha : 0 ≤ a ∧ a < 18446744073709551616) (hb : 0 ≤ b ∧ b < 18446744073709551616) (h : wtext a = wtext b) : a = b := by
  have h1 := wread_w a ha.1 ha.2
  rw [h, wread_w b hb.1 hb.2] at h1
  exact (Option.some.inj h1).symm
/-- what is read is a word, and the text is the word's -/
theorem pu_le (l : List UInt8) : ∀ acc n : Nat, acc ≤ 9223372036854775807 → pu acc l = some (some n) → n ≤ 9223372036854775807 := by
  induction l with
  | nil => intro acc n h0 h; simp [pu] at h; omega
  | cons c r ih =>
    intro acc n h0 h
    unfold pu at h
    split at h
    · split at h
      · cases h
      · exact ih _ _ (by omega) h
    · cases h
theorem wcand_bd (l : List UInt8) (x : Int) (h : wcand l = some x) : 0 ≤ x ∧ x < 18446744073709551616 := by
  unfold wcand at h
  split at h
  · rename_i n hn
    have := pu_le _ 0 n (by omega) hn
    split at h
    · cases h
    · have h2 := Option.some.inj h
      split at h2 <;> omega
  · cases h
theorem wread_some (s : ByteArray) (x : Int) (h : wread s = some x) : wtext x = s ∧ 0 ≤ x ∧ x < 18446744073709551616 := by
  unfold wread at h
  split at h
  · rename_i y hy
    split at h
    · rename_i he
      have := Option.some.inj h
      subst this
      exact ⟨he, wcand_bd _ _ hy⟩
    · cases h
  · cases h
end Go.Proofs.YtipoklnoknkfhaaDoor

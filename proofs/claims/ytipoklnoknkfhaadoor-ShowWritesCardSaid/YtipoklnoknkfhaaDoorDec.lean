/- Plain laws of decimal numerals: what they are read as, that unlike numbers have unlike numerals, texts in parts. -/
import Derived.Test.YtipoklnoknkfhaaDoorFormat
import Derived.Lib.Atoi
namespace Go.Proofs.YtipoklnoknkfhaaDoor
open Go Go.RowKit

theorem dd_small {n : Nat} (h : n < 10) : Lib.decDigits n = [UInt8.ofNat (48 + n)] := by rw [Lib.decDigits, dif_pos h]
theorem dd_big {n : Nat} (h : ¬ n < 10) : Lib.decDigits n = Lib.decDigits (n / 10) ++ [UInt8.ofNat (48 + n % 10)] := by rw [Lib.decDigits, dif_neg h]
theorem dd_byte {d : Nat} (h : d < 10) : (UInt8.ofNat (48 + d)).toNat = 48 + d := by
  rw [UInt8.toNat_ofNat']
  omega
theorem dd_bytes (n : Nat) : ∀ b ∈ Lib.decDigits n, 48 ≤ b.toNat ∧ b.toNat ≤ 57 := by
  induction n using Nat.strongRecOn with
  | _ n ih =>
    intro b hb
    by_cases h : n < 10
    · rw [dd_small h] at hb
      obtain rfl := List.mem_singleton.1 hb
      rw [dd_byte h]
      omega
    · rw [dd_big h] at hb
      rcases List.mem_append.1 hb with hb | hb
      · exact ih (n / 10) (by omega) b hb
      · obtain rfl := List.mem_singleton.1 hb
        rw [dd_byte (by omega)]
        omega
theorem dd_ne (n : Nat) : Lib.decDigits n ≠ [] := by
  by_cases h : n < 10
  · rw [dd_small h]; simp
  · rw [dd_big h]; simp
theorem decFrom_append (l r : List UInt8) : ∀ acc : Nat, Lib.decFrom acc (l ++ r) = (Lib.decFrom acc l).bind fun a => Lib.decFrom a r := by
  induction l with
  | nil => intro acc; rfl
  | cons b l ih =>
    intro acc
    simp only [List.cons_append, Lib.decFrom]
    cases Lib.digitVal b with
    | none => rfl
    | some d => exact ih _
theorem dd_read (n : Nat) : Lib.decFrom 0 (Lib.decDigits n) = some n := by
  induction n using Nat.strongRecOn with
  | _ n ih =>
    have hd : ∀ d : Nat, d < 10 → Lib.digitVal (UInt8.ofNat (48 + d)) = some d := by
      intro d h
      unfold Lib.digitVal
      rw [dd_byte h, if_pos (by omega)]
      simp
    by_cases h : n < 10
    · rw [dd_small h]
      unfold Lib.decFrom
      rw [hd n h]
      simp [Lib.decFrom]
    · rw [dd_big h, decFrom_append, ih (n / 10) (by omega)]
      rw [Option.bind_some]
      unfold Lib.decFrom
      rw [hd (n % 10) (by omega)]
      simp only [Lib.decFrom]
      congr 1
      omega
theorem dd_inj {a b : Nat} (h : Lib.decDigits a = Lib.decDigits b) : a = b := by
  have h1 := dd_read a
  rw [h, dd_read b] at h1
  exact (Option.some.inj h1).symm
/-- what stands ahead of the first space is told by the text -/
theorem cut_space {a b r s : List UInt8} (ha : ∀ x ∈ a, x.toNat ≠ 32) (hb : ∀ x ∈ b, x.toNat ≠ 32) (h : a ++ 32 :: r = b ++ 32 :: s) : a = b ∧ r = s := by
  induction a generalizing b with
  | nil =>
    cases b with
    | nil => simpa using h
    | cons y b =>
      simp at h
      exact absurd (by rw [← h.1]; rfl) (hb y (by simp))
  | cons x a ih =>
    cases b with
    | nil =>
      simp at h
      exact absurd (by rw [h.1]; rfl) (ha x (by simp))
    | cons y b =>
      simp at h
      obtain ⟨rfl, h2⟩ := h
      obtain ⟨rfl, rfl⟩ := ih (fun z hz => ha z (by simp [hz])) (fun z hz => hb z (by simp [hz])) h2
      exact ⟨rfl, rfl⟩
/-- a text without a space is none with one -/
theorem no_space {a b r : List UInt8} (ha : ∀ x ∈ a, x.toNat ≠ 32) (h : a = b ++ 32 :: r) : False := ha 32 (by rw [h]; simp) rfl
theorem dd_nosp (n : Nat) : ∀ b ∈ Lib.decDigits n, b.toNat ≠ 32 := fun b hb => by have := dd_bytes n b hb; omega
end Go.Proofs.YtipoklnoknkfhaaDoor

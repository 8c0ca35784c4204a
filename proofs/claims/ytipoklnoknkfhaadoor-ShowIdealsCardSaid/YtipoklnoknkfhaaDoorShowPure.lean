/- Words as Lisp writes them: what is written, in plain terms. -/
import Derived.Test.YtipoklnoknkfhaaDoorWordAll
namespace Go.Proofs.YtipoklnoknkfhaaDoor
open Go Go.RowKit

/-- the cars and cdrs of so many cells -/
structure Prs where
  n : Nat
  car : Nat → Int
  cdr : Nat → Int
def Prs.fits (p : Prs) : Prop := p.n ≤ 4096 ∧ ∀ i, i < p.n → (0 ≤ p.car i ∧ p.car i < 18446744073709551616) ∧ 0 ≤ p.cdr i ∧ p.cdr i < 18446744073709551616
def Prs.is (p : Prs) (w : Int) : Bool := decide (w % 2 = 1 ∧ w / 2 < (p.n : Int))
def lpar : ByteArray := ⟨#[40]⟩
def rpar : ByteArray := ⟨#[41]⟩
def sspc : ByteArray := ⟨#[32]⟩
def dots : ByteArray := ⟨#[46, 46]⟩
def dsp : ByteArray := ⟨#[46, 32]⟩
/-- what is written of a word (of what is behind a car: b), and how many cells are left then -/
def wW (p : Prs) : Nat → Bool → Int → Nat → ByteArray × Nat
  | 0, _, _, l => (⟨#[]⟩, l)
  | k + 1, false, w, l => if p.is w = true then
      (if l = 0 then (dots, 0) else
        (lpar ++ (wW p k false (p.car (w / 2).toNat) (l - 1)).1 ++ (wW p k true (p.cdr (w / 2).toNat) (wW p k false (p.car (w / 2).toNat) (l - 1)).2).1 ++ rpar, (wW p k true (p.cdr (w / 2).toNat) (wW p k false (p.car (w / 2).toNat) (l - 1)).2).2))
    else (wtext w, l)
  | k + 1, true, w, l => if w = 0 then (⟨#[]⟩, l) else if p.is w = true then
      (if l = 0 then (sspc ++ dots, 0) else
        (sspc ++ (wW p k false (p.car (w / 2).toNat) (l - 1)).1 ++ (wW p k true (p.cdr (w / 2).toNat) (wW p k false (p.car (w / 2).toNat) (l - 1)).2).1, (wW p k true (p.cdr (w / 2).toNat) (wW p k false (p.car (w / 2).toNat) (l - 1)).2).2))
    else (sspc ++ (dsp ++ wtext w), l)
theorem wW_left (p : Prs) : ∀ (k : Nat) (b : Bool) (w : Int) (l : Nat), (wW p k b w l).2 ≤ l
  | 0, _, _, l => by unfold wW; exact Nat.le_refl _
  | k + 1, false, w, l => by
    unfold wW
    split
    · split
      · omega
      · have h1 := wW_left p k false (p.car (w / 2).toNat) (l - 1)
        have h2 := wW_left p k true (p.cdr (w / 2).toNat) (wW p k false (p.car (w / 2).toNat) (l - 1)).2
        simp only
        omega
    · exact Nat.le_refl _
  | k + 1, true, w, l => by
    unfold wW
    split
    · exact Nat.le_refl _
    · split
      · split
        · omega
        · have h1 := wW_left p k false (p.car (w / 2).toNat) (l - 1)
          have h2 := wW_left p k true (p.cdr (w / 2).toNat) (wW p k false (p.car (w / 2).toNat) (l - 1)).2
          simp only
          omega
      · exact Nat.le_refl _
def wok (a : Int) : Prop := 0 ≤ a ∧ a < 18446744073709551616
theorem wtext_size (a : Int) (h : wok a) : (wtext a).size ≤ 21 := by
  obtain ⟨h0, h1⟩ := h
  have hd := dec_size (a / 2).toNat (by omega)
  unfold wtext
  split
  · rw [ByteArray.size_append]
    have : (wpre a).size ≤ 1 := by unfold wpre; repeat' split
                                   all_goals decide
    omega
  · omega
theorem wW_size (p : Prs) (hp : p.fits) : ∀ (k : Nat) (b : Bool) (w : Int) (l : Nat), wok w → (wW p k b w l).1.size + 50 * (wW p k b w l).2 ≤ 50 * l + 30
  | 0, _, _, l, _ => by unfold wW; show 0 + 50 * l ≤ _; omega
  | k + 1, false, w, l, hw => by
    unfold wW
    split
    · rename_i hc
      obtain ⟨c1, c2⟩ := of_decide_eq_true hc
      have hi : (w / 2).toNat < p.n := by have := hw.1; omega
      split
      · show 2 + 50 * 0 ≤ _; omega
      · have h1 := wW_size p hp k false (p.car (w / 2).toNat) (l - 1) (hp.2 _ hi).1
        have h2 := wW_size p hp k true (p.cdr (w / 2).toNat) (wW p k false (p.car (w / 2).toNat) (l - 1)).2 (hp.2 _ hi).2
        simp only [ByteArray.size_append]
        have e1 : lpar.size = 1 := rfl
        have e2 : rpar.size = 1 := rfl
        omega
    · have := wtext_size w hw
      simp only
      omega
  | k + 1, true, w, l, hw => by
    unfold wW
    split
    · show 0 + 50 * l ≤ _; omega
    · split
      · rename_i hc
        obtain ⟨c1, c2⟩ := of_decide_eq_true hc
        have hi : (w / 2).toNat < p.n := by have := hw.1; omega
        split
        · show 3 + 50 * 0 ≤ _; omega
        · have h1 := wW_size p hp k false (p.car (w / 2).toNat) (l - 1) (hp.2 _ hi).1
          have h2 := wW_size p hp k true (p.cdr (w / 2).toNat) (wW p k false (p.car (w / 2).toNat) (l - 1)).2 (hp.2 _ hi).2
          simp only [ByteArray.size_append]
          have e1 : sspc.size = 1 := rfl
          omega
      · have := wtext_size w hw
        simp only [ByteArray.size_append]
        have e1 : sspc.size = 1 := rfl
        have e2 : dsp.size = 2 := rfl
        omega
end Go.Proofs.YtipoklnoknkfhaaDoor

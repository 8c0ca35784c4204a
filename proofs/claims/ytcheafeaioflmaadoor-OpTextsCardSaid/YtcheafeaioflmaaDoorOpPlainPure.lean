/- Numbers that an operation hasn't play no part; a boxed slice that a loop appends to. -/
import Derived.Test.YtcheafeaioflmaaDoorOpText
import Derived.Test.YtcheafeaioflmaaDoorOpMore
import Derived.Test.YtcheafeaioflmaaDoorOpCheck
namespace Go.Proofs.YtcheafeaioflmaaDoor
open Go Go.RowKit
set_option linter.unusedSimpArgs false
set_option linter.unusedVariables false

/-- other numbers in the places that the operation hasn't -/
def mask (x : Opr) (n : Int) : Opr := ⟨x.kind, x.a, if rp x 1 = 0 then n else x.b, if rp x 2 = 0 then n else x.c⟩
theorem part_rp (k : Int) (h : 1 ≤ k ∧ k ≤ 11) (i : Nat) (hi : i < (fpart k).size) : rpart k i ≠ 0 := by
  have h3 : (fpart k).size ≤ 3 := part_len k
  obtain rfl | rfl | rfl | rfl | rfl | rfl | rfl | rfl | rfl | rfl | rfl : k = 1 ∨ k = 2 ∨ k = 3 ∨ k = 4 ∨ k = 5 ∨ k = 6 ∨ k = 7 ∨ k = 8 ∨ k = 9 ∨ k = 10 ∨ k = 11 := by omega
  all_goals
    obtain rfl | rfl | rfl : i = 0 ∨ i = 1 ∨ i = 2 := by omega
    all_goals first | decide | (exfalso; revert hi; decide)
theorem mask_num (x : Opr) (n : Int) (h : 1 ≤ x.kind ∧ x.kind ≤ 11) (i : Nat) (hi : i < (fpart x.kind).size) : (mask x n).num i = x.num i := by
  have h3 : (fpart x.kind).size ≤ 3 := part_len x.kind
  have hr := part_rp x.kind h i hi
  have hp : rp x i ≠ 0 := by unfold rp; rw [if_pos h]; exact hr
  obtain rfl | rfl | rfl : i = 0 ∨ i = 1 ∨ i = 2 := by omega
  · rfl
  · show (if rp x 1 = 0 then n else x.b) = x.b
    rw [if_neg hp]
  · show (if rp x 2 = 0 then n else x.c) = x.c
    rw [if_neg hp]
theorem badFrom_congr (c : Cfg) (x y : Opr) : ∀ (l : List UInt8) (k : Nat), (∀ i, k ≤ i → i < k + l.length → y.num i = x.num i) → badFrom c y l k = badFrom c x l k
  | [], _, _ => rfl
  | p :: l, k, h => by
    unfold badFrom
    rw [h k (Nat.le_refl _) (by simp), badFrom_congr c x y l (k + 1) (fun i h1 h2 => h i (by omega) (by simp at h2 ⊢; omega))]
theorem mask_err (x : Opr) (n : Int) (c : Cfg) : (mask x n).err c = x.err c := by
  unfold Opr.err
  show (if c.ok = true then (if 1 ≤ x.kind ∧ x.kind ≤ 11 then (if badFrom c (mask x n) (fparts.getD x.kind.toNat []) 0 = true then 2 else 0) else 4) else 1) = _
  by_cases h : 1 ≤ x.kind ∧ x.kind ≤ 11
  · rw [badFrom_congr c x (mask x n) _ 0 (fun i _ h2 => mask_num x n h i (by have e : (fpart x.kind).size = (fparts.getD x.kind.toNat []).length := by simp [fpart, ByteArray.size]
                                                                             omega))]
  · rw [if_neg h, if_neg h]
theorem mask_text (x : Opr) (n : Int) : otext (mask x n) = otext x := by
  unfold otext
  show (if 1 ≤ x.kind ∧ x.kind ≤ 11 then otextOf (fname x.kind) (fpart x.kind) (mask x n) else ⟨#[]⟩) = _
  by_cases h : 1 ≤ x.kind ∧ x.kind ≤ 11
  · rw [if_pos h, if_pos h]
    unfold otextOf otexts
    have e1 : (List.range (fpart x.kind).size).map (fun i => otx ((mask x n).num i)) = (List.range (fpart x.kind).size).map (fun i => otx (x.num i)) :=
      List.map_congr_left fun i hi => by rw [mask_num x n h i (List.mem_range.1 hi)]
    have e2 : (∀ i, i < (fpart x.kind).size → 0 ≤ (mask x n).num i) ↔ (∀ i, i < (fpart x.kind).size → 0 ≤ x.num i) :=
      ⟨fun h1 i hi => by have := h1 i hi; rwa [mask_num x n h i hi] at this, fun h1 i hi => by rw [mask_num x n h i hi]; exact h1 i hi⟩
    rw [e1]
    by_cases hc : ∀ i, i < (fpart x.kind).size → 0 ≤ x.num i
    · rw [if_pos hc, if_pos (e2.2 hc)]
    · rw [if_neg hc, if_neg (fun h1 => hc (e2.1 h1))]
  · rw [if_neg h, if_neg h]
theorem mask_regs (x : Opr) (n : Int) : oregs (mask x n) = oregs x := by
  unfold oregs
  show (if 1 ≤ x.kind ∧ x.kind ≤ 11 then regsTo (fpart x.kind) (mask x n) (fpart x.kind).size else []) = _
  by_cases h : 1 ≤ x.kind ∧ x.kind ≤ 11
  · rw [if_pos h, if_pos h]
    unfold regsTo
    refine List.map_congr_left fun i hi => mask_num x n h i (List.mem_range.1 (List.mem_filter.1 hi).1)
  · rw [if_neg h, if_neg h]
theorem mask_fits {x : Opr} (n : Int) (h : x.fits) (hn : -9223372036854775808 ≤ n ∧ n ≤ 9223372036854775807) : (mask x n).fits := by
  refine ⟨h.1, h.2.1, ?_, ?_⟩
  · show _ ≤ (if rp x 1 = 0 then n else x.b) ∧ (if rp x 1 = 0 then n else x.b) ≤ _
    split
    · exact hn
    · exact h.2.2.1
  · show _ ≤ (if rp x 2 = 0 then n else x.c) ∧ (if rp x 2 = 0 then n else x.c) ≤ _
    split
    · exact hn
    · exact h.2.2.2
/-- all below n₀ lies as it lay, but for the box B -/
def Mid (n₀ B : Nat) (W0 W : World) : Prop := (∀ j, j < n₀ → j ≠ B → W.heap[j]? = W0.heap[j]?) ∧ Below B W0 W
theorem Mid.refl (n₀ B : Nat) (W : World) : Mid n₀ B W W := ⟨fun _ _ _ => rfl, Below.refl _ _⟩
theorem Mid.trans {n₀ B : Nat} {W0 W1 W2 : World} (h : Mid n₀ B W0 W1) (k : Mid n₀ B W1 W2) : Mid n₀ B W0 W2 :=
  ⟨fun j hj hn => (k.1 j hj hn).trans (h.1 j hj hn), h.2.trans k.2⟩
theorem ownFrom_mid {β : Type} {n₀ B base : Nat} {W0 : World} (h0 : n₀ ≤ W0.heap.size) (hB : B ≤ n₀) (hb : n₀ ≤ base) : OwnFrom base (fun (_ : β) W => Mid n₀ B W0 W) :=
  fun s X Y row hs hg hr => ⟨fun j hj hn => (hg.block j (by have := hs.2.size; omega) (fun e => by have := (hr j e.symm).1; omega)).trans (hs.1 j hj hn),
    hs.2.grown hg (by have := hs.2.size; omega) (fun k e => by have := (hr k e).1; omega)⟩
theorem ownsRow_lower {W : World} {a b : Nat} {e : TypeId} {size : Nat} {v : Value} {k : Nat} {xs : List Value} (h : W.ownsRow a e size v k xs) (hab : b ≤ a) : W.ownsRow b e size v k xs := by
  refine ⟨h.1, ?_⟩
  rcases h.2 with h | ⟨g, cap, cur, hv, hB, hr⟩
  · exact .inl h
  · exact .inr ⟨g, cap, cur, hv, by omega, hr⟩
theorem boxed_app {W w1 : World} {n₀ B : Nat} {t e : TypeId} {size : Nat} {v v' : Value} {k m : Nat} {xs ys : List Value} {tmp : Obj}
    (hv : Boxed W B t v) (hte : t ≠ e) (hrow : W.ownsRow n₀ e size v k xs) (hn₀ : n₀ ≤ W.heap.size) (hB : B < n₀)
    (hown' : w1.ownsRow n₀ e size v' m ys) (hgrow : (W.alloc tmp).grownBy w1 v.ownBlock) :
    Boxed w1 B t v ∧ Boxed (w1.setCell ⟨B, 0, none⟩ v') B t v' ∧ (w1.setCell ⟨B, 0, none⟩ v').ownsRow n₀ e size v' m ys ∧ KeepsOthers W (w1.setCell ⟨B, 0, none⟩ v') ∧ Mid n₀ B W (w1.setCell ⟨B, 0, none⟩ v') := by
  obtain ⟨h1, h2, h3, h4, h5⟩ := Boxed.appended (n₀ := B) hv hte (ownsRow_lower hrow (by omega)) (by omega) (Nat.le_refl _) (ownsRow_lower hown' (by omega)) hgrow
  refine ⟨h1, h2, hown'.kept (grownBy_setCell' w1 B v') (.inr (h1.not_row hte hown').symm), h4, ⟨fun j hj hn => ?_, h5⟩⟩
  rw [Below.heap_setCell _ _ _ _ (by simpa using hn), hgrow.block j (by simp; omega) (fun e => by have := (hrow.lt j e.symm).1; omega), Below.heap_alloc _ _ _ (by omega)]
end Go.Proofs.YtcheafeaioflmaaDoor

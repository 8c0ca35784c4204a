/- The operation of a text: what both readings come to. -/
import Derived.Test.YtcheafeaioflmaaDoorOprParts
import Derived.Test.YtcheafeaioflmaaDoorSplitAny
import Derived.Test.YtcheafeaioflmaaDoorAtoi
namespace Go.Proofs.YtcheafeaioflmaaDoor
open Go Go.RowKit
set_option linter.unusedVariables false

/-- an operation that is the one of its text -/
structure Opr.Right (x : Opr) : Prop where
  good : x.Good
  fits : x.fits
  plain : mask x 0 = x
theorem right_inj {x y : Opr} (hx : x.Right) (hy : y.Right) (h : otext x = otext y) : x = y := by
  rw [← hx.plain, ← hy.plain]
  exact otext_inj hx.good hy.good h
open Classical in
/-- the operation whose text it is, and 0; or none, and 3 -/
noncomputable def oread (s : ByteArray) : Opr × Int := if h : ∃ x : Opr, x.Right ∧ otext x = s then (Classical.choose h, 0) else (⟨0, 0, 0, 0⟩, 3)
theorem oread_yes {s : ByteArray} {x : Opr} (hx : x.Right) (h : otext x = s) : oread s = (x, 0) := by
  unfold oread
  have he : ∃ d : Opr, d.Right ∧ otext d = s := ⟨x, hx, h⟩
  rw [dif_pos he]
  obtain ⟨o, t⟩ := Classical.choose_spec he
  rw [right_inj o hx (t.trans h.symm)]
theorem oread_no {s : ByteArray} (h : ∀ x : Opr, x.Right → otext x ≠ s) : oread s = (⟨0, 0, 0, 0⟩, 3) := by
  unfold oread
  rw [dif_neg (fun ⟨d, o, t⟩ => h d o t)]
theorem mask_good {x : Opr} (h : x.Good) : (mask x 0).Good := ⟨h.k, fun i hi => by rw [mask_num x 0 h.k i hi]; exact h.n i hi⟩
theorem mask_mask (x : Opr) : mask (mask x 0) 0 = mask x 0 := by
  have r1 : rp (mask x 0) 1 = rp x 1 := rfl
  have r2 : rp (mask x 0) 2 = rp x 2 := rfl
  unfold mask at r1 r2 ⊢
  simp only [r1, r2]
  congr 1
  · split <;> rfl
  · split <;> rfl
theorem mask_right {x : Opr} (h : x.Good) (hf : x.fits) : (mask x 0).Right := ⟨mask_good h, mask_fits 0 hf (by omega), mask_mask x⟩
theorem oread_text (x : Opr) (hf : x.fits) : (x.Good → oread (otext x) = (mask x 0, 0)) ∧ (¬ x.Good → oread (otext x) = (⟨0, 0, 0, 0⟩, 3)) := by
  refine ⟨fun h => ?_, fun h => ?_⟩
  · exact oread_yes (mask_right h hf) (mask_text x 0)
  · rw [otext_not h]
    exact oread_no fun y hy => otext_ne hy.good
/-! ### numbers that were read -/
theorem opieces {x : Opr} (h : x.Good) : pieces (otext x) = (oparts x).map fun l => ⟨l.toArray⟩ := by
  unfold pieces
  rw [otext_parts h]
theorem opieces_len {x : Opr} (h : x.Good) : (pieces (otext x)).length = 1 + (fpart x.kind).size := by
  rw [opieces h]
  simp [oparts]
  omega
theorem opieces_at {x : Opr} (h : x.Good) {i : Nat} (hi : i < (fpart x.kind).size) : (pieces (otext x))[i + 1]? = some ⟨(Lib.decDigits (x.num i).toNat).toArray⟩ := by
  rw [opieces h]
  simp [oparts, hi]
/-- what a reading of three numbers gives: those of the operation, if there is one -/
structure ONums (s : ByteArray) (a b c : Int) : Prop where
  bd : (-9223372036854775808 ≤ a ∧ a ≤ 9223372036854775807) ∧ (-9223372036854775808 ≤ b ∧ b ≤ 9223372036854775807) ∧ (-9223372036854775808 ≤ c ∧ c ≤ 9223372036854775807)
  yes : ∀ x : Opr, x.Right → otext x = s → x = ⟨x.kind, a, b, c⟩
  z : s = ⟨#[]⟩ → a = 0 ∧ b = 0 ∧ c = 0
theorem onums_good {s : ByteArray} {a b c k : Int} (h : ONums s a b c) (hk : 1 ≤ k ∧ k ≤ 11) (ht : otext ⟨k, a, b, c⟩ = s) : (⟨k, a, b, c⟩ : Opr).Good := by
  refine Classical.byContradiction fun hn => ?_
  rw [otext_not hn] at ht
  obtain ⟨rfl, rfl, rfl⟩ := h.z ht.symm
  refine hn ⟨hk, fun i _ => ?_⟩
  unfold Opr.num
  split
  · exact Int.le_refl _
  · split <;> exact Int.le_refl _
theorem onums_fits {s : ByteArray} {a b c k : Int} (h : ONums s a b c) (hk : 0 ≤ k ∧ k ≤ 100) : (⟨k, a, b, c⟩ : Opr).fits := ⟨by dsimp only; omega, h.bd⟩
/-- found: it is the one -/
theorem onums_yes {s : ByteArray} {a b c k : Int} (h : ONums s a b c) (hk : 1 ≤ k ∧ k ≤ 11) (ht : otext ⟨k, a, b, c⟩ = s) : oread s = (⟨k, a, b, c⟩, 0) := by
  have hg := onums_good h hk ht
  have hf := onums_fits h (k := k) (by omega)
  have hm : otext (mask ⟨k, a, b, c⟩ 0) = s := (mask_text _ 0).trans ht
  have h2 := h.yes _ (mask_right hg hf) hm
  have h3 : mask ⟨k, a, b, c⟩ 0 = ⟨k, a, b, c⟩ := h2
  have := oread_yes (mask_right hg hf) hm
  rw [h3] at this
  exact this
/-- not found -/
theorem onums_no {s : ByteArray} {a b c : Int} (h : ONums s a b c) (hn : ∀ k : Int, 1 ≤ k ∧ k ≤ 11 → otext ⟨k, a, b, c⟩ ≠ s) : oread s = (⟨0, 0, 0, 0⟩, 3) :=
  oread_no fun x hx ht => by
    have e := h.yes x hx ht
    refine hn x.kind hx.good.k ?_
    rw [← e]
    exact ht
/-! ### op.Parse's numbers -/
/-- the numbers of the first k pieces behind the word -/
def OTo (s : ByteArray) (v : List Int) (k : Nat) : Prop := v.length = 3 ∧ (∀ i, i < k → i < 3 ∧ ∀ t, (pieces s)[i + 1]? = some t → AtoiIs t (v.getD i 0)) ∧ ∀ i, k ≤ i → v.getD i 0 = 0
theorem OTo.put {s : ByteArray} {v : List Int} {k : Nat} (h : OTo s v k) (hk : k < 3) {t : ByteArray} {x : Int} (ht : (pieces s)[k + 1]? = some t) (hx : AtoiIs t x) : OTo s (v.set k x) (k + 1) := by
  refine ⟨by simpa using h.1, fun i hi => ⟨by omega, fun u hu => ?_⟩, fun i hi => ?_⟩
  · by_cases e : i = k
    · subst e
      rw [ht] at hu
      injection hu with hu
      subst hu
      simp [h.1, hk, hx]
    · have := (h.2.1 i (by omega)).2 u hu
      simpa [List.getD, List.getElem?_set, Ne.symm e] using this
  · have := h.2.2 i (by omega)
    have e : ¬ k = i := by omega
    simpa [List.getD, List.getElem?_set, e] using this
theorem pieces_none : pieces ⟨#[]⟩ = [⟨#[]⟩] := rfl
theorem OTo.nums {s : ByteArray} {v : List Int} (h : OTo s v ((pieces s).length - 1)) (h1 : 1 ≤ (pieces s).length) : ONums s (v.getD 0 0) (v.getD 1 0) (v.getD 2 0) := by
  have hb : ∀ i, -9223372036854775808 ≤ v.getD i 0 ∧ v.getD i 0 ≤ 9223372036854775807 := fun i => by
    by_cases hi : i < (pieces s).length - 1
    · exact ((h.2.1 i hi).2 ((pieces s)[i + 1]'(by omega)) (List.getElem?_eq_getElem _)).1
    · rw [h.2.2 i (by omega)]; omega
  refine ⟨⟨hb 0, hb 1, hb 2⟩, fun x hx ht => ?_, fun hs => ?_⟩
  · subst ht
    have hl := opieces_len hx.good
    have hs := fpart_one _ hx.good.k
    have key : ∀ i, i < (fpart x.kind).size → v.getD i 0 = x.num i := fun i hi => by
      have h2 := ((h.2.1 i (by omega)).2 _ (opieces_at hx.good hi)).2 (x.num i).toNat (by have := hx.good.n i hi; have := Opr.num_bd hx.fits i; omega) (by simp)
      have := hx.good.n i hi
      omega
    have zero : ∀ i, ¬ i < (fpart x.kind).size → v.getD i 0 = 0 := fun i hi => h.2.2 i (by omega)
    have r1 := rp_not x 1 (by omega) hx.good.k
    have r2 := rp_not x 2 (by omega) hx.good.k
    have hp := hx.plain
    have k0 := key 0 (by omega)
    have k1 : v.getD 1 0 = x.b := by
      by_cases g : 1 < (fpart x.kind).size
      · exact key 1 g
      · rw [zero 1 g]
        have := congrArg Opr.b hp
        unfold mask at this
        simp only [r1.2 g, if_true] at this
        exact this
    have k2 : v.getD 2 0 = x.c := by
      by_cases g : 2 < (fpart x.kind).size
      · exact key 2 g
      · rw [zero 2 g]
        have := congrArg Opr.c hp
        unfold mask at this
        simp only [r2.2 g, if_true] at this
        exact this
    rw [k0, k1, k2]
    rfl
  · subst hs
    rw [pieces_none] at h
    exact ⟨h.2.2 0 (by simp), h.2.2 1 (by simp), h.2.2 2 (by simp)⟩
/-- a piece that is no number, or too many of them: there is none -/
theorem onone_many {s : ByteArray} {i : Nat} {t : ByteArray} (ht : (pieces s)[i + 1]? = some t) (hi : 2 < i) : oread s = (⟨0, 0, 0, 0⟩, 3) :=
  oread_no fun x hx h => by
    subst h
    have hl := opieces_len hx.good
    have hs := fpart_one _ hx.good.k
    have := (List.getElem?_eq_some_iff.1 ht).1
    omega
theorem onone_err {s : ByteArray} {i : Nat} {t : ByteArray} {ev : Value} (ht : (pieces s)[i + 1]? = some t) (he : AtoiErr t ev) (hne : ev ≠ .nilIface) : oread s = (⟨0, 0, 0, 0⟩, 3) :=
  oread_no fun x hx h => by
    subst h
    have hl := opieces_len hx.good
    have hlt := (List.getElem?_eq_some_iff.1 ht).1
    have hi : i < (fpart x.kind).size := by omega
    rw [opieces_at hx.good hi] at ht
    injection ht with ht
    subst ht
    exact hne (he.2 (x.num i).toNat (by have := hx.good.n i hi; have := Opr.num_bd hx.fits i; omega) (by simp))
end Go.Proofs.YtcheafeaioflmaaDoor

/- Operations as texts: their parts; unlike plain operations have unlike texts. -/
import Derived.Test.YtcheafeaioflmaaDoorOpPlainPure
import Derived.Test.YtcheafeaioflmaaDoorJoinSp
import Derived.Test.YtcheafeaioflmaaDoorWordDec
namespace Go.Proofs.YtcheafeaioflmaaDoor
open Go Go.RowKit
set_option linter.unusedVariables false

/-- an operation that has a text -/
structure Opr.Good (x : Opr) : Prop where
  k : 1 ≤ x.kind ∧ x.kind ≤ 11
  n : ∀ i, i < (fpart x.kind).size → 0 ≤ x.num i
def oparts (x : Opr) : List (List UInt8) := fnames.getD x.kind.toNat [] :: (List.range (fpart x.kind).size).map fun i => Lib.decDigits (x.num i).toNat
theorem otext_bytes {x : Opr} (h : x.Good) : (otext x).data.toList = joinSp (oparts x) := by
  unfold otext otextOf
  rw [if_pos h.k, if_pos h.n, List.toList_toArray]
  show jbytes ⟨#[32]⟩ _ = _
  rw [jbytes_sp]
  unfold otexts oparts
  rw [List.map_cons, List.map_map]
  congr 2
  refine List.map_congr_left fun i hi => ?_
  have h0 := h.n i (by simpa using hi)
  show (Lib.itoa (x.num i)).toArray.toList = _
  rw [List.toList_toArray]
  unfold Lib.itoa
  rw [if_neg (by omega)]
theorem fnames_nosp : ∀ j, j < 12 → NoSp (fnames.getD j []) := by
  have : ∀ j, j < 12 → ((fnames.getD j []).all fun x => decide (x ≠ 32)) = true := by decide
  intro j hj x hx
  have := List.all_eq_true.1 (this j hj) x hx
  simpa using this
theorem oparts_nosp {x : Opr} (h : x.Good) : ∀ t ∈ oparts x, NoSp t := by
  intro t ht
  unfold oparts at ht
  rcases List.mem_cons.1 ht with rfl | ht
  · have := h.k
    exact fnames_nosp _ (by omega)
  · obtain ⟨i, _, rfl⟩ := List.mem_map.1 ht
    exact nosp_dd _
theorem otext_parts {x : Opr} (h : x.Good) : parts (otext x).data.toList = oparts x := by
  rw [otext_bytes h]
  exact parts_join _ (by simp [oparts]) (oparts_nosp h)
theorem otext_not {x : Opr} (h : ¬ x.Good) : otext x = ⟨#[]⟩ := by
  unfold otext
  by_cases hk : 1 ≤ x.kind ∧ x.kind ≤ 11
  · rw [if_pos hk]
    unfold otextOf
    rw [if_neg (fun hn => h ⟨hk, hn⟩)]
  · rw [if_neg hk]
theorem otext_ne {x : Opr} (h : x.Good) : otext x ≠ ⟨#[]⟩ := by
  intro e
  have := otext_parts h
  rw [e] at this
  unfold oparts at this
  have e0 := (List.cons.inj this).1
  have hw : ∀ j, j < 12 → 1 ≤ j → fnames.getD j [] ≠ [] := by decide
  have := h.k
  exact hw x.kind.toNat (by omega) (by omega) e0.symm
theorem fnames_inj {a b : Int} (ha : 1 ≤ a ∧ a ≤ 11) (hb : 1 ≤ b ∧ b ≤ 11) (h : fnames.getD a.toNat [] = fnames.getD b.toNat []) : a = b := by
  have hw : ∀ i, i < 12 → ∀ j, j < 12 → fnames.getD i [] = fnames.getD j [] → i = j := by decide
  have := hw a.toNat (by omega) b.toNat (by omega) h
  omega
/-- the places that a kind hasn't -/
theorem rp_not (x : Opr) (i : Nat) (hi : i < 3) (h : 1 ≤ x.kind ∧ x.kind ≤ 11) : rp x i = 0 ↔ ¬ i < (fpart x.kind).size := by
  have h3 : (fpart x.kind).size ≤ 3 := part_len x.kind
  unfold rp
  rw [if_pos h]
  obtain ⟨k, a, b, c⟩ := x
  simp only at *
  obtain rfl | rfl | rfl | rfl | rfl | rfl | rfl | rfl | rfl | rfl | rfl : k = 1 ∨ k = 2 ∨ k = 3 ∨ k = 4 ∨ k = 5 ∨ k = 6 ∨ k = 7 ∨ k = 8 ∨ k = 9 ∨ k = 10 ∨ k = 11 := by omega
  all_goals
    obtain rfl | rfl | rfl : i = 0 ∨ i = 1 ∨ i = 2 := by omega
    all_goals decide
theorem fpart_one (k : Int) (h : 1 ≤ k ∧ k ≤ 11) : 1 ≤ (fpart k).size ∧ (fpart k).size ≤ 3 := by
  refine ⟨?_, part_len k⟩
  obtain rfl | rfl | rfl | rfl | rfl | rfl | rfl | rfl | rfl | rfl | rfl : k = 1 ∨ k = 2 ∨ k = 3 ∨ k = 4 ∨ k = 5 ∨ k = 6 ∨ k = 7 ∨ k = 8 ∨ k = 9 ∨ k = 10 ∨ k = 11 := by omega
  all_goals decide
/-- of the text hangs the operation, but for the numbers that it hasn't -/
theorem otext_inj {x y : Opr} (hx : x.Good) (hy : y.Good) (h : otext x = otext y) : mask x 0 = mask y 0 := by
  have e : oparts x = oparts y := by rw [← otext_parts hx, ← otext_parts hy, h]
  unfold oparts at e
  obtain ⟨e0, e1⟩ := List.cons.inj e
  have hk := fnames_inj hx.k hy.k e0
  have hn : ∀ i, i < (fpart x.kind).size → x.num i = y.num i := by
    intro i hi
    have hi' : i < (fpart y.kind).size := by rw [← hk]; exact hi
    have := congrArg (fun l : List (List UInt8) => l[i]?) e1
    simp only [List.getElem?_map, List.getElem?_range hi, List.getElem?_range hi', Option.map_some, Option.some.injEq] at this
    have := dd_inj this
    have := hx.n i hi
    have := hy.n i hi'
    omega
  have hs := fpart_one _ hx.k
  have h0 := hn 0 (by omega)
  have r1 := rp_not x 1 (by omega) hx.k
  have r2 := rp_not x 2 (by omega) hx.k
  have s1 := rp_not y 1 (by omega) hy.k
  have s2 := rp_not y 2 (by omega) hy.k
  rw [← hk] at s1 s2
  have h0' : x.a = y.a := h0
  have e1 : (if rp x 1 = 0 then (0 : Int) else x.b) = if rp y 1 = 0 then 0 else y.b := by
    by_cases g : 1 < (fpart x.kind).size
    · rw [if_neg (fun q => r1.1 q g), if_neg (fun q => s1.1 q g)]
      exact hn 1 g
    · rw [if_pos (r1.2 g), if_pos (s1.2 g)]
  have e2 : (if rp x 2 = 0 then (0 : Int) else x.c) = if rp y 2 = 0 then 0 else y.c := by
    by_cases g : 2 < (fpart x.kind).size
    · rw [if_neg (fun q => r2.1 q g), if_neg (fun q => s2.1 q g)]
      exact hn 2 g
    · rw [if_pos (r2.2 g), if_pos (s2.2 g)]
  unfold mask
  rw [hk, h0', e1, e2]
end Go.Proofs.YtcheafeaioflmaaDoor

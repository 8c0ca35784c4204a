/- strconv.Atoi at any text: a number; at a small number's digits it is that number. -/
import Derived.Test.YtcheafeaioflmaaDoorWordParse
import Derived.Test.YtcheafeaioflmaaDoorWordDec
import Derived.Shelf.Strconv.AtoiAll
namespace Go.Proofs.YtcheafeaioflmaaDoor
open Go Go.RowKit
set_option linter.unusedSimpArgs false
set_option linter.unusedVariables false

theorem pu10_dec (l : List UInt8) : ∀ (acc m : Nat), Lib.decFrom acc l = some m → m < 9223372036854775808 → Lib.parseUint10 acc l = .ok m := by
  induction l with
  | nil =>
    intro acc m h hm
    simp [Lib.decFrom] at h
    subst h
    rfl
  | cons c l ih =>
    intro acc m h hm
    unfold Lib.decFrom at h
    cases hd : Lib.digitVal c with
    | none => rw [hd] at h; cases h
    | some d =>
      rw [hd] at h
      obtain ⟨h1, h2, h3⟩ := Lib.digitVal_eq hd
      have hg := decFrom_ge l _ _ h
      unfold Lib.parseUint10
      rw [if_pos ⟨h1, h2⟩, if_neg (by omega), if_neg (by omega)]
      subst h3
      exact ih _ _ h hm
theorem atoi_dd (n : Nat) (h : n < 9223372036854775808) : Lib.atoiAll (Lib.decDigits n) = .ok (n : Int) := by
  have hr := pu10_dec _ 0 n (dd_read n) h
  have hne := dd_ne n
  have hb := dd_bytes n
  unfold Lib.atoiAll
  generalize Lib.decDigits n = l at hr hne hb
  cases l with
  | nil => exact absurd rfl hne
  | cons c r =>
    have hc := hb c (by simp)
    have hm : Lib.parseMag (c :: r) = .ok n := by
      unfold Lib.parseMag
      rw [if_neg (by simp), hr]
    have h1 : ¬ (c.toNat = 43 ∨ c.toNat = 45) := by omega
    have h2 : ¬ c.toNat = 45 := by omega
    dsimp only
    rw [if_neg h1, hm]
    dsimp only
    rw [if_neg (fun h => by have := h.2; omega), if_neg (fun h => h2 h.1), if_neg h2]
def AtoiIs (t : ByteArray) (v : Int) : Prop := (-9223372036854775808 ≤ v ∧ v ≤ 9223372036854775807) ∧ ∀ n, n < 9223372036854775808 → t.data.toList = Lib.decDigits n → v = (n : Int)
/-- the error beside the number -/
def AtoiErr (t : ByteArray) (ev : Value) : Prop := (ev = .nilIface ∨ ∃ T N, ev = .iface T (.pointer (some ⟨N, 0, none⟩))) ∧ ∀ n, n < 9223372036854775808 → t.data.toList = Lib.decDigits n → ev = .nilIface
theorem atoi_bounds' {l : List UInt8} {v : Int} (h : Lib.atoiAll l = .ok v) : -9223372036854775808 ≤ v ∧ v ≤ 9223372036854775807 := by
  have := Lib.atoiAll_bounds h
  omega
theorem atoi_any (t : ByteArray) (hmax : t.size ≤ 1000000) (w : World) (he : Errs w) :
    Calls Tryd.prog 76 #[.string t] w fun e w' => ∃ v ev, e = .returned (.tuple #[.int .i64 v, ev]) ∧ AtoiIs t v ∧ AtoiErr t ev ∧ Below w.heap.size w w' := by
  obtain ⟨⟨e1, c1, h1⟩, ⟨e2, c2, h2⟩⟩ := he
  cases h : Lib.atoiAll t.data.toList
  · rename_i v
    refine (Tryd.strconv_Atoi_ok t (by omega) v h w).mono ?_
    rintro e w' ⟨rfl, hw⟩
    refine ⟨v, _, rfl, ⟨atoi_bounds' h, fun n hn ht => ?_⟩, ⟨.inl rfl, fun _ _ _ => rfl⟩, ?_⟩
    · rw [ht, atoi_dd n hn] at h
      injection h with h
      exact h.symm
    · rcases hw with rfl | ⟨t, rfl⟩
      · exact Below.refl _ _
      · exact Lib.bytesWorld_below _ _ _
  · refine (Any.strconv_Atoi_syntax (Tryd.laysC172) t (by omega) h e1 w c1 h1).mono ?_
    rintro e w' ⟨N, rfl, _, _, hb⟩
    have no : ∀ n, n < 9223372036854775808 → t.data.toList = Lib.decDigits n → False := fun n hn ht => by
      rw [ht, atoi_dd n hn] at h
      cases h
    exact ⟨0, _, rfl, ⟨by omega, fun n hn ht => (no n hn ht).elim⟩, ⟨.inr ⟨_, _, rfl⟩, fun n hn ht => (no n hn ht).elim⟩, hb⟩
  · refine (Tryd.strconv_Atoi_range t (by omega) h e2 w c2 h2).mono ?_
    rintro e w' ⟨N, rfl, _, _, hb⟩
    have no : ∀ n, n < 9223372036854775808 → t.data.toList = Lib.decDigits n → False := fun n hn ht => by
      rw [ht, atoi_dd n hn] at h
      cases h
    exact ⟨_, _, rfl, ⟨by have := Lib.atoiSat_bounds t.data.toList; omega, fun n hn ht => (no n hn ht).elim⟩, ⟨.inr ⟨_, _, rfl⟩, fun n hn ht => (no n hn ht).elim⟩, hb⟩
end Go.Proofs.YtcheafeaioflmaaDoor

/- Texts in parts: what stands between spaces; unlike parts make unlike texts. -/
import Derived.Test.YtcheafeaioflmaaDoorDec
import Derived.Test.YtcheafeaioflmaaDoorSpot
namespace Go.Proofs.YtcheafeaioflmaaDoor
set_option linter.unusedVariables false
open Go Go.RowKit

def parts : List UInt8 → List (List UInt8)
  | [] => [[]]
  | c :: r => if c = 32 then [] :: parts r else match parts r with
    | [] => [[c]]
    | p :: ps => (c :: p) :: ps
def joinSp : List (List UInt8) → List UInt8
  | [] => []
  | [p] => p
  | p :: q :: r => p ++ 32 :: joinSp (q :: r)
/-- no part holds a space -/
def NoSp (l : List UInt8) : Prop := ∀ x ∈ l, x ≠ 32
theorem parts_cons (c : UInt8) (r : List UInt8) (h : c ≠ 32) : parts (c :: r) = match parts r with | [] => [[c]] | p :: ps => (c :: p) :: ps := by
  rw [parts, if_neg h]
  all_goals rfl
theorem parts_sp (r : List UInt8) : parts (32 :: r) = [] :: parts r := by
  rw [parts, if_pos rfl]
theorem parts_end (a : List UInt8) (h : NoSp a) : parts a = [a] := by
  induction a with
  | nil => rfl
  | cons c r ih =>
    rw [parts_cons _ _ (h c (by simp)), ih (fun x hx => h x (by simp [hx]))]
theorem parts_cut (a r : List UInt8) (h : NoSp a) : parts (a ++ 32 :: r) = a :: parts r := by
  induction a with
  | nil => exact parts_sp r
  | cons c a ih =>
    rw [List.cons_append, parts_cons _ _ (h c (by simp)), ih (fun x hx => h x (by simp [hx]))]
theorem parts_join : ∀ ts : List (List UInt8), ts ≠ [] → (∀ t ∈ ts, NoSp t) → parts (joinSp ts) = ts
  | [], h, _ => absurd rfl h
  | [p], _, h => parts_end p (h p (by simp))
  | p :: q :: r, _, h => by
    unfold joinSp
    rw [parts_cut p _ (h p (by simp)), parts_join (q :: r) (by simp) (fun t ht => h t (by simp at ht ⊢; exact .inr ht))]
theorem join_inj {ts us : List (List UInt8)} (h1 : ts ≠ []) (h2 : us ≠ []) (n1 : ∀ t ∈ ts, NoSp t) (n2 : ∀ t ∈ us, NoSp t) (h : joinSp ts = joinSp us) : ts = us := by
  have := parts_join ts h1 n1
  rw [h, parts_join us h2 n2] at this
  exact this.symm
theorem nosp_dd (n : Nat) : NoSp (Lib.decDigits n) := fun x hx e => by
  have := dd_bytes n x hx
  subst e
  revert this
  decide

/-! ### a place's name in parts -/
def Spot.toks (s : Spot) : List (List UInt8) :=
  if s.kind = 0 then [onceNames.getD s.a.toNat []]
  else if s.kind = 3 then [kindNames.getD 3 [], Lib.decDigits s.a.toNat, Lib.decDigits s.b.toNat]
  else [kindNames.getD s.kind.toNat [], Lib.decDigits s.a.toNat]
theorem name_toks (s : Spot) : s.name.data.toList = joinSp s.toks := by
  unfold Spot.name Spot.toks
  split
  · simp [joinSp, onceName]
  · split
    · simp [joinSp, kindName, spc, nat, dec, ByteArray.data_append]
    · simp [joinSp, kindName, spc, nat, dec, ByteArray.data_append]
/-- a right spot -/
structure Spot.Ok (s : Spot) : Prop where
  k : 0 ≤ s.kind ∧ s.kind < 7
  a : 0 ≤ s.a
  b : 0 ≤ s.b
  once : s.kind = 0 → s.a < 5 ∧ s.b = 0
  two : s.kind ≠ 3 → s.b = 0
theorem once_nosp : ∀ j, j < 5 → NoSp (onceNames.getD j []) := by
  have : ∀ j, j < 5 → ((onceNames.getD j []).all fun x => decide (x ≠ 32)) = true := by decide
  intro j hj x hx
  have := List.all_eq_true.1 (this j hj) x hx
  simpa using this
theorem kind_nosp : ∀ j, j < 7 → NoSp (kindNames.getD j []) := by
  have : ∀ j, j < 7 → ((kindNames.getD j []).all fun x => decide (x ≠ 32)) = true := by decide
  intro j hj x hx
  have := List.all_eq_true.1 (this j hj) x hx
  simpa using this
theorem toks_nosp {s : Spot} (h : s.Ok) : ∀ t ∈ s.toks, NoSp t := by
  have hk := h.k
  unfold Spot.toks
  split
  · rename_i h0
    intro t ht
    simp at ht
    subst ht
    have := (h.once h0).1
    have := h.a
    exact once_nosp _ (by omega)
  · split
    · intro t ht
      simp at ht
      rcases ht with rfl | rfl | rfl
      · exact kind_nosp 3 (by decide)
      · exact nosp_dd _
      · exact nosp_dd _
    · intro t ht
      simp at ht
      rcases ht with rfl | rfl
      · exact kind_nosp _ (by omega)
      · exact nosp_dd _
theorem toks_ne (s : Spot) : s.toks ≠ [] := by unfold Spot.toks; split <;> (try split) <;> simp
/-- of the first part hangs how many there are -/
def tokLen (t : List UInt8) : Nat := if t = [114, 101, 103] then 3 else if t = [105, 110] ∨ t = [103, 108, 111, 98] ∨ t = [99, 97, 114] ∨ t = [99, 100, 114] ∨ t = [99, 111, 108, 111, 117, 114] then 2 else 1
theorem toks_len {s : Spot} (h : s.Ok) : ∃ t r, s.toks = t :: r ∧ s.toks.length = tokLen t := by
  have hk := h.k
  unfold Spot.toks
  split
  · rename_i h0
    refine ⟨_, _, rfl, ?_⟩
    have h1 := (h.once h0).1
    have h2 := h.a
    have : ∀ j, j < 5 → tokLen (onceNames.getD j []) = 1 := by decide
    rw [this _ (by omega)]
    rfl
  · split
    · exact ⟨_, _, rfl, (show 3 = _ by decide)⟩
    · refine ⟨_, _, rfl, ?_⟩
      have : ∀ j, j < 7 → j ≠ 0 → j ≠ 3 → tokLen (kindNames.getD j []) = 2 := by decide
      rw [this s.kind.toNat (by omega) (by omega) (by omega)]
      rfl
theorem toks_inj {s t : Spot} (hs : s.Ok) (ht : t.Ok) (h : s.toks = t.toks) : s = t := by
  have k1 := hs.k
  have k2 := ht.k
  have a1 := hs.a
  have a2 := ht.a
  obtain ⟨sk, sa, sb⟩ := s
  obtain ⟨tk, ta, tb⟩ := t
  unfold Spot.toks at h
  simp only at h k1 k2 a1 a2
  by_cases h0 : sk = 0
  · by_cases g0 : tk = 0
    · subst h0; subst g0
      rw [if_pos rfl, if_pos rfl] at h
      have o1 := hs.once rfl
      have o2 := ht.once rfl
      simp only at o1 o2
      have : ∀ i, i < 5 → ∀ j, j < 5 → onceNames.getD i [] = onceNames.getD j [] → i = j := by decide
      have := this sa.toNat (by omega) ta.toNat (by omega) (by simpa using h)
      rw [o1.2, o2.2, show sa = ta by omega]
    · exfalso
      rw [if_pos h0, if_neg g0] at h
      split at h <;> simp at h
  · by_cases g0 : tk = 0
    · exfalso
      rw [if_neg h0, if_pos g0] at h
      split at h <;> simp at h
    · rw [if_neg h0, if_neg g0] at h
      by_cases h3 : sk = 3
      · by_cases g3 : tk = 3
        · rw [if_pos h3, if_pos g3] at h
          simp at h
          have e1 := dd_inj h.1
          have e2 := dd_inj h.2
          have b1 := hs.b
          have b2 := ht.b
          simp only at b1 b2
          rw [h3, g3, show sa = ta by omega, show sb = tb by omega]
        · exfalso
          rw [if_pos h3, if_neg g3] at h
          simp at h
      · by_cases g3 : tk = 3
        · exfalso
          rw [if_neg h3, if_pos g3] at h
          simp at h
        · rw [if_neg h3, if_neg g3] at h
          simp only [List.cons.injEq, and_true] at h
          have : ∀ i, i < 7 → ∀ j, j < 7 → kindNames.getD i [] = kindNames.getD j [] → i = j := by decide
          have e0 := this sk.toNat (by omega) tk.toNat (by omega) h.1
          have e1 := dd_inj h.2
          have z1 := hs.two h3
          have z2 := ht.two g3
          simp only at z1 z2
          rw [z1, z2, show sk = tk by omega, show sa = ta by omega]
theorem Cfg.spot_ok (c : Cfg) (ok : c.ok = true) (k : Int) (h0 : 0 ≤ k) : (c.spot k).Ok := by
  have hb := c.bounds ok
  have ho := c.ok_iff.1 ok
  unfold Cfg.spot
  split
  · exact ⟨by simp, by simpa using h0, by simp, by simp; omega, by simp⟩
  · split
    · exact ⟨by simp, by simp; omega, by simp, by simp, by simp⟩
    · split
      · exact ⟨by simp, by simp; omega, by simp, by simp, by simp⟩
      · split
        · rename_i h2 h3 h4 h5
          have e1 : 0 ≤ (k - c.b2) / c.regs := Int.ediv_nonneg (by omega) (by omega)
          have e3 := Int.emod_nonneg (k - c.b2) (show c.regs ≠ 0 by omega)
          exact ⟨by simp, by simpa using e1, by simpa using e3, by simp, by simp⟩
        · refine ⟨by simp; omega, by simp; omega, by simp, fun h => ?_, by simp⟩
          simp at h
          omega
/-- where a spot lies -/
def Cfg.where_ (c : Cfg) (s : Spot) : Int :=
  if s.kind = 0 then s.a else if s.kind = 1 then 5 + s.a else if s.kind = 2 then c.b1 + s.a else if s.kind = 3 then c.b2 + (s.a * c.regs + s.b) else c.b3 + 3 * s.a + (s.kind - 4)
theorem Cfg.where_spot (c : Cfg) (ok : c.ok = true) (k : Int) (h0 : 0 ≤ k) : c.where_ (c.spot k) = k := by
  have hb := c.bounds ok
  have ho := c.ok_iff.1 ok
  unfold Cfg.spot
  split
  · simp [Cfg.where_]
  · split
    · simp [Cfg.where_]
      omega
    · split
      · simp [Cfg.where_]
        omega
      · split
        · simp [Cfg.where_]
          have := Int.mul_ediv_add_emod (k - c.b2) c.regs
          rw [Int.mul_comm] at this
          omega
        · rename_i h2 h3 h4 h5
          unfold Cfg.where_
          simp only
          rw [if_neg (by omega), if_neg (by omega), if_neg (by omega), if_neg (by omega)]
          omega
theorem Cfg.spot_inj (c : Cfg) (ok : c.ok = true) {k j : Int} (hk : 0 ≤ k) (hj : 0 ≤ j) (h : c.spot k = c.spot j) : k = j := by
  rw [← c.where_spot ok k hk, h, c.where_spot ok j hj]
end Go.Proofs.YtcheafeaioflmaaDoor

/- Configurations as texts: what a text's parts and numbers are; unlike configurations have unlike texts. -/
import Derived.Test.YtcheafeaioflmaaDoorParts
import Derived.Test.YtcheafeaioflmaaDoorWordDec
import Derived.Test.YtcheafeaioflmaaDoorConfig
import Derived.Test.YtcheafeaioflmaaDoorJoinSp
namespace Go.Proofs.YtcheafeaioflmaaDoor
open Go Go.RowKit
set_option linter.unusedVariables false

def cfgWords : List (List UInt8) := [[99, 101, 108, 108, 115], [109, 117, 116, 115], [114, 101, 103, 115], [103, 108, 111, 98, 115]]
theorem cfgw_nosp : ∀ j, j < 4 → NoSp (cfgWords.getD j []) := by
  have : ∀ j, j < 4 → ((cfgWords.getD j []).all fun x => decide (x ≠ 32)) = true := by decide
  intro j hj x hx
  have := List.all_eq_true.1 (this j hj) x hx
  simpa using this
def Cfg.tparts (c : Cfg) : List (List UInt8) := [cfgWords.getD 0 [], Lib.decDigits c.cells.toNat, cfgWords.getD 1 [], Lib.decDigits c.muts.toNat, cfgWords.getD 2 [], Lib.decDigits c.regs.toNat, cfgWords.getD 3 [], Lib.decDigits c.globs.toNat]
def Cfg.tbytes (c : Cfg) : List UInt8 := if c.ok = true then joinSp c.tparts else []
def Cfg.text (c : Cfg) : ByteArray := ⟨c.tbytes.toArray⟩
theorem tparts_nosp (c : Cfg) : ∀ t ∈ c.tparts, NoSp t := by
  intro t ht
  simp only [Cfg.tparts, List.mem_cons, List.not_mem_nil, or_false] at ht
  rcases ht with rfl | rfl | rfl | rfl | rfl | rfl | rfl | rfl
  · exact cfgw_nosp 0 (by decide)
  · exact nosp_dd _
  · exact cfgw_nosp 1 (by decide)
  · exact nosp_dd _
  · exact cfgw_nosp 2 (by decide)
  · exact nosp_dd _
  · exact cfgw_nosp 3 (by decide)
  · exact nosp_dd _
theorem tbytes_parts (c : Cfg) (ok : c.ok = true) : parts c.tbytes = c.tparts := by
  unfold Cfg.tbytes
  rw [if_pos ok]
  exact parts_join _ (by simp [Cfg.tparts]) (tparts_nosp c)
theorem cfg_inj {c d : Cfg} (oc : c.ok = true) (od : d.ok = true) (h : c.text = d.text) : c = d := by
  have hb : c.tbytes = d.tbytes := by
    have := congrArg (fun b : ByteArray => b.data.toList) h
    simpa [Cfg.text] using this
  have hp : c.tparts = d.tparts := by rw [← tbytes_parts c oc, ← tbytes_parts d od, hb]
  have ho := c.ok_iff.1 oc
  have hq := d.ok_iff.1 od
  unfold Cfg.tparts at hp
  simp only [List.cons.injEq, true_and, and_true] at hp
  obtain ⟨h1, h2, h3, h4⟩ := hp
  have e1 := dd_inj h1
  have e2 := dd_inj h2
  have e3 := dd_inj h3
  have e4 := dd_inj h4
  obtain ⟨a, b, e, f⟩ := c
  obtain ⟨a', b', e', f'⟩ := d
  simp only at *
  rw [show a = a' by omega, show b = b' by omega, show e = e' by omega, show f = f' by omega]
/-! ### the reference's reading -/
def skipW (l : List UInt8) : List UInt8 := l.dropWhile fun x => x != 32
def numW : Int → List UInt8 → Int × List UInt8
  | acc, [] => (acc, [])
  | acc, c :: r => if c ≠ 32 ∧ acc < 10000 then numW (IntKind.i64.wrap (IntKind.i64.wrap (IntKind.i64.wrap (10 * acc) + c.toNat) - 48)) r else (acc, c :: r)
def rnd (l : List UInt8) : Int × List UInt8 := ((numW 0 (skipW l).tail).1, (numW 0 (skipW l).tail).2.tail)
theorem skipW_word (a r : List UInt8) (h : NoSp a) : skipW (a ++ 32 :: r) = 32 :: r := by
  induction a with
  | nil => rfl
  | cons c a ih =>
    have hc : (c != 32) = true := by simpa using h c (by simp)
    unfold skipW at ih ⊢
    rw [List.cons_append, List.dropWhile_cons_of_pos (p := fun x : UInt8 => x != 32) hc]
    exact ih (fun x hx => h x (by simp [hx]))
theorem numW_dec (l : List UInt8) : ∀ (acc m : Nat) (r : List UInt8), Lib.decFrom acc l = some m → m < 10000 → (∀ x r', r = x :: r' → x = 32) → numW acc (l ++ r) = ((m : Int), r) := by
  induction l with
  | nil =>
    intro acc m r h hm hr
    simp [Lib.decFrom] at h
    subst h
    rw [List.nil_append]
    cases r with
    | nil => rfl
    | cons x r' =>
      have := hr x r' rfl
      subst this
      unfold numW
      rw [if_neg (fun h => h.1 rfl)]
  | cons c l ih =>
    intro acc m r h hm hr
    unfold Lib.decFrom at h
    cases hd : Lib.digitVal c with
    | none => rw [hd] at h; cases h
    | some d =>
      rw [hd] at h
      obtain ⟨h1, h2, h3⟩ := Lib.digitVal_eq hd
      have hg := decFrom_ge l _ _ h
      rw [List.cons_append]
      unfold numW
      have hc : c ≠ 32 := fun e => by subst e; revert h1; decide
      rw [if_pos ⟨hc, by omega⟩]
      have e : IntKind.i64.wrap (IntKind.i64.wrap (IntKind.i64.wrap (10 * (acc : Int)) + c.toNat) - 48) = ((acc * 10 + d : Nat) : Int) := by
        rw [IntWalk.i64_in (10 * (acc : Int)) (by omega), IntWalk.i64_in (10 * (acc : Int) + c.toNat) (by omega), IntWalk.i64_in _ (by omega)]
        omega
      rw [e]
      exact ih _ _ _ h hm hr
theorem numW_zero (l : List UInt8) : numW 0 l = numW ((0 : Nat) : Int) l := rfl
theorem rnd_mid (a r : List UInt8) (n : Nat) (h : NoSp a) (hn : n < 10000) : rnd (a ++ 32 :: (Lib.decDigits n ++ 32 :: r)) = ((n : Int), r) := by
  unfold rnd
  rw [skipW_word _ _ h, List.tail_cons, numW_zero, numW_dec _ 0 n (32 :: r) (dd_read n) hn (fun x r' e => (List.cons.inj e).1.symm)]
  rfl
theorem rnd_end (a : List UInt8) (n : Nat) (h : NoSp a) (hn : n < 10000) : rnd (a ++ 32 :: Lib.decDigits n) = ((n : Int), []) := by
  have := numW_dec _ 0 n [] (dd_read n) hn (fun x r' e => by cases e)
  rw [List.append_nil] at this
  unfold rnd
  rw [skipW_word _ _ h, List.tail_cons, numW_zero, this]
  rfl
def rnds (l : List UInt8) : Nat → List UInt8
  | 0 => l
  | k + 1 => (rnd (rnds l k)).2
def rnum (l : List UInt8) (k : Nat) : Int := (rnd (rnds l k)).1
theorem rnum_text (c : Cfg) (ok : c.ok = true) : rnum c.tbytes 0 = c.cells ∧ rnum c.tbytes 1 = c.muts ∧ rnum c.tbytes 2 = c.regs ∧ rnum c.tbytes 3 = c.globs := by
  have ho := c.ok_iff.1 ok
  have hb : c.tbytes = cfgWords.getD 0 [] ++ 32 :: (Lib.decDigits c.cells.toNat ++ 32 :: (cfgWords.getD 1 [] ++ 32 :: (Lib.decDigits c.muts.toNat ++ 32 :: (cfgWords.getD 2 [] ++ 32 :: (Lib.decDigits c.regs.toNat ++ 32 :: (cfgWords.getD 3 [] ++ 32 :: Lib.decDigits c.globs.toNat)))))) := by
    unfold Cfg.tbytes
    rw [if_pos ok]
    rfl
  have r0 := rnd_mid (cfgWords.getD 0 []) (cfgWords.getD 1 [] ++ 32 :: (Lib.decDigits c.muts.toNat ++ 32 :: (cfgWords.getD 2 [] ++ 32 :: (Lib.decDigits c.regs.toNat ++ 32 :: (cfgWords.getD 3 [] ++ 32 :: Lib.decDigits c.globs.toNat))))) c.cells.toNat (cfgw_nosp 0 (by decide)) (by omega)
  have r1 := rnd_mid (cfgWords.getD 1 []) (cfgWords.getD 2 [] ++ 32 :: (Lib.decDigits c.regs.toNat ++ 32 :: (cfgWords.getD 3 [] ++ 32 :: Lib.decDigits c.globs.toNat))) c.muts.toNat (cfgw_nosp 1 (by decide)) (by omega)
  have r2 := rnd_mid (cfgWords.getD 2 []) (cfgWords.getD 3 [] ++ 32 :: Lib.decDigits c.globs.toNat) c.regs.toNat (cfgw_nosp 2 (by decide)) (by omega)
  have r3 := rnd_end (cfgWords.getD 3 []) c.globs.toNat (cfgw_nosp 3 (by decide)) (by omega)
  rw [← hb] at r0
  unfold rnum
  simp only [rnds]
  rw [r0]
  simp only
  rw [r1]
  simp only
  rw [r2]
  simp only
  rw [r3]
  simp only
  omega
end Go.Proofs.YtcheafeaioflmaaDoor

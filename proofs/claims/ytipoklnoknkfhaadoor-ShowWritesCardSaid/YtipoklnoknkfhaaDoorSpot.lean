/- What each place of a configuration is, and its name: plain laws. -/
import Derived.Test.YtipoklnoknkfhaaDoorDec
import Derived.Test.YtipoklnoknkfhaaDoorPlace
import Derived.Lib.ItoaMem
namespace Go.Proofs.YtipoklnoknkfhaaDoor
open Go Go.RowKit

def Cfg.b1 (c : Cfg) : Int := 5 + c.muts
def Cfg.b2 (c : Cfg) : Int := 5 + c.muts + c.globs
def Cfg.b3 (c : Cfg) : Int := 5 + c.muts + c.globs + c.muts * c.regs
/-- what a place is: its kind, and numbers -/
structure Spot where
  kind : Int
  a : Int
  b : Int
  deriving DecidableEq
def Cfg.spot (c : Cfg) (k : Int) : Spot :=
  if k < 5 then ⟨0, k, 0⟩
  else if k < c.b1 then ⟨1, k - 5, 0⟩
  else if k < c.b2 then ⟨2, k - c.b1, 0⟩
  else if k < c.b3 then ⟨3, (k - c.b2) / c.regs, (k - c.b2) % c.regs⟩
  else ⟨4 + (k - c.b3) % 3, (k - c.b3) / 3, 0⟩
theorem Cfg.words_b3 (c : Cfg) (h : c.ok = true) : c.words = c.b3 + 3 * c.cells := by
  unfold Cfg.words Cfg.roots Cfg.b3
  rw [if_pos h, if_pos h]
  omega
theorem Cfg.bounds (c : Cfg) (h : c.ok = true) : 6 ≤ c.b1 ∧ c.b1 ≤ c.b2 ∧ c.b2 < c.b3 ∧ c.b3 ≤ 4164 ∧ c.b1 = 5 + c.muts ∧ c.b2 = c.b1 + c.globs ∧ c.b3 = c.b2 + c.muts * c.regs := by
  have h1 := c.mr h
  rw [Cfg.ok_iff] at h
  unfold Cfg.b1 Cfg.b2 Cfg.b3
  omega
theorem Cfg.spot_0 (c : Cfg) (k : Int) (h : k < 5) : c.spot k = ⟨0, k, 0⟩ := by unfold Cfg.spot; rw [if_pos h]
theorem Cfg.spot_1 (c : Cfg) (ok : c.ok = true) (i : Int) (h0 : 0 ≤ i) (h : i < c.muts) : c.spot (5 + i) = ⟨1, i, 0⟩ := by
  have hb := c.bounds ok
  unfold Cfg.spot
  rw [if_neg (by omega), if_pos (by omega), show 5 + i - 5 = i by omega]
theorem Cfg.spot_2 (c : Cfg) (ok : c.ok = true) (i : Int) (h0 : 0 ≤ i) (h : i < c.globs) : c.spot (c.b1 + i) = ⟨2, i, 0⟩ := by
  have hb := c.bounds ok
  unfold Cfg.spot
  rw [if_neg (by omega), if_neg (by omega), if_pos (by omega), show c.b1 + i - c.b1 = i by omega]
theorem row_lt {i r n m : Int} (h0 : 0 ≤ i) (h : i < m) (h1 : 0 ≤ r) (h2 : r < n) : 0 ≤ i * n + r ∧ i * n + r < m * n := by
  have h3 : i * n + n ≤ m * n := by
    have := Int.mul_le_mul_of_nonneg_right (show i + 1 ≤ m by omega) (show 0 ≤ n by omega)
    rwa [Int.add_mul, Int.one_mul] at this
  have h4 : 0 ≤ i * n := Int.mul_nonneg h0 (by omega)
  omega
theorem row_div {i r n : Int} (h1 : 0 ≤ r) (h2 : r < n) : (i * n + r) / n = i ∧ (i * n + r) % n = r := by
  have hn : n ≠ 0 := by omega
  constructor
  · rw [Int.add_comm, Int.add_mul_ediv_right _ _ hn, Int.ediv_eq_zero_of_lt h1 h2]
    omega
  · rw [Int.add_comm, Int.add_mul_emod_self_right, Int.emod_eq_of_lt h1 h2]
theorem Cfg.spot_3 (c : Cfg) (ok : c.ok = true) (i r : Int) (h0 : 0 ≤ i) (h : i < c.muts) (h1 : 0 ≤ r) (h2 : r < c.regs) : c.spot (c.b2 + (i * c.regs + r)) = ⟨3, i, r⟩ := by
  have hb := c.bounds ok
  have hr := row_lt h0 h h1 h2
  obtain ⟨d1, d2⟩ := row_div (i := i) h1 h2
  unfold Cfg.spot
  rw [if_neg (by omega), if_neg (by omega), if_neg (by omega), if_pos (by omega), show c.b2 + (i * c.regs + r) - c.b2 = i * c.regs + r by omega, d1, d2]
theorem Cfg.spot_4 (c : Cfg) (ok : c.ok = true) (i d : Int) (h0 : 0 ≤ i) (h1 : 0 ≤ d) (h2 : d < 3) : c.spot (c.b3 + 3 * i + d) = ⟨4 + d, i, 0⟩ := by
  have hb := c.bounds ok
  unfold Cfg.spot
  rw [if_neg (by omega), if_neg (by omega), if_neg (by omega), if_neg (by omega)]
  congr 1 <;> omega

/-! ### names -/
def onceNames : List (List UInt8) := [[102, 114, 101, 101], [103, 97, 116, 101], [100, 105, 114, 116, 121], [110, 101, 120, 116], [115, 101, 114, 118, 101]]
def kindNames : List (List UInt8) := [[], [105, 110], [103, 108, 111, 98], [114, 101, 103], [99, 97, 114], [99, 100, 114], [99, 111, 108, 111, 117, 114]]
def onceName (a : Int) : ByteArray := ⟨(onceNames.getD a.toNat []).toArray⟩
def kindName (k : Int) : ByteArray := ⟨(kindNames.getD k.toNat []).toArray⟩
def spc : ByteArray := ⟨#[32]⟩
def nat (n : Int) : ByteArray := dec n.toNat
def Spot.name (s : Spot) : ByteArray :=
  if s.kind = 0 then onceName s.a
  else if s.kind = 3 then kindName 3 ++ spc ++ nat s.a ++ spc ++ nat s.b
  else kindName s.kind ++ spc ++ nat s.a
def Cfg.name (c : Cfg) (k : Int) : ByteArray := if c.ok = true ∧ 0 ≤ k ∧ k < c.words then (c.spot k).name else ⟨#[]⟩
/-- the word of a place at first -/
def Cfg.first (c : Cfg) (k : Int) : Int :=
  if (c.spot k).kind = 5 ∧ (c.spot k).a + 1 < c.cells then 2 * ((c.spot k).a + 1) + 1
  else if (c.spot k).kind = 0 ∧ (c.spot k).a = 0 then 1 else 0
end Go.Proofs.YtipoklnoknkfhaaDoor

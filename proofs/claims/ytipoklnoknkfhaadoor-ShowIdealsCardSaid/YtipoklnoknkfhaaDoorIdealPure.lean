/- The ideal store as plain Lean: what each operation leaves and answers. No program in sight. -/
import Derived.Test.YtipoklnoknkfhaaDoorOp
namespace Go.Proofs.YtipoklnoknkfhaaDoor
open Go Go.RowKit
set_option linter.unusedSimpArgs false
set_option linter.unusedVariables false

/-- an ideal store: its configuration, registers, globals and cells -/
structure Sto where
  c : Cfg
  rs : List Int
  gs : List Int
  cs : List (Int × Int)

def Sto.ix (s : Sto) (m r : Int) : Nat := (m * s.c.regs + r).toNat
def Sto.reg (s : Sto) (m r : Int) : Int := wd s.rs (s.ix m r)
def Sto.setReg (s : Sto) (m r x : Int) : Sto := { s with rs := s.rs.set (s.ix m r) x }
/-- the cell that a value is -/
def Sto.at_ (s : Sto) (w : Int) : Option Nat := if w % 2 = 1 ∧ w / 2 < s.cs.length then some (w / 2).toNat else none
def Sto.car (s : Sto) (i : Nat) : Int := (s.cs.getD i (0, 0)).1
def Sto.cdr (s : Sto) (i : Nat) : Int := (s.cs.getD i (0, 0)).2
def Sto.setCar (s : Sto) (i : Nat) (x : Int) : Sto := { s with cs := s.cs.set i (x, s.cdr i) }
def Sto.setCdr (s : Sto) (i : Nat) (x : Int) : Sto := { s with cs := s.cs.set i (s.car i, x) }
def Sto.push (s : Sto) (p : Int × Int) : Sto := { s with cs := s.cs ++ [p] }
def Sto.fits (s : Sto) (m : Int) (x : Opr) : Bool := decide (0 ≤ m ∧ m < s.c.muts) && (x.err s.c == 0)

/-- what Do leaves, of an operation that is right -/
def Sto.did (s : Sto) (m : Int) (x : Opr) (full : Bool) : Sto × Int :=
  if x.kind = 1 then (s.setReg m x.a (x.b * 2), 1)
  else if x.kind = 2 then (s.setReg m x.a (s.reg m x.b), 1)
  else if x.kind = 3 then (if full = true then (s, 5) else ((s.push (s.reg m x.b, s.reg m x.c)).setReg m x.a (s.cs.length * 2 + 1), 1))
  else if x.kind = 4 then (match s.at_ (s.reg m x.b) with | none => (s, 4) | some i => (s.setReg m x.a (s.car i), 1))
  else if x.kind = 5 then (match s.at_ (s.reg m x.b) with | none => (s, 4) | some i => (s.setReg m x.a (s.cdr i), 1))
  else if x.kind = 6 then (match s.at_ (s.reg m x.a) with | none => (s, 4) | some i => (s.setCar i (s.reg m x.b), 1))
  else if x.kind = 7 then (match s.at_ (s.reg m x.a) with | none => (s, 4) | some i => (s.setCdr i (s.reg m x.b), 1))
  else if x.kind = 8 then (s.setReg m x.a (wd s.gs x.b.toNat), 1)
  else if x.kind = 9 then ({ s with gs := s.gs.set x.a.toNat (s.reg m x.b) }, 1)
  else if x.kind = 10 then (s, if s.reg m x.a = s.reg m x.b then 2 else 3)
  else (s, if s.at_ (s.reg m x.a) = none then 2 else 3)
def Sto.act (s : Sto) (m : Int) (x : Opr) (full : Bool) : Sto × Int := if s.fits m x = true then s.did m x full else (s, 6)

/-- what the readers tell -/
def Sto.regAt (s : Sto) (m r : Int) : Int := if 0 ≤ m ∧ m < s.c.muts ∧ 0 ≤ r ∧ r < s.c.regs then s.reg m r else 0
def Sto.globAt (s : Sto) (g : Int) : Int := if 0 ≤ g ∧ g < s.gs.length then wd s.gs g.toNat else 0
def Sto.carAt (s : Sto) (i : Int) : Int := if 0 ≤ i ∧ i < s.cs.length then s.car i.toNat else 0
def Sto.cdrAt (s : Sto) (i : Int) : Int := if 0 ≤ i ∧ i < s.cs.length then s.cdr i.toNat else 0

def Sto.new (muts regs globs : Int) : Sto := ⟨⟨2, muts, regs, globs⟩, List.replicate (muts * regs).toNat 0, List.replicate globs.toNat 0, []⟩

/-- a word, of a store with n cells -/
def Wd (n : Nat) (w : Int) : Prop := 0 ≤ w ∧ w < 18446744073709551616 ∧ (w % 2 = 1 → w / 2 < n)
structure Sto.Ok (s : Sto) : Prop where
  ok : s.c.ok = true
  rl : s.rs.length = (s.c.muts * s.c.regs).toNat
  gl : s.gs.length = s.c.globs.toNat
  rw_ : ∀ w ∈ s.rs, Wd s.cs.length w
  gw : ∀ w ∈ s.gs, Wd s.cs.length w
  cw : ∀ p ∈ s.cs, Wd s.cs.length p.1 ∧ Wd s.cs.length p.2
  few : s.cs.length ≤ 1000000

theorem Wd.more {n n' : Nat} {w : Int} (h : Wd n w) (hn : n ≤ n') : Wd n' w := ⟨h.1, h.2.1, fun o => by have := h.2.2 o; omega⟩
theorem Wd.zero (n : Nat) : Wd n 0 := ⟨by omega, by omega, fun h => by simp at h⟩
theorem wd_mem {xs : List Int} {i : Nat} (h : i < xs.length) : wd xs i ∈ xs := by simp [wd, h]
theorem wd_set (xs : List Int) (i j : Nat) (x : Int) : wd (xs.set i x) j = if i = j ∧ j < xs.length then x else wd xs j := by
  unfold wd
  by_cases h : j < xs.length
  · simp only [List.getD_eq_getElem?_getD, List.getElem?_set]
    by_cases e : i = j
    · simp [e, h]
    · simp [e]
  · have h1 : (xs.set i x).length ≤ j := by simp; omega
    simp [List.getD_eq_getElem?_getD, List.getElem?_eq_none h1, List.getElem?_eq_none (by omega : xs.length ≤ j), h]
theorem Sto.Ok.ix {s : Sto} (h : s.Ok) {m r : Int} (h0 : 0 ≤ m) (h1 : m < s.c.muts) (h2 : 0 ≤ r) (h3 : r < s.c.regs) : s.ix m r < s.rs.length ∧ ((s.ix m r : Nat) : Int) = m * s.c.regs + r ∧ 0 ≤ m * s.c.regs ∧ m * s.c.regs + r < 4096 := by
  obtain ⟨_, _⟩ := s.c.mr h.ok
  obtain ⟨_, _, _, _, _, _, _, _⟩ := s.c.ok_iff.1 h.ok
  have e1 : (m + 1) * s.c.regs ≤ s.c.muts * s.c.regs := Int.mul_le_mul_of_nonneg_right (by omega) (by omega)
  have e2 : (m + 1) * s.c.regs = m * s.c.regs + s.c.regs := by rw [Int.add_mul]; omega
  have e3 : 0 ≤ m * s.c.regs := Int.mul_nonneg (by omega) (by omega)
  rw [h.rl]
  unfold Sto.ix
  omega
theorem Sto.Ok.regW {s : Sto} (h : s.Ok) {m r : Int} (h0 : 0 ≤ m) (h1 : m < s.c.muts) (h2 : 0 ≤ r) (h3 : r < s.c.regs) : Wd s.cs.length (s.reg m r) :=
  h.rw_ _ (wd_mem (h.ix h0 h1 h2 h3).1)
theorem Sto.Ok.globW {s : Sto} (h : s.Ok) {g : Int} (h0 : 0 ≤ g) (h1 : g < s.c.globs) : Wd s.cs.length (wd s.gs g.toNat) :=
  h.gw _ (wd_mem (by rw [h.gl]; omega))
theorem Sto.Ok.cellW {s : Sto} (h : s.Ok) (i : Nat) : Wd s.cs.length (s.car i) ∧ Wd s.cs.length (s.cdr i) := by
  unfold Sto.car Sto.cdr
  by_cases hi : i < s.cs.length
  · have := h.cw _ (List.getElem_mem hi)
    simpa [List.getD_eq_getElem?_getD, hi] using this
  · simp [List.getD_eq_getElem?_getD, List.getElem?_eq_none (by omega : s.cs.length ≤ i), Wd.zero]
theorem Sto.Ok.setReg {s : Sto} (h : s.Ok) (m r : Int) {x : Int} (hx : Wd s.cs.length x) : (s.setReg m r x).Ok :=
  ⟨h.ok, by simpa [Sto.setReg] using h.rl, h.gl, fun w hw => by
    rcases List.mem_or_eq_of_mem_set hw with h1 | rfl
    · exact h.rw_ _ h1
    · exact hx, h.gw, h.cw, h.few⟩
theorem Sto.Ok.setGlob {s : Sto} (h : s.Ok) (g : Nat) {x : Int} (hx : Wd s.cs.length x) : ({ s with gs := s.gs.set g x } : Sto).Ok :=
  ⟨h.ok, h.rl, by simpa using h.gl, h.rw_, fun w hw => by
    rcases List.mem_or_eq_of_mem_set hw with h1 | rfl
    · exact h.gw _ h1
    · exact hx, h.cw, h.few⟩
theorem Sto.Ok.setCell {s : Sto} (h : s.Ok) (i : Nat) {p : Int × Int} (hx : Wd s.cs.length p.1 ∧ Wd s.cs.length p.2) : ({ s with cs := s.cs.set i p } : Sto).Ok :=
  ⟨h.ok, h.rl, h.gl, by simpa using h.rw_, by simpa using h.gw, fun w hw => by
    rw [List.length_set]
    rcases List.mem_or_eq_of_mem_set hw with h1 | rfl
    · exact h.cw _ h1
    · exact hx, by simpa using h.few⟩
theorem Sto.Ok.push {s : Sto} (h : s.Ok) {p : Int × Int} (hx : Wd s.cs.length p.1 ∧ Wd s.cs.length p.2) (hf : s.cs.length < 1000000) : (s.push p).Ok := by
  have hl : (s.push p).cs.length = s.cs.length + 1 := by simp [Sto.push]
  refine ⟨h.ok, h.rl, h.gl, fun w hw => ?_, fun w hw => ?_, fun w hw => ?_, by omega⟩
  · rw [hl]; exact (h.rw_ w hw).more (by omega)
  · rw [hl]; exact (h.gw w hw).more (by omega)
  · rw [hl]
    rcases List.mem_append.1 hw with h1 | h1
    · exact ⟨(h.cw w h1).1.more (by omega), (h.cw w h1).2.more (by omega)⟩
    · obtain rfl : w = p := by simpa using h1
      exact ⟨hx.1.more (by omega), hx.2.more (by omega)⟩

/-! what Check asks, kind by kind -/
structure Opr.Right (x : Opr) (c : Cfg) : Prop where
  kind : 1 ≤ x.kind ∧ x.kind ≤ 11
  a : x.kind ≠ 9 → 0 ≤ x.a ∧ x.a < c.regs
  ga : x.kind = 9 → 0 ≤ x.a ∧ x.a < c.globs
  b1 : x.kind = 1 → 0 ≤ x.b
  b : x.kind ≠ 1 → x.kind ≠ 8 → x.kind ≠ 11 → 0 ≤ x.b ∧ x.b < c.regs
  gb : x.kind = 8 → 0 ≤ x.b ∧ x.b < c.globs
  cc : x.kind = 3 → 0 ≤ x.c ∧ x.c < c.regs
theorem right_of_err {c : Cfg} {x : Opr} (h : x.err c = 0) : c.ok = true ∧ x.Right c := by
  unfold Opr.err at h
  split at h
  case isFalse => omega
  case isTrue ok =>
    split at h
    case isFalse => omega
    case isTrue hk =>
      split at h
      case isTrue => omega
      case isFalse hb =>
        refine ⟨ok, ?_⟩
        obtain hk' | hk' | hk' | hk' | hk' | hk' | hk' | hk' | hk' | hk' | hk' : x.kind = 1 ∨ x.kind = 2 ∨ x.kind = 3 ∨ x.kind = 4 ∨ x.kind = 5 ∨ x.kind = 6 ∨ x.kind = 7 ∨ x.kind = 8 ∨ x.kind = 9 ∨ x.kind = 10 ∨ x.kind = 11 := by omega
        all_goals
          rw [hk'] at hb
          simp [badFrom, fparts, pbad, Opr.num] at hb
          constructor <;> omega
end Go.Proofs.YtipoklnoknkfhaaDoor

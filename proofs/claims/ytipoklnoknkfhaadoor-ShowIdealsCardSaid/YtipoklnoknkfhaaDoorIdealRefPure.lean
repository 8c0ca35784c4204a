/- The document's store as plain Lean, and that the ideal store does as it says. No program in sight. -/
import Derived.Test.YtipoklnoknkfhaaDoorIdealPure
namespace Go.Proofs.YtipoklnoknkfhaaDoor
open Go Go.RowKit
set_option linter.unusedSimpArgs false
set_option linter.unusedVariables false

structure Pt where
  kind : Int
  a : Int
  b : Int
  w : Int
structure RSto where
  c : Cfg
  puts : List Pt
  n : Int
def getL (l : List Pt) (k a b : Int) : Int := l.foldl (fun acc p => if p.kind = k ∧ p.a = a ∧ p.b = b then p.w else acc) 0
theorem getL_snoc (l : List Pt) (p : Pt) (k a b : Int) : getL (l ++ [p]) k a b = if p.kind = k ∧ p.a = a ∧ p.b = b then p.w else getL l k a b := by
  simp [getL, List.foldl_append]
def RSto.get (x : RSto) (k a b : Int) : Int := getL x.puts k a b
def RSto.put (x : RSto) (k a b w : Int) : RSto := { x with puts := x.puts ++ [⟨k, a, b, w⟩] }
theorem RSto.get_put (x : RSto) (k a b w k' a' b' : Int) : (x.put k a b w).get k' a' b' = if k = k' ∧ a = a' ∧ b = b' then w else x.get k' a' b' := by
  unfold RSto.get RSto.put
  rw [getL_snoc]
def numb (w : Int) : Int := if w % 2 = 0 then -1 else w / 2
def RSto.reg (x : RSto) (m r : Int) : Int := x.get 0 m r
def RSto.did (s : RSto) (m : Int) (x : Opr) (full : Bool) : RSto × Int :=
  if x.kind = 1 then (s.put 0 m x.a (x.b * 2), 1)
  else if x.kind = 2 then (s.put 0 m x.a (s.reg m x.b), 1)
  else if x.kind = 3 then (if full = true then (s, 5) else ({ (((s.put 2 s.n 0 (s.reg m x.b)).put 3 s.n 0 (s.reg m x.c)).put 0 m x.a (s.n * 2 + 1)) with n := s.n + 1 }, 1))
  else if x.kind = 4 ∨ x.kind = 5 then (if numb (s.reg m x.b) < 0 then (s, 4) else (s.put 0 m x.a (s.get (x.kind - 2) (numb (s.reg m x.b)) 0), 1))
  else if x.kind = 6 ∨ x.kind = 7 then (if numb (s.reg m x.a) < 0 then (s, 4) else (s.put (x.kind - 4) (numb (s.reg m x.a)) 0 (s.reg m x.b), 1))
  else if x.kind = 8 then (s.put 0 m x.a (s.get 1 x.b 0), 1)
  else if x.kind = 9 then (s.put 1 x.a 0 (s.reg m x.b), 1)
  else if x.kind = 10 then (s, if s.reg m x.a = s.reg m x.b then 2 else 3)
  else (s, if numb (s.reg m x.a) < 0 then 2 else 3)
def RSto.fits (s : RSto) (m : Int) (x : Opr) : Bool := decide (0 ≤ m ∧ m < s.c.muts) && (x.err s.c == 0)
def RSto.act (s : RSto) (m : Int) (x : Opr) (full : Bool) : RSto × Int := if s.fits m x = true then s.did m x full else (s, 6)

/-- the document's store stands for a store -/
structure Rel (s : Sto) (x : RSto) : Prop where
  c : x.c = s.c
  n : x.n = s.cs.length
  r : ∀ m r, x.get 0 m r = s.regAt m r
  g : ∀ g, x.get 1 g 0 = s.globAt g
  a : ∀ i, x.get 2 i 0 = s.carAt i
  d : ∀ i, x.get 3 i 0 = s.cdrAt i

theorem mul_inj {g m r m' r' : Int} (h : m * g + r = m' * g + r') (h0 : 0 ≤ r) (h1 : r < g) (h2 : 0 ≤ r') (h3 : r' < g) : m = m' ∧ r = r' := by
  rcases Int.lt_trichotomy m m' with hl | rfl | hl
  · have e : (m + 1) * g ≤ m' * g := Int.mul_le_mul_of_nonneg_right (by omega) (by omega)
    rw [Int.add_mul] at e
    omega
  · exact ⟨rfl, by omega⟩
  · have e : (m' + 1) * g ≤ m * g := Int.mul_le_mul_of_nonneg_right (by omega) (by omega)
    rw [Int.add_mul] at e
    omega
theorem regAt_in {s : Sto} {m r : Int} (h : 0 ≤ m ∧ m < s.c.muts) (k : 0 ≤ r ∧ r < s.c.regs) : s.regAt m r = s.reg m r := by
  unfold Sto.regAt; rw [if_pos ⟨h.1, h.2, k.1, k.2⟩]
theorem regAt_setReg {s : Sto} (h : s.Ok) {m r : Int} (hm : 0 ≤ m ∧ m < s.c.muts) (hr : 0 ≤ r ∧ r < s.c.regs) (v m' r' : Int) :
    (s.setReg m r v).regAt m' r' = if m = m' ∧ r = r' then v else s.regAt m' r' := by
  unfold Sto.regAt Sto.reg
  rw [show (s.setReg m r v).c = s.c from rfl, show (s.setReg m r v).rs = s.rs.set (s.ix m r) v from rfl, show (s.setReg m r v).ix m' r' = s.ix m' r' from rfl]
  by_cases hin : 0 ≤ m' ∧ m' < s.c.muts ∧ 0 ≤ r' ∧ r' < s.c.regs
  · rw [if_pos hin, if_pos hin, wd_set]
    obtain ⟨a1, a2, _, _⟩ := h.ix hm.1 hm.2 hr.1 hr.2
    obtain ⟨b1, b2, _, _⟩ := h.ix hin.1 hin.2.1 hin.2.2.1 hin.2.2.2
    by_cases e : m = m' ∧ r = r'
    · obtain ⟨rfl, rfl⟩ := e
      rw [if_pos ⟨rfl, b1⟩, if_pos ⟨rfl, rfl⟩]
    · rw [if_neg e, if_neg]
      rintro ⟨e1, _⟩
      refine e (mul_inj (g := s.c.regs) ?_ hr.1 hr.2 hin.2.2.1 hin.2.2.2)
      omega
  · rw [if_neg hin, if_neg hin, if_neg]
    rintro ⟨rfl, rfl⟩
    exact hin ⟨hm.1, hm.2, hr.1, hr.2⟩
theorem globAt_set {s : Sto} (h : s.Ok) {g : Int} (hg : 0 ≤ g ∧ g < s.c.globs) (v g' : Int) :
    ({ s with gs := s.gs.set g.toNat v } : Sto).globAt g' = if g = g' then v else s.globAt g' := by
  have hl := h.gl
  unfold Sto.globAt
  simp only [List.length_set, wd_set]
  by_cases hin : 0 ≤ g' ∧ g' < s.gs.length
  · rw [if_pos hin, if_pos hin]
    by_cases e : g = g'
    · subst e
      rw [if_pos rfl, if_pos ⟨rfl, by omega⟩]
    · rw [if_neg e, if_neg]
      rintro ⟨e1, _⟩
      omega
  · rw [if_neg hin, if_neg hin, if_neg]
    rintro rfl
    omega
theorem getD_set_pair (l : List (Int × Int)) (i j : Nat) (p : Int × Int) : (l.set i p).getD j (0, 0) = if i = j ∧ j < l.length then p else l.getD j (0, 0) := by
  by_cases h : j < l.length
  · simp only [List.getD_eq_getElem?_getD, List.getElem?_set]
    by_cases e : i = j
    · simp [e, h]
    · simp [e]
  · have h1 : (l.set i p).length ≤ j := by simp; omega
    simp [List.getD_eq_getElem?_getD, List.getElem?_eq_none h1, List.getElem?_eq_none (by omega : l.length ≤ j), h]
theorem carAt_set {s : Sto} {i : Nat} (hi : i < s.cs.length) (p : Int × Int) (i' : Int) :
    ({ s with cs := s.cs.set i p } : Sto).carAt i' = (if (i : Int) = i' then p.1 else s.carAt i') ∧ ({ s with cs := s.cs.set i p } : Sto).cdrAt i' = (if (i : Int) = i' then p.2 else s.cdrAt i') := by
  unfold Sto.carAt Sto.cdrAt Sto.car Sto.cdr
  simp only [List.length_set, getD_set_pair]
  by_cases hin : 0 ≤ i' ∧ i' < s.cs.length
  · rw [if_pos hin, if_pos hin, if_pos hin, if_pos hin]
    by_cases e : (i : Int) = i'
    · rw [if_pos e, if_pos e, if_pos ⟨by omega, by omega⟩]
      exact ⟨rfl, rfl⟩
    · rw [if_neg e, if_neg e, if_neg (by rintro ⟨e1, _⟩; omega)]
      exact ⟨rfl, rfl⟩
  · rw [if_neg hin, if_neg hin, if_neg hin, if_neg hin]
    have e : ¬ (i : Int) = i' := by omega
    rw [if_neg e, if_neg e]
    exact ⟨rfl, rfl⟩
theorem carAt_push {s : Sto} (p : Int × Int) (i' : Int) :
    (s.push p).carAt i' = (if (s.cs.length : Int) = i' then p.1 else s.carAt i') ∧ (s.push p).cdrAt i' = (if (s.cs.length : Int) = i' then p.2 else s.cdrAt i') := by
  unfold Sto.carAt Sto.cdrAt Sto.car Sto.cdr Sto.push
  simp only [List.length_append, List.length_singleton, List.getD_eq_getElem?_getD]
  rcases Int.lt_trichotomy (s.cs.length : Int) i' with h | h | h
  · simp only [if_neg (by omega : ¬ (0 ≤ i' ∧ i' < ((s.cs.length + 1 : Nat) : Int))), if_neg (by omega : ¬ (0 ≤ i' ∧ i' < (s.cs.length : Int))), if_neg (by omega : ¬ (s.cs.length : Int) = i')]
    exact ⟨trivial, trivial⟩
  · subst h
    simp
    omega
  · simp only [if_neg (by omega : ¬ (s.cs.length : Int) = i')]
    by_cases h0 : 0 ≤ i'
    · simp only [if_pos (by omega : 0 ≤ i' ∧ i' < ((s.cs.length + 1 : Nat) : Int)), if_pos (by omega : 0 ≤ i' ∧ i' < (s.cs.length : Int)), List.getElem?_append_left (by omega : i'.toNat < s.cs.length)]
      exact ⟨trivial, trivial⟩
    · simp only [if_neg (by omega : ¬ (0 ≤ i' ∧ i' < ((s.cs.length + 1 : Nat) : Int))), if_neg (by omega : ¬ (0 ≤ i' ∧ i' < (s.cs.length : Int)))]
      exact ⟨trivial, trivial⟩

theorem at_numb (s : Sto) {w : Int} (hw : Wd s.cs.length w) : (s.at_ w = none ∧ numb w = -1) ∨ (∃ i : Nat, s.at_ w = some i ∧ numb w = i ∧ i < s.cs.length) := by
  obtain ⟨h0, _, h2⟩ := hw
  unfold Sto.at_ numb
  by_cases h : w % 2 = 1
  · have := h2 h
    rw [if_pos ⟨h, this⟩, if_neg (by omega)]
    exact Or.inr ⟨_, rfl, by omega, by omega⟩
  · rw [if_neg (by omega), if_pos (by omega)]
    exact Or.inl ⟨rfl, rfl⟩

theorem rel_setReg {s : Sto} {x : RSto} (h : s.Ok) (R : Rel s x) {m r : Int} (hm : 0 ≤ m ∧ m < s.c.muts) (hr : 0 ≤ r ∧ r < s.c.regs) (v : Int) : Rel (s.setReg m r v) (x.put 0 m r v) where
  c := R.c
  n := R.n
  r := fun m' r' => by rw [RSto.get_put, regAt_setReg h hm hr, R.r]; simp
  g := fun g => by rw [RSto.get_put, if_neg (by simp), R.g]; rfl
  a := fun i => by rw [RSto.get_put, if_neg (by simp), R.a]; rfl
  d := fun i => by rw [RSto.get_put, if_neg (by simp), R.d]; rfl
theorem rel_setGlob {s : Sto} {x : RSto} (h : s.Ok) (R : Rel s x) {g : Int} (hg : 0 ≤ g ∧ g < s.c.globs) (v : Int) : Rel { s with gs := s.gs.set g.toNat v } (x.put 1 g 0 v) where
  c := R.c
  n := R.n
  r := fun m' r' => by rw [RSto.get_put, if_neg (by simp), R.r]; rfl
  g := fun g' => by rw [RSto.get_put, globAt_set h hg, R.g]; simp
  a := fun i => by rw [RSto.get_put, if_neg (by simp), R.a]; rfl
  d := fun i => by rw [RSto.get_put, if_neg (by simp), R.d]; rfl
theorem rel_setCar {s : Sto} {x : RSto} (R : Rel s x) {i : Nat} (hi : i < s.cs.length) (v : Int) : Rel (s.setCar i v) (x.put 2 i 0 v) where
  c := R.c
  n := by rw [show (s.setCar i v).cs = s.cs.set i (v, s.cdr i) from rfl, List.length_set]; exact R.n
  r := fun m' r' => by rw [RSto.get_put, if_neg (by simp), R.r]; rfl
  g := fun g' => by rw [RSto.get_put, if_neg (by simp), R.g]; rfl
  a := fun k => by rw [RSto.get_put, R.a]; unfold Sto.setCar; rw [(carAt_set hi _ k).1]; simp
  d := fun k => by
    rw [RSto.get_put, if_neg (by simp), R.d]; unfold Sto.setCar; rw [(carAt_set hi _ k).2]
    split
    · rename_i e; subst e; unfold Sto.cdrAt; rw [if_pos (by omega)]; simp
    · rfl
theorem rel_setCdr {s : Sto} {x : RSto} (R : Rel s x) {i : Nat} (hi : i < s.cs.length) (v : Int) : Rel (s.setCdr i v) (x.put 3 i 0 v) where
  c := R.c
  n := by rw [show (s.setCdr i v).cs = s.cs.set i (s.car i, v) from rfl, List.length_set]; exact R.n
  r := fun m' r' => by rw [RSto.get_put, if_neg (by simp), R.r]; rfl
  g := fun g' => by rw [RSto.get_put, if_neg (by simp), R.g]; rfl
  d := fun k => by rw [RSto.get_put, R.d]; unfold Sto.setCdr; rw [(carAt_set hi _ k).2]; simp
  a := fun k => by
    rw [RSto.get_put, if_neg (by simp), R.a]; unfold Sto.setCdr; rw [(carAt_set hi _ k).1]
    split
    · rename_i e; subst e; unfold Sto.carAt; rw [if_pos (by omega)]; simp
    · rfl
theorem rel_push {s : Sto} {x : RSto} (R : Rel s x) (a b : Int) : Rel (s.push (a, b)) { ((x.put 2 x.n 0 a).put 3 x.n 0 b) with n := x.n + 1 } where
  c := R.c
  n := by simp [Sto.push, R.n]
  r := fun m' r' => by
    show ((x.put 2 x.n 0 a).put 3 x.n 0 b).get 0 m' r' = _
    rw [RSto.get_put, if_neg (by simp), RSto.get_put, if_neg (by simp), R.r]; rfl
  g := fun g' => by
    show ((x.put 2 x.n 0 a).put 3 x.n 0 b).get 1 g' 0 = _
    rw [RSto.get_put, if_neg (by simp), RSto.get_put, if_neg (by simp), R.g]; rfl
  a := fun k => by
    show ((x.put 2 x.n 0 a).put 3 x.n 0 b).get 2 k 0 = _
    rw [RSto.get_put, if_neg (by simp), RSto.get_put, R.a, (carAt_push _ k).1, R.n]; simp
  d := fun k => by
    show ((x.put 2 x.n 0 a).put 3 x.n 0 b).get 3 k 0 = _
    rw [RSto.get_put, RSto.get_put, if_neg (c := 2 = 3 ∧ _) (by simp), R.d, (carAt_push _ k).2, R.n]; simp

theorem rel_step {s : Sto} {x : RSto} (h : s.Ok) (hf : s.cs.length < 1000000) (R : Rel s x) (m : Int) (o : Opr) (hb : o.b < 9223372036854775808) (full : Bool) :
    (s.act m o full).2 = (x.act m o full).2 ∧ Rel (s.act m o full).1 (x.act m o full).1 ∧ (s.act m o full).1.Ok := by
  unfold Sto.act RSto.act
  rw [show x.fits m o = s.fits m o by unfold RSto.fits Sto.fits; rw [R.c]]
  by_cases hfit : s.fits m o = true
  case neg => rw [if_neg hfit, if_neg hfit]; exact ⟨rfl, R, h⟩
  rw [if_pos hfit, if_pos hfit]
  unfold Sto.fits at hfit
  rw [Bool.and_eq_true, decide_eq_true_iff, beq_iff_eq] at hfit
  obtain ⟨hm, herr⟩ := hfit
  obtain ⟨_, hr⟩ := right_of_err herr
  have hreg : ∀ r, (0 ≤ r ∧ r < s.c.regs) → x.reg m r = s.reg m r := fun r hr => by rw [RSto.reg, R.r, regAt_in hm hr]
  unfold Sto.did RSto.did
  obtain hk | hk | hk | hk | hk | hk | hk | hk | hk | hk | hk : o.kind = 1 ∨ o.kind = 2 ∨ o.kind = 3 ∨ o.kind = 4 ∨ o.kind = 5 ∨ o.kind = 6 ∨ o.kind = 7 ∨ o.kind = 8 ∨ o.kind = 9 ∨ o.kind = 10 ∨ o.kind = 11 := by have := hr.kind; omega
  · have ha := hr.a (by omega)
    have hb0 := hr.b1 hk
    simp only [hk, if_true]
    exact ⟨trivial, rel_setReg h R hm ha _, h.setReg _ _ ⟨by omega, by omega, fun h => by omega⟩⟩
  · have ha := hr.a (by omega)
    have hb' := hr.b (by omega) (by omega) (by omega)
    simp only [hk]
    rw [hreg _ hb']
    exact ⟨rfl, rel_setReg h R hm ha _, h.setReg _ _ (h.regW hm.1 hm.2 hb'.1 hb'.2)⟩
  · have ha := hr.a (by omega)
    have hb' := hr.b (by omega) (by omega) (by omega)
    have hc' := hr.cc hk
    simp only [hk]
    rw [hreg _ hb', hreg _ hc', R.n]
    cases full
    · have R2 := rel_push R (s.reg m o.b) (s.reg m o.c)
      have h2 := h.push (p := (s.reg m o.b, s.reg m o.c)) ⟨h.regW hm.1 hm.2 hb'.1 hb'.2, h.regW hm.1 hm.2 hc'.1 hc'.2⟩ hf
      have R3 := rel_setReg h2 R2 (m := m) (r := o.a) hm ha (s.cs.length * 2 + 1)
      rw [R.n] at R3
      refine ⟨rfl, R3, h2.setReg _ _ ⟨by omega, by omega, fun _ => ?_⟩⟩
      simp only [Sto.push, List.length_append, List.length_singleton]
      omega
    · exact ⟨rfl, R, h⟩
  · have ha := hr.a (by omega)
    have hb' := hr.b (by omega) (by omega) (by omega)
    simp only [hk]
    rw [hreg _ hb']
    rcases at_numb s (h.regW hm.1 hm.2 hb'.1 hb'.2) with ⟨e1, e2⟩ | ⟨i, e1, e2, hi⟩
    · rw [e1, e2]; exact ⟨rfl, R, h⟩
    · rw [e1, e2]
      simp only [if_neg (show ¬ ((i : Int) < 0) by omega)]
      have e3 : x.get 2 i 0 = s.car i := by rw [R.a, Sto.carAt, if_pos (by omega)]; rfl
      simp [e3]
      exact ⟨rel_setReg h R hm ha _, h.setReg _ _ (h.cellW i).1⟩
  · have ha := hr.a (by omega)
    have hb' := hr.b (by omega) (by omega) (by omega)
    simp only [hk]
    rw [hreg _ hb']
    rcases at_numb s (h.regW hm.1 hm.2 hb'.1 hb'.2) with ⟨e1, e2⟩ | ⟨i, e1, e2, hi⟩
    · rw [e1, e2]; exact ⟨rfl, R, h⟩
    · rw [e1, e2]
      simp only [if_neg (show ¬ ((i : Int) < 0) by omega)]
      have e3 : x.get 3 i 0 = s.cdr i := by rw [R.d, Sto.cdrAt, if_pos (by omega)]; rfl
      simp [e3]
      exact ⟨rel_setReg h R hm ha _, h.setReg _ _ (h.cellW i).2⟩
  · have ha := hr.a (by omega)
    have hb' := hr.b (by omega) (by omega) (by omega)
    simp only [hk]
    rw [hreg _ hb', hreg _ ha]
    rcases at_numb s (h.regW hm.1 hm.2 ha.1 ha.2) with ⟨e1, e2⟩ | ⟨i, e1, e2, hi⟩
    · rw [e1, e2]; exact ⟨rfl, R, h⟩
    · rw [e1, e2]
      simp only [if_neg (show ¬ ((i : Int) < 0) by omega)]
      exact ⟨rfl, rel_setCar R hi _, h.setCell i ⟨h.regW hm.1 hm.2 hb'.1 hb'.2, (h.cellW i).2⟩⟩
  · have ha := hr.a (by omega)
    have hb' := hr.b (by omega) (by omega) (by omega)
    simp only [hk]
    rw [hreg _ hb', hreg _ ha]
    rcases at_numb s (h.regW hm.1 hm.2 ha.1 ha.2) with ⟨e1, e2⟩ | ⟨i, e1, e2, hi⟩
    · rw [e1, e2]; exact ⟨rfl, R, h⟩
    · rw [e1, e2]
      simp only [if_neg (show ¬ ((i : Int) < 0) by omega)]
      exact ⟨rfl, rel_setCdr R hi _, h.setCell i ⟨(h.cellW i).1, h.regW hm.1 hm.2 hb'.1 hb'.2⟩⟩
  · have ha := hr.a (by omega)
    have hb' := hr.gb hk
    have hgl := h.gl
    simp only [hk]
    rw [show x.get 1 o.b 0 = wd s.gs o.b.toNat by rw [R.g, Sto.globAt, if_pos (by omega)]]
    exact ⟨rfl, rel_setReg h R hm ha _, h.setReg _ _ (h.globW hb'.1 hb'.2)⟩
  · have ha := hr.ga hk
    have hb' := hr.b (by omega) (by omega) (by omega)
    simp only [hk]
    rw [hreg _ hb']
    exact ⟨rfl, rel_setGlob h R ha _, h.setGlob _ (h.regW hm.1 hm.2 hb'.1 hb'.2)⟩
  · have ha := hr.a (by omega)
    have hb' := hr.b (by omega) (by omega) (by omega)
    simp only [hk]
    rw [hreg _ hb', hreg _ ha]
    exact ⟨rfl, R, h⟩
  · have ha := hr.a (by omega)
    simp only [hk]
    rw [hreg _ ha]
    rcases at_numb s (h.regW hm.1 hm.2 ha.1 ha.2) with ⟨e1, e2⟩ | ⟨i, e1, e2, hi⟩
    · rw [e1, e2]; exact ⟨rfl, R, h⟩
    · rw [e1, e2]
      simp only [if_neg (show ¬ ((i : Int) < 0) by omega)]
      exact ⟨rfl, R, h⟩

theorem wd_replicate (n i : Nat) : wd (List.replicate n 0) i = 0 := by
  unfold wd
  by_cases h : i < n
  · simp [h]
  · simp [List.getD_eq_getElem?_getD, List.getElem?_eq_none (by simpa using h : (List.replicate n (0 : Int)).length ≤ i)]
theorem new_rel (m r g : Int) : Rel (Sto.new m r g) ⟨⟨2, m, r, g⟩, [], 0⟩ where
  c := rfl
  n := rfl
  r := fun _ _ => by simp [RSto.get, getL, Sto.regAt, Sto.reg, Sto.new, wd_replicate]
  g := fun _ => by simp [RSto.get, getL, Sto.globAt, Sto.new, wd_replicate]
  a := fun _ => by simp [RSto.get, getL, Sto.carAt, Sto.car, Sto.new]
  d := fun _ => by simp [RSto.get, getL, Sto.cdrAt, Sto.cdr, Sto.new]
end Go.Proofs.YtipoklnoknkfhaaDoor

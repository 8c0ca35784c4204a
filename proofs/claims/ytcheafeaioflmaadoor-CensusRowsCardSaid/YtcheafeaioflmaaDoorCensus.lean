/- Notes and censuses as plain Lean and in memory. -/
import Derived.Test.YtcheafeaioflmaaDoorOp
import Derived.Test.YtcheafeaioflmaaDoorWords
import Derived.Deep.MidRow
import Derived.Deep.RegionWith
import Derived.Deep.RegionHeld3
namespace Go.Proofs.YtcheafeaioflmaaDoor
open Go Go.RowKit
set_option linter.unusedSimpArgs false
set_option linter.unusedVariables false

/-! plain Lean -/
structure Nt where
  proc : Int
  what : Int
  op : Opr
  n : Int
def wthin (i many : Int) : Int := if i < 0 ∨ many ≤ i then 0 else i
/-- does a note count at place i of a census? -/
def hit (t : Nt) (i : Nat) : Bool :=
  if t.what = 1 then decide ((i : Int) = wthin t.op.kind 12)
  else if t.what = 3 then decide ((i : Int) = 12 + wthin t.n 7)
  else if t.what = 2 then decide (i = 19) || (decide (i = 20) && decide (t.op.kind = 3) && decide (t.n ≠ 5))
  else if t.what = 5 then decide (i = 21)
  else if t.what = 4 then decide (i = 22)
  else if t.what = 6 then decide (i = 23)
  else false
theorem hit_1 {t : Nt} (h : t.what = 1) (i : Nat) : hit t i = decide ((i : Int) = wthin t.op.kind 12) := by simp [hit, h]
theorem hit_3 {t : Nt} (h : t.what = 3) (i : Nat) : hit t i = decide ((i : Int) = 12 + wthin t.n 7) := by simp [hit, h]
theorem hit_2 {t : Nt} (h : t.what = 2) (i : Nat) : hit t i = (decide (i = 19) || (decide (i = 20) && decide (t.op.kind = 3) && decide (t.n ≠ 5))) := by simp [hit, h]
theorem hit_5 {t : Nt} (h : t.what = 5) (i : Nat) : hit t i = decide (i = 21) := by simp [hit, h]
theorem hit_4 {t : Nt} (h : t.what = 4) (i : Nat) : hit t i = decide (i = 22) := by simp [hit, h]
theorem hit_6 {t : Nt} (h : t.what = 6) (i : Nat) : hit t i = decide (i = 23) := by simp [hit, h]
theorem hit_0 {t : Nt} (h : ¬ (1 ≤ t.what ∧ t.what ≤ 6)) (i : Nat) : hit t i = false := by
  unfold hit
  rw [if_neg (by omega), if_neg (by omega), if_neg (by omega), if_neg (by omega), if_neg (by omega), if_neg (by omega)]
def cen (l : List Nt) (i : Nat) : Int := (l.countP (fun t => hit t i) : Nat)
theorem cen_snoc (l : List Nt) (t : Nt) (i : Nat) : cen (l ++ [t]) i = cen l i + (if hit t i = true then 1 else 0) := by
  unfold cen
  rw [List.countP_append, List.countP_singleton]
  split <;> simp_all
theorem cen_bound (l : List Nt) (i : Nat) : 0 ≤ cen l i ∧ cen l i ≤ l.length := by
  unfold cen
  have := List.countP_le_length (p := fun t => hit t i) (l := l)
  omega

/-! in memory -/
def cl (f : Nat → Int) : List Value := (List.range 24).map fun i => Value.int .i64 (f i)
theorem cl_len (f : Nat → Int) : (cl f).length = 24 := by simp [cl]
theorem cl_at (f : Nat → Int) (i : Nat) (h : i < 24) : (cl f)[i]? = some (.int .i64 (f i)) := by simp [cl, h]
theorem cl_one (f : Nat → Int) : ∀ u ∈ cl f, u.oneCell' = true := by
  intro u hu
  unfold cl at hu
  obtain ⟨i, _, rfl⟩ := List.mem_map.1 hu
  rfl
theorem cl_congr {f g : Nat → Int} (h : ∀ i, i < 24 → f i = g i) : cl f = cl g := by
  unfold cl
  exact List.map_congr_left (fun i hi => by rw [h i (List.mem_range.1 hi)])
/-- a census lies at cell o of block b -/
structure CAt (w : World) (b : Nat) (f : Nat → Int) : Prop where
  at_ : w.rangeAt b 0 (cl f)
  ok : w.there b 0 24
section
variable {w w' : World} {b : Nat} {f : Nat → Int}
theorem CAt.cell (h : CAt w b f) (i : Nat) (hi : i < 24) : w.cell? ⟨b, i, none⟩ = some (.int .i64 (f i)) := by
  have := h.at_ i _ (cl_at f i hi)
  rwa [Nat.zero_add] at this
theorem CAt.frozen (h : CAt w b f) (i : Nat) (hi : i < 24) : w.frozen? ⟨b, i, none⟩ = false := by
  have := (h.ok i hi).2
  rwa [Nat.zero_add] at this
theorem CAt.lt (h : CAt w b f) : b < w.heap.size := World.block_lt_of_cell? w ⟨b, 0, none⟩ (h.cell 0 (by omega))
theorem CAt.of (h : ∀ i, i < 24 → w.cell? ⟨b, i, none⟩ = some (.int .i64 (f i)) ∧ w.frozen? ⟨b, i, none⟩ = false) : CAt w b f where
  at_ := fun j v hv => by
    have hj : j < 24 := by have := (List.getElem?_eq_some_iff.1 hv).1; rwa [cl_len] at this
    rw [cl_at f j hj] at hv
    cases hv
    rw [Nat.zero_add]
    exact (h j hj).1
  ok := fun j hj => by rw [Nat.zero_add, (h j hj).1, (h j hj).2]; exact ⟨rfl, rfl⟩
theorem CAt.congr (h : CAt w b f) {g : Nat → Int} (e : ∀ i, i < 24 → f i = g i) : CAt w b g := ⟨by rw [← cl_congr e]; exact h.at_, h.ok⟩
theorem CAt.keep (h : CAt w b f) {S : Nat → Prop} (k : Keep S w w') (hs : ¬ S b) : CAt w' b f := CAt.of (fun i hi => ⟨(k.cell (p := ⟨b, i, none⟩) h.lt hs).trans (h.cell i hi), (k.frozen (p := ⟨b, i, none⟩) h.lt hs).trans (h.frozen i hi)⟩)
theorem CAt.below (h : CAt w b f) (k : Below w.heap.size w w') : CAt w' b f := h.keep (Keep.of_below k (fun _ => False)) id
theorem CAt.drew (h : CAt w b f) : CAt w.drew b f := h.keep ((Keep.refl (fun _ => False) w).drew) id
theorem CAt.set (h : CAt w b f) (k : Nat) (hk : k < 24) (x : Int) : CAt (w.setCell ⟨b, k, none⟩ (.int .i64 x)) b (fun i => if i = k then x else f i) := CAt.of (fun i hi => by
  rw [World.frozen?_setCell]
  refine ⟨?_, h.frozen i hi⟩
  by_cases e : i = k
  · subst e
    rw [if_pos rfl]
    exact World.cell?_setCell_same' _ _ _ (by rw [h.cell i hi]; rfl)
  · rw [if_neg e, World.cell?_setCell_other (h := fun e2 => e (by injection e2 with _ h2 _; exact h2.symm))]
    exact h.cell i hi)
theorem CAt.sets (h : CAt w b f) (g : Nat → Int) : CAt (w.setCells b 0 (cl g)) b g := ⟨World.rangeAt_setCells_same w b 0 (cl g) (by rw [cl_len]; exact h.ok), World.there_setCells h.ok b 0 (cl g)⟩
end
theorem Keep.setCells {S : Nat → Prop} {w : World} {b : Nat} (hS : S b) : ∀ (vs : List Value) (o : Nat) (w' : World), Keep S w w' → Keep S w (w'.setCells b o vs)
  | [], _, _, h => h
  | v :: r, o, w', h => Keep.setCells hS r (o + 1) _ (h.setCell (p := ⟨b, o, none⟩) (Or.inl hS) v)
abbrev czero : Obj := .cells #[.int .i64 0, .int .i64 0, .int .i64 0, .int .i64 0, .int .i64 0, .int .i64 0, .int .i64 0, .int .i64 0, .int .i64 0, .int .i64 0, .int .i64 0, .int .i64 0, .int .i64 0, .int .i64 0, .int .i64 0, .int .i64 0, .int .i64 0, .int .i64 0, .int .i64 0, .int .i64 0, .int .i64 0, .int .i64 0, .int .i64 0, .int .i64 0] 67
theorem cat_new (w : World) : CAt (w.alloc czero) w.heap.size (fun _ => 0) := CAt.of (fun i hi => by
  have h := heap_alloc_new w czero
  refine ⟨?_, frozen_of_block h i⟩
  rw [cell_of_block h i]
  match i, hi with
  | 0, _ | 1, _ | 2, _ | 3, _ | 4, _ | 5, _ | 6, _ | 7, _ | 8, _ | 9, _ | 10, _ | 11, _ | 12, _ | 13, _ | 14, _ | 15, _ | 16, _ | 17, _ | 18, _ | 19, _ | 20, _ | 21, _ | 22, _ | 23, _ => rfl
  | n + 24, h => omega)
abbrev Nt.v (t : Nt) : Value := .agg #[.int .i64 t.proc, .int .i64 t.what, .int .i64 t.op.kind, .int .i64 t.op.a, .int .i64 t.op.b, .int .i64 t.op.c, .int .i64 t.n]
abbrev Nt.obj (t : Nt) : Obj := .cells #[.int .i64 t.proc, .int .i64 t.what, .int .i64 t.op.kind, .int .i64 t.op.a, .int .i64 t.op.b, .int .i64 t.op.c, .int .i64 t.n] 130

theorem cwithin_any (w : World) (i many : Int) : Calls Tryd.prog 140 #[.int .i64 i, .int .i64 many] w fun e w' => e = .returned (.int .i64 (wthin i many)) ∧ w' = w := by
  by_cases h : i < 0
  · have d : decide (i < 0) = true := by simpa using h
    have HW : Hid (wthin i many = 0) := by unfold Hid wthin; rw [if_pos (Or.inl h)]
    rw [HW.out]
    clear h
    go_enter Tryd.func140, Tryd.ntmps140
    go_wp2_with fail
    go_ret
    exact ⟨rfl, rfl⟩
  · have d : decide (i < 0) = false := by simpa using h
    by_cases h2 : many ≤ i
    · have d2 : decide (many ≤ i) = true := by simpa using h2
      have HW : Hid (wthin i many = 0) := by unfold Hid wthin; rw [if_pos (Or.inr h2)]
      rw [HW.out]
      clear h h2
      go_enter Tryd.func140, Tryd.ntmps140
      go_wp2_with fail
      go_ret
      exact ⟨rfl, rfl⟩
    · have d2 : decide (many ≤ i) = false := by simpa using h2
      have HW : Hid (wthin i many = i) := by unfold Hid wthin; rw [if_neg (by omega)]
      rw [HW.out]
      clear h h2
      go_enter Tryd.func140, Tryd.ntmps140
      go_wp2_with fail
      go_ret
      exact ⟨rfl, rfl⟩
theorem wthin_lt (i many : Int) (h : 0 < many) : 0 ≤ wthin i many ∧ wthin i many < many := by
  unfold wthin
  split <;> omega
end Go.Proofs.YtcheafeaioflmaaDoor

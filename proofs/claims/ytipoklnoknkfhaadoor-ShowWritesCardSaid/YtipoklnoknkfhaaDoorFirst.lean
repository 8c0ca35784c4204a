/- The words at first: place.First and the reference's First. -/
import Derived.Test.YtipoklnoknkfhaaDoorSpotRow
import Derived.Test.YtipoklnoknkfhaaDoorPlaceLaw
import Derived.Test.YtipoklnoknkfhaaDoorWordLib
import Derived.BigQuiet
namespace Go.Proofs.YtipoklnoknkfhaaDoor
open Go Go.RowKit
set_option linter.unusedSimpArgs false
set_option linter.unusedVariables false

theorem info_fword : (Tryd.prog.info? 26).map (fun i => (i.zero, i.size, i.bytes)) = some (some (.int .u64 0), 1, 8) := by kernel_rfl
theorem made_row (n : Nat) : madeCells #[.int .u64 0] n = ((List.replicate n (0 : Int)).map (Value.int .u64)).toArray := by
  unfold madeCells
  have : ∀ x : Nat, [Value.int IntKind.u64 0][x % 1]?.getD default = Value.int IntKind.u64 0 := fun x => by rw [Nat.mod_one]; rfl
  simp [this]
  apply Array.ext
  · simp
  · intro i h1 h2
    simp
theorem make_fwords (w : World) (n : Nat) (hn : n ≤ 100000) :
    (Instr.makeSlice 24 (.int .i64 (n : Int)) (.int .i64 (n : Int))).run Tryd.prog w = .ok (.slice (some ⟨w.heap.size, 0, none⟩) n n) (w.alloc (.cells ((List.replicate n (0 : Int)).map (Value.int .u64)).toArray 26)) := by
  have hi : ∃ i, Tryd.prog.info? 26 = some i ∧ i.zero = some (.int .u64 0) ∧ i.size = 1 ∧ i.bytes = 8 := by
    have := info_fword
    cases hh : Tryd.prog.info? 26 with
    | none => rw [hh] at this; cases this
    | some i =>
      rw [hh] at this
      simp at this
      exact ⟨i, rfl, this⟩
  obtain ⟨i0, hi0, hz0, hz1, hz2⟩ := hi
  have h := run_make_rowN (P := Tryd.prog) 24 26 i0 _ Tryd.underlying24 hi0 hz0 .i64 .i64 n n (Nat.le_refl _) (by rw [hz2]; omega) (by omega) w
  rw [h, hz1, ← made_row]
  simp [Value.cells]
/-- a block of words -/
abbrev wordsObj (xs : List Int) : Obj := .cells ((xs.map (Value.int .u64)).toArray) 26
theorem words_set {w : World} {g : Nat} {xs : List Int} (h : w.heap[g]? = some (wordsObj xs)) (i : Nat) (v : Int) : (w.setCell ⟨g, i, none⟩ (.int .u64 v)).heap[g]? = some (wordsObj (xs.set i v)) := by
  rw [block_setCell h i _]
  congr 2
  simp
theorem words_cell {w : World} {g : Nat} {xs : List Int} (h : w.heap[g]? = some (wordsObj xs)) (i : Nat) (hi : i < xs.length) : w.cell? ⟨g, i, none⟩ = some (.int .u64 (wd xs i)) := by
  rw [cell_of_block h i]
  simp [wd, hi]
/-- what a word is behind the first i cells -/
def Cfg.fst (c : Cfg) (i : Int) (k : Int) : Int :=
  if (c.spot k).kind = 5 then (if (c.spot k).a < i then ((c.spot k).a + 1) * 2 + 1 else 0) else if k = 0 then 1 else 0
def Cfg.fl (c : Cfg) (T : Nat) (i : Int) : List Int := (List.range T).map fun (k : Nat) => c.fst i (k : Int)
theorem Cfg.fl_len (c : Cfg) (T : Nat) (i : Int) : (c.fl T i).length = T := by simp [Cfg.fl]
theorem spot_kind5 (c : Cfg) (ok : c.ok = true) (k i : Int) (h0 : 0 ≤ k) (h : (c.spot k).kind = 5) (ha : (c.spot k).a = i) : k = c.b3 + 3 * i + 1 := by
  have hb := c.bounds ok
  unfold Cfg.spot at h ha
  split at h
  · simp at h
  · split at h
    · simp at h
    · split at h
      · simp at h
      · split at h
        · simp at h
        · rename_i h1 h2 h3 h4
          rw [if_neg h1, if_neg h2, if_neg h3, if_neg h4] at ha
          simp at h ha
          omega
theorem spot_kind0 (c : Cfg) (ok : c.ok = true) (k : Int) (h0 : 0 ≤ k) (h : (c.spot k).kind = 0) : k < 5 ∧ (c.spot k).a = k := by
  have hb := c.bounds ok
  unfold Cfg.spot at h ⊢
  split at h
  · rename_i h1
    rw [if_pos h1]
    exact ⟨h1, rfl⟩
  · split at h
    · simp at h
    · split at h
      · simp at h
      · split at h
        · simp at h
        · simp at h
          omega
theorem spot_bd (c : Cfg) (ok : c.ok = true) (k : Int) (h0 : 0 ≤ k) (h1 : k < 100000) : 0 ≤ (c.spot k).a ∧ (c.spot k).a < 100000 ∧ 0 ≤ (c.spot k).b ∧ (c.spot k).b < 100000 ∧ 0 ≤ (c.spot k).kind ∧ (c.spot k).kind < 7 := by
  have hb := c.bounds ok
  have ho := c.ok_iff.1 ok
  unfold Cfg.spot
  split
  · simp; omega
  · split
    · simp; omega
    · split
      · simp; omega
      · split
        · rename_i h2 h3 h4 h5
          have e1 : 0 ≤ (k - c.b2) / c.regs := Int.ediv_nonneg (by omega) (by omega)
          have e2 : (k - c.b2) / c.regs ≤ k - c.b2 := Int.ediv_le_self _ (by omega)
          have e3 := Int.emod_nonneg (k - c.b2) (show c.regs ≠ 0 by omega)
          have e4 := Int.emod_lt_of_pos (k - c.b2) (show 0 < c.regs by omega)
          simp
          omega
        · simp
          omega
theorem fl_set (c : Cfg) (ok : c.ok = true) (T i p : Nat) (hp : (p : Int) = c.b3 + 3 * (i : Int) + 1) : (c.fl T (i : Int)).set p (((i : Int) + 1) * 2 + 1) = c.fl T ((i : Int) + 1) := by
  have hb := c.bounds ok
  refine List.ext_getElem (by simp [Cfg.fl]) fun k h1 h2 => ?_
  simp [Cfg.fl] at h1
  rw [List.getElem_set]
  have hs := c.spot_4 ok (i : Int) 1 (by omega) (by omega) (by omega)
  by_cases e : p = k
  · rw [if_pos e]
    simp only [Cfg.fl, List.getElem_map, List.getElem_range, Cfg.fst]
    rw [show ((k : Nat) : Int) = c.b3 + 3 * (i : Int) + 1 by omega, hs]
    dsimp only
    rw [if_pos (by omega), if_pos (by omega)]
  · rw [if_neg e]
    simp only [Cfg.fl, List.getElem_map, List.getElem_range, Cfg.fst]
    by_cases h5 : (c.spot (k : Int)).kind = 5
    · rw [if_pos h5, if_pos h5]
      have hne : (c.spot (k : Int)).a ≠ i := fun ha => e (by have := spot_kind5 c ok k i (by omega) h5 ha; omega)
      by_cases hl : (c.spot (k : Int)).a < i
      · rw [if_pos hl, if_pos (by omega)]
      · rw [if_neg hl, if_neg (by omega)]
    · rw [if_neg h5, if_neg h5]
theorem fl_start (c : Cfg) (ok : c.ok = true) (T : Nat) (hT : 0 < T) (hT2 : T < 100000) : (List.replicate T (0 : Int)).set 0 1 = c.fl T 0 := by
  refine List.ext_getElem (by simp [Cfg.fl]) fun k h1 h2 => ?_
  simp [Cfg.fl] at h1 h2
  rw [List.getElem_set]
  simp only [Cfg.fl, List.getElem_map, List.getElem_range, Cfg.fst]
  by_cases e : 0 = k
  · subst e
    rw [if_pos rfl, if_neg (by rw [show ((0 : Nat) : Int) = 0 from rfl, c.spot_0 0 (by omega)]; simp)]
    simp
  · rw [if_neg e, List.getElem_replicate]
    by_cases h5 : (c.spot (k : Int)).kind = 5
    · rw [if_pos h5, if_neg (by have := spot_bd c ok k (by omega) (by omega); omega)]
    · rw [if_neg h5, if_neg (by omega)]
end Go.Proofs.YtipoklnoknkfhaaDoor

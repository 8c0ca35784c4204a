/- The contracts of package config (Check, Roots, Words) and of place's small calls. -/
import Derived.Test.YtipoklnoknkfhaaDoorConfig
namespace Go.Proofs.YtipoklnoknkfhaaDoor
open Go Go.RowKit
set_option linter.unusedSimpArgs false
set_option linter.unusedVariables false

def limits (c : Cfg) : List Int := [c.cells, 2, 4096, c.muts, 1, 63, c.regs, 1, 64, c.globs, 0, 64]
theorem limits_ok (c : Cfg) : withinL (limits c) = c.ok := by
  rw [Bool.eq_iff_iff, Cfg.ok_iff]
  simp [limits, withinL]
  omega

theorem Keep.belowF {a b : World} (h : Keep (fun _ => False) a b) : Below a.heap.size a b := h.below (Nat.le_refl _) (fun _ h => h.elim)

abbrev Cfg.lims (c : Cfg) : Obj := .cells #[.int .i64 c.cells, .int .i64 2, .int .i64 4096, .int .i64 c.muts, .int .i64 1, .int .i64 63, .int .i64 c.regs, .int .i64 1, .int .i64 64, .int .i64 c.globs, .int .i64 0, .int .i64 64] 3
theorem check_any (w : World) (c : Cfg) :
    Calls Tryd.prog 70 #[c.v] w fun e w' => e = .returned (.int .i64 c.err) ∧ Below w.heap.size w w' := by
  have hok := limits_ok c
  have herr : c.err = if c.ok = true then 0 else 2 := rfl
  generalize c.ok = ok at hok herr
  unfold Cfg.v
  have HI : Hid (Ints .i64 ((w.alloc c.obj).alloc c.lims) _ (some ⟨w.heap.size + 1, 0, none⟩) (limits c)) := Ints.of_block (heap_new2 w c.obj c.lims) rfl (by simp [limits, maxLen])
  have hB : Hid (Below w.heap.size w ((w.alloc c.obj).alloc c.lims)) := ((Below.refl _ _).alloc (Nat.le_refl _) _).alloc (by simp) _
  have HOK := Lib.hid hok
  have HERR := Lib.hid herr
  clear hok herr
  go_enter Tryd.func70, Tryd.ntmps70
  go_wp2_with fail
  refine (within_any _ _ _ _ HI.out (by simp [limits])).mono ?_
  rintro e w1 ⟨rfl, hk⟩
  rw [HOK.out]
  have HB : Hid (Below w.heap.size w w1) := hB.out.trans (hk.belowF.mono (by simp; omega))
  clear hk hB HI
  cases ok
  · go_wp2_with fail
    go_ret
    exact ⟨by rw [HERR.out]; rfl, HB.out⟩
  · go_wp2_with fail
    go_ret
    exact ⟨by rw [HERR.out]; rfl, HB.out⟩

/-- what the fields of a boxed configuration read as -/
theorem Cfg.cells_at {c : Cfg} {w : World} {b : Nat} (h : w.heap[b]? = some c.obj) : w.cell? ⟨b, 0, none⟩ = some (.int .i64 c.cells) ∧ w.cell? ⟨b, 1, none⟩ = some (.int .i64 c.muts) ∧ w.cell? ⟨b, 2, none⟩ = some (.int .i64 c.regs) ∧ w.cell? ⟨b, 3, none⟩ = some (.int .i64 c.globs) :=
  ⟨cell_of_block h 0, cell_of_block h 1, cell_of_block h 2, cell_of_block h 3⟩

theorem roots_any (w : World) (c : Cfg) :
    Calls Tryd.prog 118 #[c.v] w fun e w' => e = .returned (.int .i64 c.roots) ∧ Below w.heap.size w w' := by
  have HC := Lib.hid (check_any (w.alloc c.obj) c)
  have HB0 : Hid (Below w.heap.size w (w.alloc c.obj)) := (Below.refl _ _).alloc (Nat.le_refl _) _
  by_cases ok : c.ok = true
  · have he : Hid (c.err = 0) := by unfold Cfg.err Hid; rw [if_pos ok]
    have hr : Hid (c.roots = 1 + c.globs + c.muts * c.regs) := by unfold Cfg.roots Hid; rw [if_pos ok]
    obtain ⟨_, _⟩ := c.mr ok
    obtain ⟨_, _, _, _, _, _, _, _⟩ := c.ok_iff.1 ok
    have hs1 : IntKind.i64.wrap (1 + c.globs) = 1 + c.globs := IntWalk.i64_in _ (by omega)
    have hs2 : IntKind.i64.wrap (c.muts * c.regs) = c.muts * c.regs := IntWalk.i64_in _ (by omega)
    have hs3 : IntKind.i64.wrap (1 + c.globs + c.muts * c.regs) = 1 + c.globs + c.muts * c.regs := IntWalk.i64_in _ (by omega)
    clear ok
    unfold Cfg.v at *
    go_enter Tryd.func118, Tryd.ntmps118
    go_wp2_with fail
    refine HC.out.mono ?_
    rintro e w1 ⟨rfl, hb⟩
    rw [he.out]
    have HB : Hid (Below w.heap.size w w1) := HB0.out.trans (hb.mono (by simp))
    obtain ⟨k0, k1, k2, k3⟩ := Cfg.cells_at ((hb.block w.heap.size (by simp)).trans (heap_alloc_new w c.obj))
    clear hb
    go_wp2_with fail
    go_ret
    refine ⟨?_, HB.out⟩
    rw [hr.out]; rfl
  · have he : Hid (c.err = 2) := by unfold Cfg.err Hid; rw [if_neg ok]
    have hr : Hid (c.roots = 0) := by unfold Cfg.roots Hid; rw [if_neg ok]
    clear ok
    unfold Cfg.v at *
    go_enter Tryd.func118, Tryd.ntmps118
    go_wp2_with fail
    refine HC.out.mono ?_
    rintro e w1 ⟨rfl, hb⟩
    rw [he.out]
    have HB : Hid (Below w.heap.size w w1) := HB0.out.trans (hb.mono (by simp))
    clear hb
    go_wp2_with fail
    go_ret
    refine ⟨?_, HB.out⟩
    rw [hr.out]; rfl

/-- the first word behind the globals' ones .. -/
theorem words_any (w : World) (c : Cfg) :
    Calls Tryd.prog 85 #[c.v] w fun e w' => e = .returned (.int .i64 c.words) ∧ Below w.heap.size w w' := by
  have HC := Lib.hid (check_any (w.alloc c.obj) c)
  have HB0 : Hid (Below w.heap.size w (w.alloc c.obj)) := (Below.refl _ _).alloc (Nat.le_refl _) _
  by_cases ok : c.ok = true
  · have he : Hid (c.err = 0) := by unfold Cfg.err Hid; rw [if_pos ok]
    have hr : Hid (c.words = 4 + c.muts + c.roots + 3 * c.cells) := by unfold Cfg.words Hid; rw [if_pos ok]
    have hrt : Hid (c.roots = 1 + c.globs + c.muts * c.regs) := by unfold Cfg.roots Hid; rw [if_pos ok]
    obtain ⟨_, _⟩ := c.mr ok
    obtain ⟨_, _, _, _, _, _, _, _⟩ := c.ok_iff.1 ok
    have hrb : 0 ≤ c.roots ∧ c.roots ≤ 5000 := by rw [hrt.out]; omega
    obtain ⟨_, _⟩ := hrb
    have hs1 : IntKind.i64.wrap (4 + c.muts) = 4 + c.muts := IntWalk.i64_in _ (by omega)
    have hs2 : IntKind.i64.wrap (4 + c.muts + c.roots) = 4 + c.muts + c.roots := IntWalk.i64_in _ (by omega)
    have hs3 : IntKind.i64.wrap (3 * c.cells) = 3 * c.cells := IntWalk.i64_in _ (by omega)
    have hs4 : IntKind.i64.wrap (4 + c.muts + c.roots + 3 * c.cells) = 4 + c.muts + c.roots + 3 * c.cells := IntWalk.i64_in _ (by omega)
    have HR := Lib.hid (fun W => roots_any W c)
    clear ok
    unfold Cfg.v at *
    go_enter Tryd.func85, Tryd.ntmps85
    go_wp2_with fail
    refine HC.out.mono ?_
    rintro e w1 ⟨rfl, hb⟩
    rw [he.out]
    have HB : Hid (Below w.heap.size w w1) := HB0.out.trans (hb.mono (by simp))
    have hblk := (hb.block w.heap.size (by simp)).trans (heap_alloc_new w c.obj)
    have hs : w.heap.size < w1.heap.size := by have := hb.size; simp at this; omega
    obtain ⟨k0, k1, k2, k3⟩ := Cfg.cells_at hblk
    have HBK := Lib.hid hblk
    clear hb hblk
    go_wp2_with fail
    go_region_held3 (fun w' => w'.cell? ⟨w.heap.size, 0, none⟩ = some (.int .i64 c.cells) ∧ w'.cell? ⟨w.heap.size, 1, none⟩ = some (.int .i64 c.muts) ∧ w'.cell? ⟨w.heap.size, 2, none⟩ = some (.int .i64 c.regs) ∧ w'.cell? ⟨w.heap.size, 3, none⟩ = some (.int .i64 c.globs) ∧ w1.heap.size ≤ w'.heap.size ∧ Below w1.heap.size w1 w')
      (first
        | exact ⟨k0, k1, k2, k3, Nat.le_refl _, (Below.refl _ _).drew⟩
        | (go_split_ands; refine ⟨?_, ?_, ?_, ?_, ?_, ?_⟩ <;> first | (rw [hb2.cell (by simp; omega)]; assumption) | exact Below.trans (by assumption) (hb2.mono (by assumption)) | exact Nat.le_trans (by assumption) hb2.size))
      (first | (go_at_call 118; refine (HR.out _).mono ?_; rintro e w2 ⟨rfl, hb2⟩))
    go_wp2_with fail
    go_ret
    go_split_ands
    refine ⟨?_, HB.out.trans (Below.mono (by assumption) (Nat.le_of_lt hs))⟩
    rw [hr.out]; rfl
  · have he : Hid (c.err = 2) := by unfold Cfg.err Hid; rw [if_neg ok]
    have hr : Hid (c.words = 0) := by unfold Cfg.words Hid; rw [if_neg ok]
    clear ok
    unfold Cfg.v at *
    go_enter Tryd.func85, Tryd.ntmps85
    go_wp2_with fail
    refine HC.out.mono ?_
    rintro e w1 ⟨rfl, hb⟩
    rw [he.out]
    have HB : Hid (Below w.heap.size w w1) := HB0.out.trans (hb.mono (by simp))
    clear hb
    go_wp2_with fail
    go_ret
    refine ⟨?_, HB.out⟩
    rw [hr.out]; rfl

/-! ### place -/
/-- the zero configuration -/
def Cfg.zero : Cfg := ⟨0, 0, 0, 0⟩
abbrev Cfg.zobj : Obj := .cells #[.int .i64 0, .int .i64 0, .int .i64 0, .int .i64 0] 88
/-- what place.New answers -/
def Cfg.map (c : Cfg) : Cfg := if c.ok = true then c else Cfg.zero
theorem pnew_any (w : World) (c : Cfg) :
    Calls Tryd.prog 44 #[c.v] w fun e w' => e = .returned (.tuple #[(c.map).v, .int .i64 c.err]) ∧ Below w.heap.size w w' := by
  by_cases ok : c.ok = true
  · have he : Hid (c.err = 0) := by unfold Cfg.err Hid; rw [if_pos ok]
    have hm : Hid (c.map = c) := by unfold Cfg.map Hid; rw [if_pos ok]
    rw [hm.out, he.out]
    unfold Cfg.v at *
    have HC := Lib.hid (check_any ((w.alloc c.obj).alloc Cfg.zobj) c)
    have HB0 : Hid (Below w.heap.size w ((w.alloc c.obj).alloc Cfg.zobj)) := ((Below.refl _ _).alloc (Nat.le_refl _) _).alloc (by simp) _
    rw [he.out] at HC
    unfold Cfg.v at *
    go_enter Tryd.func44, Tryd.ntmps44
    go_wp2_with fail
    refine HC.out.mono ?_
    rintro e w1 ⟨rfl, hb⟩
    have HB : Hid (Below w.heap.size w w1) := HB0.out.trans (hb.mono (by simp; omega))
    have hblk := (hb.block w.heap.size (by simp; omega)).trans (heap_new1 w c.obj Cfg.zobj)
    have hbl2 := (hb.block (w.heap.size + 1) (by simp)).trans (heap_new2 w c.obj Cfg.zobj)
    have hs : w.heap.size + 1 < w1.heap.size := by have := hb.size; simp at this; omega
    obtain ⟨k0, k1, k2, k3⟩ := Cfg.cells_at hblk
    have z0 : w1.cell? ⟨w.heap.size + 1, 0, none⟩ = some (.int .i64 0) := cell_of_block hbl2 0
    have z1 : w1.cell? ⟨w.heap.size + 1, 1, none⟩ = some (.int .i64 0) := cell_of_block hbl2 1
    have z2 : w1.cell? ⟨w.heap.size + 1, 2, none⟩ = some (.int .i64 0) := cell_of_block hbl2 2
    have z3 : w1.cell? ⟨w.heap.size + 1, 3, none⟩ = some (.int .i64 0) := cell_of_block hbl2 3
    have f0 : w1.frozen? ⟨w.heap.size + 1, 0, none⟩ = false := frozen_of_block hbl2 0
    have f1 : w1.frozen? ⟨w.heap.size + 1, 1, none⟩ = false := frozen_of_block hbl2 1
    have f2 : w1.frozen? ⟨w.heap.size + 1, 2, none⟩ = false := frozen_of_block hbl2 2
    have f3 : w1.frozen? ⟨w.heap.size + 1, 3, none⟩ = false := frozen_of_block hbl2 3
    clear hb hblk hbl2
    go_wp2_with fail
    exact bodyPost_ret (v := .tuple #[.agg #[.int .i64 c.cells, .int .i64 c.muts, .int .i64 c.regs, .int .i64 c.globs], .int .i64 0]) (by simp [results, Tryd.results44, go_sem, z0, z1, z2, z3]) rfl
      ⟨rfl, by repeat (first | exact HB.out | refine Below.setCell ?_ (by simp) _)⟩
  · have he : Hid (c.err = 2) := by unfold Cfg.err Hid; rw [if_neg ok]
    have hm : Hid (c.map = Cfg.zero) := by unfold Cfg.map Hid; rw [if_neg ok]
    rw [hm.out, he.out]
    have HC := Lib.hid (check_any ((w.alloc c.obj).alloc Cfg.zobj) c)
    have HB0 : Hid (Below w.heap.size w ((w.alloc c.obj).alloc Cfg.zobj)) := ((Below.refl _ _).alloc (Nat.le_refl _) _).alloc (by simp) _
    rw [he.out] at HC
    unfold Cfg.v at *
    unfold Cfg.zero
    go_enter Tryd.func44, Tryd.ntmps44
    go_wp2_with fail
    refine HC.out.mono ?_
    rintro e w1 ⟨rfl, hb⟩
    have HB : Hid (Below w.heap.size w w1) := HB0.out.trans (hb.mono (by simp; omega))
    have hbl2 := (hb.block (w.heap.size + 1) (by simp)).trans (heap_new2 w c.obj Cfg.zobj)
    have hs : w.heap.size + 1 < w1.heap.size := by have := hb.size; simp at this; omega
    have z0 : w1.cell? ⟨w.heap.size + 1, 0, none⟩ = some (.int .i64 0) := cell_of_block hbl2 0
    have z1 : w1.cell? ⟨w.heap.size + 1, 1, none⟩ = some (.int .i64 0) := cell_of_block hbl2 1
    have z2 : w1.cell? ⟨w.heap.size + 1, 2, none⟩ = some (.int .i64 0) := cell_of_block hbl2 2
    have z3 : w1.cell? ⟨w.heap.size + 1, 3, none⟩ = some (.int .i64 0) := cell_of_block hbl2 3
    have f0 : w1.frozen? ⟨w.heap.size + 1, 0, none⟩ = false := frozen_of_block hbl2 0
    have f1 : w1.frozen? ⟨w.heap.size + 1, 1, none⟩ = false := frozen_of_block hbl2 1
    have f2 : w1.frozen? ⟨w.heap.size + 1, 2, none⟩ = false := frozen_of_block hbl2 2
    have f3 : w1.frozen? ⟨w.heap.size + 1, 3, none⟩ = false := frozen_of_block hbl2 3
    clear hb hbl2
    go_wp2_with fail
    exact bodyPost_ret (v := .tuple #[.agg #[.int .i64 0, .int .i64 0, .int .i64 0, .int .i64 0], .int .i64 2]) (by simp [results, Tryd.results44, go_sem, z0, z1, z2, z3]) rfl
      ⟨rfl, by repeat (first | exact HB.out | refine Below.setCell ?_ (by simp) _)⟩
theorem size_any (w : World) (c : Cfg) :
    Calls Tryd.prog 45 #[c.v] w fun e w' => e = .returned (.int .i64 c.words) ∧ Below w.heap.size w w' := by
  have HW := Lib.hid (words_any (w.alloc (.cells #[.int .i64 c.cells, .int .i64 c.muts, .int .i64 c.regs, .int .i64 c.globs] 88)) c)
  unfold Cfg.v at *
  go_enter Tryd.func45, Tryd.ntmps45
  go_wp2_with fail
  refine HW.out.mono ?_
  rintro e w1 ⟨rfl, hb⟩
  have HB : Hid (Below w.heap.size w w1) := ((Below.refl _ _).alloc (Nat.le_refl _) _).trans (hb.mono (by simp))
  clear hb
  go_wp2_with fail
  go_ret
  exact ⟨rfl, HB.out⟩

abbrev Cfg.mobj (c : Cfg) : Obj := .cells #[.int .i64 c.cells, .int .i64 c.muts, .int .i64 c.regs, .int .i64 c.globs] 88
theorem Cfg.mcells_at {c : Cfg} {w : World} {b : Nat} (h : w.heap[b]? = some c.mobj) : w.cell? ⟨b, 0, none⟩ = some (.int .i64 c.cells) ∧ w.cell? ⟨b, 1, none⟩ = some (.int .i64 c.muts) ∧ w.cell? ⟨b, 2, none⟩ = some (.int .i64 c.regs) ∧ w.cell? ⟨b, 3, none⟩ = some (.int .i64 c.globs) :=
  ⟨cell_of_block h 0, cell_of_block h 1, cell_of_block h 2, cell_of_block h 3⟩

/-- the place of the i-th of so many things that lie from a place on -/
def Cfg.at_ (c : Cfg) (f i many apart : Int) : Int := if c.ok = true ∧ 0 ≤ i ∧ i < many then wrap64 (f + wrap64 (i * apart)) else -1
theorem Cfg.words_pos (c : Cfg) (h : c.ok = true) : 0 < c.words := by
  have := c.mr h
  have h2 := c.ok_iff.1 h
  unfold Cfg.words Cfg.roots
  rw [if_pos h, if_pos h]
  omega
theorem Cfg.words_zero (c : Cfg) (h : ¬ c.ok = true) : c.words = 0 := by unfold Cfg.words; rw [if_neg h]

theorem mat_any (w : World) (c : Cfg) (f i many apart : Int) :
    Calls Tryd.prog 86 #[c.v, .int .i64 f, .int .i64 i, .int .i64 many, .int .i64 apart] w fun e w' => e = .returned (.int .i64 (c.at_ f i many apart)) ∧ Below w.heap.size w w' := by
  have HS := Lib.hid (size_any (w.alloc c.mobj) c)
  have HB0 : Hid (Below w.heap.size w (w.alloc c.mobj)) := (Below.refl _ _).alloc (Nat.le_refl _) _
  by_cases ok : c.ok = true
  · have hw : (c.words == 0) = false := by have := c.words_pos ok; rw [beq_eq_false_iff_ne]; omega
    by_cases h0 : i < 0
    · have hr : Hid (c.at_ f i many apart = -1) := by unfold Cfg.at_ Hid; rw [if_neg (by omega)]
      have d0 : decide (i < 0) = true := by simpa using h0
      clear ok h0
      unfold Cfg.v at *
      go_enter Tryd.func86, Tryd.ntmps86
      go_wp2_with fail
      refine HS.out.mono ?_
      rintro e w1 ⟨rfl, hb⟩
      have HB : Hid (Below w.heap.size w w1) := HB0.out.trans (hb.mono (by simp))
      clear hb
      go_wp2_with fail
      go_ret
      exact ⟨by rw [hr.out]; rfl, HB.out⟩
    · have d0 : decide (i < 0) = false := by simpa using h0
      by_cases h1 : many ≤ i
      · have hr : Hid (c.at_ f i many apart = -1) := by unfold Cfg.at_ Hid; rw [if_neg (by omega)]
        have d1 : decide (many ≤ i) = true := by simpa using h1
        clear ok h0 h1
        unfold Cfg.v at *
        go_enter Tryd.func86, Tryd.ntmps86
        go_wp2_with fail
        refine HS.out.mono ?_
        rintro e w1 ⟨rfl, hb⟩
        have HB : Hid (Below w.heap.size w w1) := HB0.out.trans (hb.mono (by simp))
        clear hb
        go_wp2_with fail
        go_ret
        exact ⟨by rw [hr.out]; rfl, HB.out⟩
      · have hr : Hid (c.at_ f i many apart = wrap64 (f + wrap64 (i * apart))) := by unfold Cfg.at_ Hid; rw [if_pos ⟨ok, by omega, by omega⟩]
        have d1 : decide (many ≤ i) = false := by simpa using h1
        clear ok h0 h1
        unfold Cfg.v at *
        go_enter Tryd.func86, Tryd.ntmps86
        go_wp2_with fail
        refine HS.out.mono ?_
        rintro e w1 ⟨rfl, hb⟩
        have HB : Hid (Below w.heap.size w w1) := HB0.out.trans (hb.mono (by simp))
        clear hb
        go_wp2_with fail
        go_ret
        exact ⟨by rw [hr.out]; rfl, HB.out⟩
  · have hw : (c.words == 0) = true := by rw [c.words_zero ok]; rfl
    have hr : Hid (c.at_ f i many apart = -1) := by unfold Cfg.at_ Hid; rw [if_neg (fun h => ok h.1)]
    clear ok
    unfold Cfg.v at *
    go_enter Tryd.func86, Tryd.ntmps86
    go_wp2_with fail
    refine HS.out.mono ?_
    rintro e w1 ⟨rfl, hb⟩
    have HB : Hid (Below w.heap.size w w1) := HB0.out.trans (hb.mono (by simp))
    clear hb
    go_wp2_with fail
    go_ret
    exact ⟨by rw [hr.out]; rfl, HB.out⟩
end Go.Proofs.YtipoklnoknkfhaaDoor

/- The contracts of the reference on configurations: Right, Roots, Words. -/
import Derived.Test.YtipoklnoknkfhaaDoorPlace
namespace Go.Proofs.YtipoklnoknkfhaaDoor
open Go Go.RowKit
set_option linter.unusedSimpArgs false
set_option linter.unusedVariables false

theorem refright_any (w : World) (c : Cfg) :
    Calls Tryd.prog 12 #[c.v] w fun e w' => e = .returned (.bool c.ok) ∧ Below w.heap.size w w' := by
  obtain ⟨k0, k1, k2, k3⟩ := Cfg.cells_at (heap_alloc_new w c.obj)
  have HB0 : Hid (Below w.heap.size w (w.alloc c.obj)) := (Below.refl _ _).alloc (Nat.le_refl _) _
  have hok : c.ok = (decide (1 < c.cells) && decide (c.cells < 4097) && decide (0 < c.muts) && decide (c.muts < 64) && decide (0 < c.regs) && decide (c.regs < 65) && decide (-1 < c.globs) && decide (c.globs < 65)) := by
    rw [Bool.eq_iff_iff, c.ok_iff]
    simp only [Bool.and_eq_true, decide_eq_true_eq]
    omega
  generalize c.ok = ok at hok
  generalize g1 : decide (1 < c.cells) = b1 at hok
  generalize g2 : decide (c.cells < 4097) = b2 at hok
  generalize g3 : decide (0 < c.muts) = b3 at hok
  generalize g4 : decide (c.muts < 64) = b4 at hok
  generalize g5 : decide (0 < c.regs) = b5 at hok
  generalize g6 : decide (c.regs < 65) = b6 at hok
  generalize g7 : decide (-1 < c.globs) = b7 at hok
  generalize g8 : decide (c.globs < 65) = b8 at hok
  have HOK := Lib.hid hok
  clear hok
  cases b1
  · go_enter Tryd.func12, Tryd.ntmps12
    go_wp2
    go_ret
    exact ⟨by rw [HOK.out]; rfl, HB0.out⟩
  cases b2
  · go_enter Tryd.func12, Tryd.ntmps12
    go_wp2
    go_ret
    exact ⟨by rw [HOK.out]; rfl, HB0.out⟩
  cases b3
  · go_enter Tryd.func12, Tryd.ntmps12
    go_wp2
    go_ret
    exact ⟨by rw [HOK.out]; rfl, HB0.out⟩
  cases b4
  · go_enter Tryd.func12, Tryd.ntmps12
    go_wp2
    go_ret
    exact ⟨by rw [HOK.out]; rfl, HB0.out⟩
  cases b5
  · go_enter Tryd.func12, Tryd.ntmps12
    go_wp2
    go_ret
    exact ⟨by rw [HOK.out]; rfl, HB0.out⟩
  cases b6
  · go_enter Tryd.func12, Tryd.ntmps12
    go_wp2
    go_ret
    exact ⟨by rw [HOK.out]; rfl, HB0.out⟩
  cases b7
  · go_enter Tryd.func12, Tryd.ntmps12
    go_wp2
    go_ret
    exact ⟨by rw [HOK.out]; rfl, HB0.out⟩
  cases b8
  · go_enter Tryd.func12, Tryd.ntmps12
    go_wp2
    go_ret
    exact ⟨by rw [HOK.out]; rfl, HB0.out⟩
  · go_enter Tryd.func12, Tryd.ntmps12
    go_wp2
    go_ret
    exact ⟨by rw [HOK.out]; rfl, HB0.out⟩

theorem refroots_any (w : World) (c : Cfg) :
    Calls Tryd.prog 47 #[c.v] w fun e w' => e = .returned (.int .i64 c.roots) ∧ Below w.heap.size w w' := by
  have HB0 : Hid (Below w.heap.size w (w.alloc c.obj)) := (Below.refl _ _).alloc (Nat.le_refl _) _
  by_cases ok : c.ok = true
  · have hr : Hid (c.roots = 1 + c.globs + c.muts * c.regs) := by unfold Cfg.roots Hid; rw [if_pos ok]
    have HOK := Lib.hid ok
    obtain ⟨_, _, _, _, _, _, _, _⟩ := c.ok_iff.1 ok
    clear ok
    have hs0 : IntKind.i64.wrap (1 + c.globs) = 1 + c.globs := IntWalk.i64_in _ (by omega)
    go_enter Tryd.func47, Tryd.ntmps47
    go_wp2_with fail
    refine (refright_any _ c).mono ?_
    rintro e w1 ⟨rfl, hb⟩
    rw [HOK.out]
    have HB : Hid (Below w.heap.size w w1) := HB0.out.trans (hb.mono (by simp))
    have hbk : w1.heap[w.heap.size]? = some c.obj := (hb.block w.heap.size (by simp)).trans (heap_alloc_new w c.obj)
    obtain ⟨k0, k1, k2, k3⟩ := Cfg.cells_at hbk
    clear hb hbk
    go_wp2_with fail
    clear hs0
    go_loop [3, 4] (fun n i => ∃ k : Nat, (k : Int) ≤ c.muts ∧ i = .int .i64 k ∧ n = .int .i64 (1 + c.globs + k * c.regs)) (fun _ i => c.muts.toNat - (intOf i).toNat)
    case atStart => exact ⟨0, by simp; omega, rfl, by simp⟩
    case round =>
      obtain ⟨k, hk, rfl, rfl⟩ := hrel
      have hm := mul_bd (a := (k : Int)) (b := c.regs) (x := 63) (y := 64) (by omega) (by omega) (by omega) (by omega)
      obtain ⟨hm0, hm1⟩ := hm
      have hs : IntKind.i64.wrap (1 + c.globs + k * c.regs + c.regs) = 1 + c.globs + k * c.regs + c.regs := IntWalk.i64_in _ (by omega)
      by_cases hlt : (k : Int) < c.muts
      · go_wp2_with fail
        go_round
        case rel => exact ⟨k + 1, by omega, by go_num, by
          have e : ((k + 1 : Nat) : Int) * c.regs = k * c.regs + c.regs := by rw [Int.natCast_add, Int.add_mul]; simp
          rw [e]; congr 1; omega⟩
        case measure => simp [intOf]; omega
      · have hke : (k : Int) = c.muts := by omega
        have HKE := Lib.hid hke
        clear hke
        go_wp2_with fail
        go_ret
        exact ⟨by rw [hr.out, ← HKE.out]; rfl, HB.out⟩
  · have hr : Hid (c.roots = 0) := by unfold Cfg.roots Hid; rw [if_neg ok]
    have HOK : Hid (c.ok = false) := by unfold Hid; simpa using ok
    clear ok
    go_enter Tryd.func47, Tryd.ntmps47
    go_wp2_with fail
    refine (refright_any _ c).mono ?_
    rintro e w1 ⟨rfl, hb⟩
    rw [HOK.out]
    have HB : Hid (Below w.heap.size w w1) := HB0.out.trans (hb.mono (by simp))
    clear hb
    go_wp2_with fail
    go_ret
    exact ⟨by rw [hr.out]; rfl, HB.out⟩

theorem refwords_any (w : World) (c : Cfg) :
    Calls Tryd.prog 13 #[c.v] w fun e w' => e = .returned (.int .i64 c.words) ∧ Below w.heap.size w w' := by
  have HB0 : Hid (Below w.heap.size w (w.alloc c.obj)) := (Below.refl _ _).alloc (Nat.le_refl _) _
  by_cases ok : c.ok = true
  · have hr : Hid (c.words = 4 + c.muts + c.roots + c.cells + c.cells + c.cells) := by unfold Cfg.words Hid; rw [if_pos ok]; omega
    have hrt : Hid (c.roots = 1 + c.globs + c.muts * c.regs) := by unfold Cfg.roots Hid; rw [if_pos ok]
    have HOK := Lib.hid ok
    obtain ⟨_, _⟩ := c.mr ok
    obtain ⟨_, _, _, _, _, _, _, _⟩ := c.ok_iff.1 ok
    have hrb : 0 ≤ c.roots ∧ c.roots ≤ 5000 := by rw [hrt.out]; omega
    obtain ⟨_, _⟩ := hrb
    clear ok
    have hs1 : IntKind.i64.wrap (4 + c.muts) = 4 + c.muts := IntWalk.i64_in _ (by omega)
    have hs2 : IntKind.i64.wrap (4 + c.muts + c.roots) = 4 + c.muts + c.roots := IntWalk.i64_in _ (by omega)
    have hs3 : IntKind.i64.wrap (4 + c.muts + c.roots + c.cells) = 4 + c.muts + c.roots + c.cells := IntWalk.i64_in _ (by omega)
    have hs4 : IntKind.i64.wrap (4 + c.muts + c.roots + c.cells + c.cells) = 4 + c.muts + c.roots + c.cells + c.cells := IntWalk.i64_in _ (by omega)
    have hs5 : IntKind.i64.wrap (4 + c.muts + c.roots + c.cells + c.cells + c.cells) = 4 + c.muts + c.roots + c.cells + c.cells + c.cells := IntWalk.i64_in _ (by omega)
    go_enter Tryd.func13, Tryd.ntmps13
    go_wp2_with fail
    refine (refright_any _ c).mono ?_
    rintro e w1 ⟨rfl, hb⟩
    rw [HOK.out]
    have HB : Hid (Below w.heap.size w w1) := HB0.out.trans (hb.mono (by simp))
    have hs : w.heap.size + 1 ≤ w1.heap.size := by have := hb.size; simpa using this
    have hbk : w1.heap[w.heap.size]? = some c.obj := (hb.block w.heap.size (by simp)).trans (heap_alloc_new w c.obj)
    obtain ⟨k0, k1, k2, k3⟩ := Cfg.cells_at hbk
    clear hb hbk
    go_wp2_with fail
    go_region_held3 (fun w' => w'.cell? ⟨w.heap.size, 0, none⟩ = some (.int .i64 c.cells) ∧ w'.cell? ⟨w.heap.size, 1, none⟩ = some (.int .i64 c.muts) ∧ w'.cell? ⟨w.heap.size, 2, none⟩ = some (.int .i64 c.regs) ∧ w'.cell? ⟨w.heap.size, 3, none⟩ = some (.int .i64 c.globs) ∧ w.heap.size + 1 ≤ w'.heap.size ∧ Below (w.heap.size + 1) w1 w')
      (first
        | exact ⟨k0, k1, k2, k3, hs, (Below.refl _ _).drew⟩
        | (go_split_ands; refine ⟨?_, ?_, ?_, ?_, ?_, ?_⟩ <;> first | (rw [hb2.cell (by first | (simp; done) | (simp; omega))]; assumption) | exact Below.trans (by assumption) (hb2.mono (by first | assumption | (simp; done) | (simp at *; omega))) | exact Nat.le_trans (by first | assumption | (simp; done) | (simp at *; omega)) hb2.size))
      (first | (go_at_call 47; refine (refroots_any _ c).mono ?_; rintro e w2 ⟨rfl, hb2⟩))
    all_goals
      go_wp2_with fail
      go_ret
      go_split_ands
      exact ⟨by rw [hr.out]; first | rfl | (simp only [IntKind.wrap_i64]; rfl), HB.out.trans (Below.mono (by assumption) (Nat.le_succ _))⟩
  · have hr : Hid (c.words = 0) := by unfold Cfg.words Hid; rw [if_neg ok]
    have HOK : Hid (c.ok = false) := by unfold Hid; simpa using ok
    clear ok
    go_enter Tryd.func13, Tryd.ntmps13
    go_wp2_with fail
    refine (refright_any _ c).mono ?_
    rintro e w1 ⟨rfl, hb⟩
    rw [HOK.out]
    have HB : Hid (Below w.heap.size w w1) := HB0.out.trans (hb.mono (by simp))
    clear hb
    go_wp2_with fail
    go_ret
    exact ⟨by rw [hr.out]; rfl, HB.out⟩
end Go.Proofs.YtipoklnoknkfhaaDoor

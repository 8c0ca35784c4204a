/- The words at first: the walk of place.First. -/
import Derived.Test.YtdohmjdcgpkclaaDoorFirst
namespace Go.Proofs.YtdohmjdcgpkclaaDoor
open Go Go.RowKit
set_option linter.unusedSimpArgs false
set_option linter.unusedVariables false

def FirstPost (w : World) (c : Cfg) (T : Nat) (e : Ending) (w' : World) : Prop :=
  ∃ gb, e = .returned (.slice (some ⟨gb, 0, none⟩) T T) ∧ w'.heap[gb]? = some (wordsObj (c.fl T (c.cells - 1))) ∧ w.heap.size ≤ gb ∧ Below w.heap.size w w'
theorem pfirst_no (w : World) (c : Cfg) (ok : c.ok = false) :
    Calls Tryd.prog 31 #[c.v] w fun e w' => e = .returned (.slice none 0 0) ∧ Below w.heap.size w w' := by
  obtain ⟨k0, k1, k2, k3⟩ := Cfg.cells_at (heap_alloc_new w c.obj)
  have HB0 : Hid (Below w.heap.size w (w.alloc c.obj)) := (Below.refl _ _).alloc (Nat.le_refl _) _
  have HP := Lib.hid (pnew_any (w.alloc c.obj) c)
  have he : Hid (c.err = 2) := by unfold Cfg.err Hid; rw [if_neg (by simp [ok])]
  clear ok
  go_enter Tryd.func31, Tryd.ntmps31
  go_wp2_with fail
  refine HP.out.mono ?_
  rintro e w1 ⟨rfl, hb⟩
  rw [he.out]
  have HB : Hid (Below w.heap.size w w1) := HB0.out.trans (hb.mono HB0.out.size)
  clear k0 k1 k2 k3 hb
  generalize c.map = cm
  go_wp2_with fail
  go_ret
  exact ⟨rfl, HB.out.alloc HB.out.size _⟩
set_option maxHeartbeats 4000000 in
set_option maxRecDepth 100000 in
theorem pfirst_ok (w : World) (c : Cfg) (n m r g T : Nat) (hn : c.cells = n) (hm : c.muts = m) (hr : c.regs = r) (hg : c.globs = g) (ok : c.ok = true) (hT : T = 5 + m + g + m * r + 3 * n) :
    Calls Tryd.prog 31 #[c.v] w (FirstPost w c T) := by
  obtain ⟨k0, k1, k2, k3⟩ := Cfg.cells_at (heap_alloc_new w c.obj)
  have HB0 : Hid (Below w.heap.size w (w.alloc c.obj)) := (Below.refl _ _).alloc (Nat.le_refl _) _
  have HP := Lib.hid (pnew_any (w.alloc c.obj) c)
  have he : Hid (c.err = 0) := by unfold Cfg.err Hid; rw [if_pos ok]
  have hmp : Hid (c.map = c) := by unfold Cfg.map Hid; rw [if_pos ok]
  have HW0 : Hid ((w.alloc c.obj).heap[w.heap.size]? = some c.obj) := heap_alloc_new w c.obj
  have hwd : c.words = T := by rw [c.words_b3 ok]; unfold Cfg.b3; rw [hn, hm, hr, hg, hT]; simp
  have hbd := c.ok_iff.1 ok
  have b0 : 2 ≤ n ∧ n ≤ 4096 := by omega
  have hTb : T ≤ 20000 := by
    have h1 := c.bounds ok
    have h2 := c.words_b3 ok
    omega
  have OK := Lib.hid ok
  have HN := Lib.hid hn
  have HWD := Lib.hid hwd
  clear ok hn hm hr hg hT hbd hwd
  go_enter Tryd.func31, Tryd.ntmps31
  go_wp2_with fail
  refine HP.out.mono ?_
  rintro e w1 ⟨rfl, hb⟩
  rw [he.out, hmp.out]
  have HB : Hid (Below w.heap.size w w1) := HB0.out.trans (hb.mono HB0.out.size)
  have HX : Hid (w1.heap[w.heap.size]? = some c.obj) := (hb.block _ (by simp)).trans HW0.out
  clear k0 k1 k2 k3 hb
  go_wp2_with fail
  refine (size_any _ c).mono ?_
  rintro e w2 ⟨rfl, hb⟩
  rw [HWD.out]
  have HM2 : Hid (w2.heap[w1.heap.size]? = some c.mobj) := (hb.block _ (by simp)).trans (heap_alloc_new w1 c.mobj)
  have HX2 : Hid (w2.heap[w.heap.size]? = some c.obj) := (hb.block _ (by have := block_lt HX.out; simp; omega)).trans ((Below.heap_alloc _ _ _ (block_lt HX.out)).trans HX.out)
  have HB2 : Hid (Below w.heap.size w w2) := (HB.out.alloc HB.out.size _).trans (hb.mono (by have := HB.out.size; simp; omega))
  have hmk := fun W => make_fwords W T (by omega)
  clear hb
  go_wp2_with fail
  refine (cell_any _ 0 (by decide) (by decide)).mono ?_
  rintro e w3 ⟨rfl, hw3⟩
  obtain rfl := hw3.symm
  clear hw3 hmk
  rw [show (if (0 : Int) ≤ 0 ∧ (0 : Int) < 4096 then (0 : Int) * 2 + 1 else 0) = 1 by decide]
  have hM : w1.heap.size < w2.heap.size := block_lt HM2.out
  have hX : w.heap.size < w1.heap.size := block_lt HX.out
  have hT0 : 0 < T := by have h1 := c.words_pos OK.out; have h2 := HWD.out; omega
  have hT1 : (0 : Int) < (T : Int) := by omega
  have hcc : ∀ o, (w2.alloc o).cell? ⟨w.heap.size, 0, none⟩ = some (.int .i64 (n : Int)) := fun o => by
    have := (World.cell?_alloc_lt w2 o ⟨w.heap.size, 0, none⟩ (by show w.heap.size < _; omega)).trans (Cfg.cells_at HX2.out).1
    rwa [HN.out] at this
  have HOBJ : Hid (Obj.cells ((Array.replicate T (Value.int .u64 0)).setIfInBounds 0 (Value.int .u64 1)) 23 = wordsObj (c.fl T 0)) := by
    unfold Hid wordsObj
    rw [← fl_start c OK.out T hT0 (by omega)]
    congr 1
    apply Array.toList_inj.1
    simp
  have s1 : IntKind.i64.wrap ((n : Int) - 1) = (n : Int) - 1 := IntWalk.i64_in _ (by omega)
  go_wp2_with fail
  rw [HOBJ.out]
  have HF4 : Hid ((w2.alloc (wordsObj (c.fl T 0))).heap[w2.heap.size]? = some (wordsObj (c.fl T ((0 : Nat) : Int)))) := heap_alloc_new w2 _
  have HM4 : Hid ((w2.alloc (wordsObj (c.fl T 0))).heap[w1.heap.size]? = some c.mobj) := (Below.heap_alloc _ _ _ hM).trans HM2.out
  have HB4 : Hid (Below w.heap.size w (w2.alloc (wordsObj (c.fl T 0)))) := HB2.out.alloc HB2.out.size _
  clear hcc HX2 s1
  go_loopw [23, 6] (fun i _ wr => ∃ k : Nat, (k : Int) ≤ (n : Int) - 1 ∧ i = .int .i64 k ∧ Hid (wr.heap[w2.heap.size]? = some (wordsObj (c.fl T (k : Int)))) ∧ Hid (wr.heap[w1.heap.size]? = some c.mobj) ∧ Hid (Below w.heap.size w wr)) (fun i _ _ => n - (intOf i).toNat)
  case atStart => exact ⟨0, by omega, rfl, HF4.out, HM4.out, HB4.out⟩
  case round =>
    obtain ⟨k, hk, rfl, HF, HM, HBR⟩ := hrel
    by_cases hlt : (k : Int) < (n : Int) - 1
    · obtain ⟨k0, k1, k2, k3⟩ := Cfg.mcells_at HM.out
      have hb3 := c.bounds OK.out
      have hbg := c.begin_ OK.out
      obtain ⟨p, hp⟩ : ∃ p : Nat, (p : Int) = c.b3 + 3 * (k : Int) + 1 := ⟨(c.b3 + 3 * (k : Int) + 1).toNat, by omega⟩
      have hw := c.words_b3 OK.out
      have hpT : p < T := by have h2 := HWD.out; have h3 := HN.out; omega
      have HCD : Hid (c.at_ (wrap64 (c.c0 + 1)) (k : Int) c.cells 3 = (p : Int)) := by
        unfold Hid
        rw [hbg.2.2, wrap64_id (by unfold Cfg.b3 at hb3; omega) (by unfold Cfg.b3 at hb3; omega), c.at_ok OK.out _ _ _ _ (by unfold Cfg.b3 at hb3; omega) (by unfold Cfg.b3 at hb3; omega) (by have := HN.out; omega) (by omega) (by omega), if_pos (by have := HN.out; omega), hp]
        unfold Cfg.b3
        omega
      have HP := Lib.hid hp
      have s2 : IntKind.i64.wrap ((k : Int) + 1) = (k : Int) + 1 := IntWalk.i64_in _ (by omega)
      have HCV : Hid ((if 0 ≤ (k : Int) + 1 ∧ (k : Int) + 1 < 4096 then ((k : Int) + 1) * 2 + 1 else 0) = ((k : Int) + 1) * 2 + 1) := by unfold Hid; rw [if_pos (by omega)]
      clear hb3 hbg hp hw
      go_wp2_with fail
      refine (cdr_any _ c k).mono ?_
      rintro e w5 ⟨rfl, hb⟩
      rw [HCD.out]
      have HF5 : Hid (w5.heap[w2.heap.size]? = some (wordsObj (c.fl T (k : Int)))) := (hb.block _ (block_lt HF.out)).trans HF.out
      have HM5 : Hid (w5.heap[w1.heap.size]? = some c.mobj) := (hb.block _ (block_lt HM.out)).trans HM.out
      have HB5 : Hid (Below w.heap.size w w5) := HBR.out.trans (hb.mono HBR.out.size)
      clear k0 k1 k2 k3 hb
      go_wp2_with fail
      refine (cell_any _ ((k : Int) + 1) (by omega) (by omega)).mono ?_
      rintro e w6 ⟨rfl, hw6⟩
      obtain rfl := hw6.symm
      clear hw6
      rw [HCV.out]
      have hc0 := words_cell HF5.out p (by rw [Cfg.fl_len]; exact hpT)
      have hf0 := frozen_of_block HF5.out p
      have i1 : (p : Int) < (T : Int) := by omega
      have i0 : (0 : Int) ≤ (p : Int) := by omega
      go_wp2_with fail
      go_roundw
      case rel =>
        refine ⟨k + 1, by omega, by go_num, ?_, ?_, ?_⟩
        · have := words_set HF5.out p (((k : Int) + 1) * 2 + 1)
          rw [fl_set c OK.out T k p HP.out] at this
          exact this
        · exact (Below.heap_setCell _ _ _ _ (by simp; omega)).trans HM5.out
        · exact HB5.out.setCell (p := ⟨w2.heap.size, p, none⟩) HB2.out.size _
      case measure => simp [intOf]; omega
    · have hke : (k : Int) = c.cells - 1 := by have := HN.out; omega
      have HKE := Lib.hid hke
      clear hke
      go_wp2_with fail
      go_ret
      exact ⟨_, rfl, by rw [← HKE.out]; exact HF.out, HB2.out.size, HBR.out⟩
end Go.Proofs.YtdohmjdcgpkclaaDoor

/- The words at first, by the reference: the walk of mudlarkref04.First. -/
import Derived.Test.YtipoklnoknkfhaaDoorFirst
namespace Go.Proofs.YtipoklnoknkfhaaDoor
open Go Go.RowKit
set_option linter.unusedSimpArgs false
set_option linter.unusedVariables false

/-- the list, as far as place k -/
def upTo (F : Nat → Int) (T k : Nat) : List Int := (List.range T).map fun j => if j < k then F j else 0
theorem upTo_len (F : Nat → Int) (T k : Nat) : (upTo F T k).length = T := by simp [upTo]
theorem upTo_zero (F : Nat → Int) (T : Nat) : upTo F T 0 = List.replicate T 0 := by
  refine List.ext_getElem (by simp [upTo]) fun i h1 h2 => ?_
  simp [upTo]
theorem upTo_all (F : Nat → Int) (T : Nat) : upTo F T T = (List.range T).map F := by
  refine List.ext_getElem (by simp [upTo]) fun i h1 h2 => ?_
  simp [upTo] at h1 ⊢
  omega
theorem upTo_set (F : Nat → Int) (T k : Nat) (v : Int) (hv : F k = v) : (upTo F T k).set k v = upTo F T (k + 1) := by
  refine List.ext_getElem (by simp [upTo]) fun i h1 h2 => ?_
  rw [List.getElem_set]
  by_cases e : k = i
  · subst e
    rw [if_pos rfl]
    simp [upTo, hv]
  · rw [if_neg e]
    simp only [upTo, List.getElem_map, List.getElem_range]
    by_cases hl : i < k
    · rw [if_pos hl, if_pos (by omega)]
    · rw [if_neg hl, if_neg (by omega)]
theorem upTo_skip (F : Nat → Int) (T k : Nat) (hv : F k = 0) : upTo F T k = upTo F T (k + 1) := by
  refine List.ext_getElem (by simp [upTo]) fun i h1 h2 => ?_
  simp only [upTo, List.getElem_map, List.getElem_range]
  by_cases e : k = i
  · subst e
    rw [if_neg (by omega), if_pos (by omega), hv]
  · by_cases hl : i < k
    · rw [if_pos hl, if_pos (by omega)]
    · rw [if_neg hl, if_neg (by omega)]
def RFirstPost (w : World) (c : Cfg) (T : Nat) (e : Ending) (w' : World) : Prop :=
  ∃ gb, e = .returned (.slice (some ⟨gb, 0, none⟩) T T) ∧ w'.heap[gb]? = some (wordsObj (c.fl T (c.cells - 1))) ∧ w.heap.size ≤ gb ∧ Below w.heap.size w w'
def NoneAtAll (w : World) (e : Ending) (w' : World) : Prop := ∃ A, e = .returned (.slice A 0 0) ∧ Below w.heap.size w w'
theorem rfirst_no (w : World) (c : Cfg) (ok : c.ok = false) :
    Calls Tryd.prog 43 #[c.v] w (NoneAtAll w) := by
  obtain ⟨k0, k1, k2, k3⟩ := Cfg.cells_at (heap_alloc_new w c.obj)
  have HB0 : Hid (Below w.heap.size w (w.alloc c.obj)) := (Below.refl _ _).alloc (Nat.le_refl _) _
  have HP := Lib.hid (all_no (w.alloc c.obj) c ok)
  have hmk : ∀ W, (Instr.makeSlice 24 (.int .i64 0) (.int .i64 0)).run Tryd.prog W = .ok (.slice (some ⟨W.heap.size, 0, none⟩) 0 0) (W.alloc (.cells #[] 26)) := fun W => make_fwords W 0 (by omega)
  clear ok
  go_enter Tryd.func43, Tryd.ntmps43
  go_wp2_with fail
  refine HP.out.mono ?_
  rintro e w1 ⟨rfl, hb⟩
  have HB : Hid (Below w.heap.size w w1) := HB0.out.trans (hb.mono HB0.out.size)
  clear k0 k1 k2 k3 hb
  go_wp2_with fail
  refine wp_loop_rounds 1 ?_
  rw [rounds_succ]
  go_wp2_with fail
  go_ret
  exact ⟨_, rfl, HB.out.alloc HB.out.size _⟩
set_option maxHeartbeats 8000000 in
set_option maxRecDepth 100000 in
theorem rfirst_ok (w : World) (c : Cfg) (n m r g T : Nat) (hn : c.cells = n) (hm : c.muts = m) (hr : c.regs = r) (hg : c.globs = g) (ok : c.ok = true) (hT : T = 5 + m + g + m * r + 3 * n) :
    Calls Tryd.prog 43 #[c.v] w (RFirstPost w c T) := by
  obtain ⟨k0, k1, k2, k3⟩ := Cfg.cells_at (heap_alloc_new w c.obj)
  have HB0 : Hid (Below w.heap.size w (w.alloc c.obj)) := (Below.refl _ _).alloc (Nat.le_refl _) _
  have HA := Lib.hid (all_any (w.alloc c.obj) c n m r g hn hm hr hg ok)
  rw [← hT] at HA
  have HW0 : Hid ((w.alloc c.obj).heap[w.heap.size]? = some c.obj) := heap_alloc_new w c.obj
  have hwd : c.words = T := by rw [c.words_b3 ok]; unfold Cfg.b3; rw [hn, hm, hr, hg, hT]; simp
  have hbd := c.ok_iff.1 ok
  have b0 : 2 ≤ n ∧ n ≤ 4096 := by omega
  have hT0 : 0 < T := by omega
  have hTb : T ≤ 20000 := by
    have h1 := c.bounds ok
    have h2 := c.words_b3 ok
    omega
  have OK := Lib.hid ok
  have HN := Lib.hid hn
  have HWD := Lib.hid hwd
  have hmk := fun W => make_fwords W T (by omega)
  clear ok hn hm hr hg hT hbd hwd
  go_enter Tryd.func43, Tryd.ntmps43
  go_wp2_with fail
  refine HA.out.mono ?_
  rintro e w1 ⟨v, rfl, hrow, hb⟩
  obtain ⟨gl, cap, rfl, hgl, hgB, hcap, hcell⟩ := row_spot hrow hT0
  have HB : Hid (Below w.heap.size w w1) := HB0.out.trans (hb.mono HB0.out.size)
  have HX : Hid (w1.heap[w.heap.size]? = some c.obj) := (hb.block _ (by simp)).trans HW0.out
  have HCL := Lib.hid hcell
  clear k0 k1 k2 k3 hb hrow hcell
  obtain ⟨F, hF⟩ : ∃ F : Nat → Int, F = fun k : Nat => c.fst (c.cells - 1) (k : Int) := ⟨_, rfl⟩
  have HFF := Lib.hid hF
  have HOBJ : Hid (Obj.cells (Array.replicate T (Value.int .u64 0)) 26 = wordsObj (upTo F T 0)) := by
    unfold Hid wordsObj
    rw [upTo_zero]
    congr 1
    apply Array.toList_inj.1
    simp
  clear hF
  go_wp2_with fail
  rw [HOBJ.out]
  have HF0 : Hid ((w1.alloc (wordsObj (upTo F T 0))).heap[w1.heap.size]? = some (wordsObj (upTo F T 0))) := heap_alloc_new w1 _
  have HB1 : Hid (Below w.heap.size w (w1.alloc (wordsObj (upTo F T 0)))) := HB.out.alloc HB.out.size _
  have HL0 : Hid (∀ b, b < w1.heap.size → (w1.alloc (wordsObj (upTo F T 0))).heap[b]? = w1.heap[b]?) := fun b hb => Below.heap_alloc _ _ _ hb
  have hXz : w.heap.size < w1.heap.size := block_lt HX.out
  clear hmk
  go_loopw [5] (fun i wr => ∃ k : Nat, k ≤ T ∧ i = .int .i64 k ∧ Hid (wr.heap[w1.heap.size]? = some (wordsObj (upTo F T k))) ∧ Hid (∀ b, b < w1.heap.size → wr.heap[b]? = w1.heap[b]?) ∧ Hid (Below w.heap.size w wr)) (fun i _ => T - (intOf i).toNat)
  case atStart => exact ⟨0, by omega, rfl, HF0.out, HL0.out, HB1.out⟩
  case round =>
    obtain ⟨k, hk, rfl, HFK, HLK, HBR⟩ := hrel
    by_cases hlt : k < T
    · obtain ⟨c0, c1, _⟩ := HCL.out k hlt
      have hsz : w1.heap.size < wr.heap.size := block_lt HFK.out
      have s0 := (World.cell?_of_block (a := ⟨gl, k * 3, none⟩) (HLK.out gl hgl)).trans c0
      have s1 := (World.cell?_of_block (a := ⟨gl, k * 3 + 1, none⟩) (HLK.out gl hgl)).trans c1
      have kc := (Cfg.cells_at ((HLK.out _ hXz).trans HX.out)).1
      rw [HN.out] at kc
      have ht0 := words_cell HFK.out k (by rw [upTo_len]; exact hlt)
      have hf0 := frozen_of_block HFK.out k
      have hsb := spot_bd c OK.out k (by omega) (by omega)
      have hk0 := spot_kind0 c OK.out k (by omega)
      have hkz : (k : Int) = 0 → (c.spot (k : Int)).kind = 0 := fun h => by rw [h, c.spot_0 0 (by omega)]
      have HV : Hid (F k = c.fst (c.cells - 1) (k : Int)) := by unfold Hid; rw [HFF.out]
      have i1 : (k : Int) < (T : Int) := by omega
      have i0 : (0 : Int) ≤ (k : Int) := by omega
      unfold Cfg.fst at HV
      rw [HN.out] at HV
      generalize (c.spot (k : Int)).kind = kd at *
      generalize (c.spot (k : Int)).a = a at *
      have s2 : IntKind.i64.wrap (a + 1) = a + 1 := IntWalk.i64_in _ (by omega)
      have HA1 : Hid (a + 1 < 4096 → (if 0 ≤ a + 1 ∧ a + 1 < 4096 then (a + 1) * 2 + 1 else 0) = (a + 1) * 2 + 1) := fun h => by rw [if_pos (by omega)]
      have HAB : Hid (-9223372036854775808 ≤ a + 1 ∧ a + 1 < 9223372036854775808) := by unfold Hid; omega
      clear c0 c1
      by_cases h5 : kd = 5
      · have d5 : (kd == 5) = true := by rw [h5]; rfl
        have d0 : (kd == 0) = false := by rw [h5]; rfl
        by_cases ha : a + 1 < (n : Int)
        · have d1 : decide (a + 1 < (n : Int)) = true := by simpa using ha
          have HA := Lib.hid (HA1.out (by omega))
          have HVV : Hid (F k = (a + 1) * 2 + 1) := by
            unfold Hid
            rw [HV.out, if_pos h5, if_pos (by omega)]
          clear hk0 hkz hsb h5 ha
          go_wp2_with fail
          go_quiet (fail)
          go_wp2_with fail
          refine (refCell_any _ (a + 1) HAB.out.1 HAB.out.2).mono ?_
          rintro e w6 ⟨rfl, hw6⟩
          obtain rfl := hw6.symm
          clear hw6
          rw [HA.out]
          go_wp2_with fail
          go_roundw
          case rel =>
            refine ⟨k + 1, by omega, by go_num, ?_, fun b hb => ?_, ?_⟩
            · rw [← upTo_set F T k _ HVV.out]
              exact words_set (w := wr.drewN _) HFK.out k _
            · exact (Below.heap_setCell _ _ _ _ (by simp; omega)).trans (HLK.out b hb)
            · exact (below_drewN HBR.out _).setCell (p := ⟨w1.heap.size, k, none⟩) HB.out.size _
          case measure => simp [intOf]; omega
        · have d1 : decide (a + 1 < (n : Int)) = false := by simpa using ha
          have HVV : Hid (F k = 0) := by
            unfold Hid
            rw [HV.out, if_pos h5, if_neg (by omega)]
          clear hk0 hkz hsb h5 ha
          go_wp2_with fail
          go_quiet (fail)
          go_wp2_with fail
          go_roundw
          case rel => exact ⟨k + 1, by omega, by go_num, by rw [← upTo_skip F T k HVV.out]; exact HFK.out, HLK.out, below_drewN HBR.out _⟩
          case measure => simp [intOf]; omega
      · have d5 : (kd == 5) = false := by rw [beq_eq_false_iff_ne]; exact h5
        by_cases h0 : kd = 0
        · have d0 : (kd == 0) = true := by rw [h0]; rfl
          obtain ⟨_, hak⟩ := hk0 h0
          by_cases ha : a = 0
          · have d2 : (a == 0) = true := by rw [ha]; rfl
            have HVV : Hid (F k = 1) := by
              unfold Hid
              rw [HV.out, if_neg h5, if_pos (by omega)]
            clear hk0 hkz hsb h5 ha h0 hak
            go_wp2_with fail
            go_quiet (fail)
            go_wp2_with fail
            refine (refCell_any _ 0 (by decide) (by decide)).mono ?_
            rintro e w6 ⟨rfl, hw6⟩
            obtain rfl := hw6.symm
            clear hw6
            rw [show (if (0 : Int) ≤ 0 ∧ (0 : Int) < 4096 then (0 : Int) * 2 + 1 else 0) = 1 by decide]
            go_wp2_with fail
            go_roundw
            case rel =>
              refine ⟨k + 1, by omega, by go_num, ?_, fun b hb => ?_, ?_⟩
              · rw [← upTo_set F T k _ HVV.out]
                exact words_set (w := wr.drewN _) HFK.out k _
              · exact (Below.heap_setCell _ _ _ _ (by simp; omega)).trans (HLK.out b hb)
              · exact (below_drewN HBR.out _).setCell (p := ⟨w1.heap.size, k, none⟩) HB.out.size _
            case measure => simp [intOf]; omega
          · have d2 : (a == 0) = false := by rw [beq_eq_false_iff_ne]; exact ha
            have HVV : Hid (F k = 0) := by
              unfold Hid
              rw [HV.out, if_neg h5, if_neg (by omega)]
            clear hk0 hkz hsb h5 ha h0 hak
            go_wp2_with fail
            go_quiet (fail)
            go_wp2_with fail
            go_roundw
            case rel => exact ⟨k + 1, by omega, by go_num, by rw [← upTo_skip F T k HVV.out]; exact HFK.out, HLK.out, below_drewN HBR.out _⟩
            case measure => simp [intOf]; omega
        · have d0 : (kd == 0) = false := by rw [beq_eq_false_iff_ne]; exact h0
          have HVV : Hid (F k = 0) := by
            unfold Hid
            rw [HV.out, if_neg h5, if_neg (fun h => h0 (hkz h))]
          clear hk0 hkz hsb h5 h0
          go_wp2_with fail
          go_quiet (fail)
          go_wp2_with fail
          go_roundw
          case rel => exact ⟨k + 1, by omega, by go_num, by rw [← upTo_skip F T k HVV.out]; exact HFK.out, HLK.out, below_drewN HBR.out _⟩
          case measure => simp [intOf]; omega
    · have hke : k = T := by omega
      have HKE := Lib.hid hke
      clear hke
      go_wp2_with fail
      go_ret
      refine ⟨_, rfl, ?_, HB.out.size, HBR.out⟩
      have := HFK.out
      rw [HKE.out, upTo_all] at this
      rw [HFF.out] at this
      exact this
end Go.Proofs.YtipoklnoknkfhaaDoor

/- The document's text of a configuration. -/
import Derived.Test.YtcheafeaioflmaaDoorRef03
import Derived.Test.YtcheafeaioflmaaDoorCfgText
import Derived.Test.YtcheafeaioflmaaDoorStrEq
import Derived.Deep.RegionHeld3
namespace Go.Proofs.YtcheafeaioflmaaDoor
open Go Go.RowKit
set_option linter.unusedSimpArgs false
set_option linter.unusedVariables false

theorem ref3_bytes (c : Cfg) (ok : c.ok = true) : c.tbytes = [99, 101, 108, 108, 115, 32] ++ Lib.decDigits c.cells.toNat ++ [32, 109, 117, 116, 115, 32] ++ Lib.decDigits c.muts.toNat ++ [32, 114, 101, 103, 115, 32] ++ Lib.decDigits c.regs.toNat ++ [32, 103, 108, 111, 98, 115, 32] ++ Lib.decDigits c.globs.toNat := by
  unfold Cfg.tbytes
  rw [if_pos ok]
  simp [Cfg.tparts, joinSp, cfgWords]
set_option maxHeartbeats 4000000 in
set_option maxRecDepth 100000 in
theorem ref3text_any (w : World) (c : Cfg) :
    Calls Tryd.prog 35 #[c.v] w fun e w' => e = .returned (.string c.text) ∧ Below w.heap.size w w' := by
  have HB0 : Hid (Below w.heap.size w (w.alloc c.obj)) := (Below.refl _ _).alloc (Nat.le_refl _) _
  have HX0 := Lib.hid (heap_alloc_new w c.obj)
  obtain ⟨k0, k1, k2, k3⟩ := Cfg.cells_at HX0.out
  by_cases ok : c.ok = true
  · have HOK := Lib.hid ok
    have HT := Lib.hid (ref3_bytes c ok)
    have ho := c.ok_iff.1 ok
    have HD0 := Lib.hid (fun W => refDigits_any W c.cells (by omega) (by omega))
    have HD1 := Lib.hid (fun W => refDigits_any W c.muts (by omega) (by omega))
    have HD2 := Lib.hid (fun W => refDigits_any W c.regs (by omega) (by omega))
    have HD3 := Lib.hid (fun W => refDigits_any W c.globs (by omega) (by omega))
    have z0 := (dec_size c.cells.toNat (by omega)).2
    have z1 := (dec_size c.muts.toNat (by omega)).2
    have z2 := (dec_size c.regs.toNat (by omega)).2
    have z3 := (dec_size c.globs.toNat (by omega)).2
    clear ok ho
    go_enter Tryd.func35, Tryd.ntmps35
    go_wp2_with fail
    refine (refright_any _ c).mono ?_
    rintro e w1 ⟨rfl, hb⟩
    rw [HOK.out]
    have HB1 : Hid (Below w.heap.size w w1) := HB0.out.trans (hb.mono HB0.out.size)
    have HX1 := Lib.hid ((hb.block w.heap.size (by simp)).trans HX0.out)
    clear hb k0 k1 k2 k3
    obtain ⟨k0, k1, k2, k3⟩ := Cfg.cells_at HX1.out
    have hs1 := block_lt HX1.out
    obtain ⟨t0, ht0⟩ : ∃ t, t = dec c.cells.toNat := ⟨_, rfl⟩
    obtain ⟨t1, ht1⟩ : ∃ t, t = dec c.muts.toNat := ⟨_, rfl⟩
    obtain ⟨t2, ht2⟩ : ∃ t, t = dec c.regs.toNat := ⟨_, rfl⟩
    obtain ⟨t3, ht3⟩ : ∃ t, t = dec c.globs.toNat := ⟨_, rfl⟩
    rw [← ht0] at HD0 z0
    rw [← ht1] at HD1 z1
    rw [← ht2] at HD2 z2
    rw [← ht3] at HD3 z3
    have HT0 := Lib.hid ht0
    have HT1 := Lib.hid ht1
    have HT2 := Lib.hid ht2
    have HT3 := Lib.hid ht3
    clear ht0 ht1 ht2 ht3
    have HALL : Hid (∀ W, Below w1.heap.size w1 W → W.cell? ⟨w.heap.size, 0, none⟩ = some (.int .i64 c.cells) ∧ W.cell? ⟨w.heap.size, 1, none⟩ = some (.int .i64 c.muts) ∧ W.cell? ⟨w.heap.size, 2, none⟩ = some (.int .i64 c.regs) ∧ W.cell? ⟨w.heap.size, 3, none⟩ = some (.int .i64 c.globs) ∧ Below w1.heap.size w1 W) := fun W hB => by
      obtain ⟨f0, f1, f2, f3⟩ := Cfg.cells_at ((hB.block _ (block_lt HX1.out)).trans HX1.out)
      exact ⟨f0, f1, f2, f3, hB⟩
    have hz0 : ¬ 9223372036854775807 < 6 + t0.size := by omega
    have hz1 : ¬ 9223372036854775807 < 6 + t0.size + 6 := by omega
    have hz2 : ¬ 9223372036854775807 < 6 + t0.size + 6 + t1.size := by omega
    have hz3 : ¬ 9223372036854775807 < 6 + t0.size + 6 + t1.size + 6 := by omega
    have hz4 : ¬ 9223372036854775807 < 6 + t0.size + 6 + t1.size + 6 + t2.size := by omega
    have hz5 : ¬ 9223372036854775807 < 6 + t0.size + 6 + t1.size + 6 + t2.size + 7 := by omega
    have hz6 : ¬ 9223372036854775807 < 6 + t0.size + 6 + t1.size + 6 + t2.size + 7 + t3.size := by omega
    go_wp2_with fail
    go_region_held3 (fun W => W.cell? ⟨w.heap.size, 0, none⟩ = some (.int .i64 c.cells) ∧ W.cell? ⟨w.heap.size, 1, none⟩ = some (.int .i64 c.muts) ∧ W.cell? ⟨w.heap.size, 2, none⟩ = some (.int .i64 c.regs) ∧ W.cell? ⟨w.heap.size, 3, none⟩ = some (.int .i64 c.globs) ∧ Below w1.heap.size w1 W)
      (first | exact HALL.out _ (Below.refl _ _) | exact HALL.out _ (Below.refl _ _).drew | (go_split_ands; exact HALL.out _ (Below.trans (by assumption) (hb2.mono (Below.size (by assumption))))) | fail)
      (first | (go_at_call_of 79 (Value.int IntKind.i64 c.cells); refine (HD0.out _).mono ?_; rintro e wq ⟨rfl, hb2⟩) | (go_at_call_of 79 (Value.int IntKind.i64 c.muts); refine (HD1.out _).mono ?_; rintro e wq ⟨rfl, hb2⟩) | (go_at_call_of 79 (Value.int IntKind.i64 c.regs); refine (HD2.out _).mono ?_; rintro e wq ⟨rfl, hb2⟩) | (go_at_call_of 79 (Value.int IntKind.i64 c.globs); refine (HD3.out _).mono ?_; rintro e wq ⟨rfl, hb2⟩))
    all_goals
     go_wp2_with fail
     go_ret
     go_split_ands
     exact ⟨ret_str (bytes_ext (by rw [HT0.out, HT1.out, HT2.out, HT3.out]; simp [Cfg.text, HT.out, dec, ByteArray.data_append])), HB1.out.trans (Below.mono (by assumption) HB1.out.size)⟩
  · have HOK : Hid (c.ok = false) := by unfold Hid; simpa using ok
    have HT := Lib.hid (show c.text = ⟨#[]⟩ by unfold Cfg.text Cfg.tbytes; rw [if_neg ok])
    clear ok
    go_enter Tryd.func35, Tryd.ntmps35
    go_wp2_with fail
    refine (refright_any _ c).mono ?_
    rintro e w1 ⟨rfl, hb⟩
    rw [HOK.out]
    have HB1 : Hid (Below w.heap.size w w1) := HB0.out.trans (hb.mono HB0.out.size)
    clear hb k0 k1 k2 k3
    go_wp2_with fail
    go_ret
    exact ⟨by rw [HT.out]; rfl, HB1.out⟩
end Go.Proofs.YtcheafeaioflmaaDoor

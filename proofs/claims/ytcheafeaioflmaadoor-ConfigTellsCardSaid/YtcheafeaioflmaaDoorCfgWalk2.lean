/- config.Text at a whole configuration; the bounds of rounds. -/
import Derived.Test.YtcheafeaioflmaaDoorCfgWalk
import Derived.Test.YtcheafeaioflmaaDoorCfgPure
namespace Go.Proofs.YtcheafeaioflmaaDoor
open Go Go.RowKit
set_option linter.unusedSimpArgs false
set_option linter.unusedVariables false

theorem ctext_bytes (c : Cfg) (ok : c.ok = true) : (⟨(jbytes ⟨#[32]⟩ (ctexts [c.cells, c.muts, c.regs, c.globs] 4)).toArray⟩ : ByteArray) = c.text := by
  have ho := c.ok_iff.1 ok
  have hi : ∀ n : Int, 0 ≤ n → (otx n).data.toList = Lib.decDigits n.toNat := fun n hn => by
    show (Lib.itoa n).toArray.toList = _
    rw [List.toList_toArray]
    unfold Lib.itoa
    rw [if_neg (by omega)]
  unfold Cfg.text Cfg.tbytes
  rw [if_pos ok, jbytes_sp]
  congr 2
  have e : ctexts [c.cells, c.muts, c.regs, c.globs] 4 = [cword 0, otx c.cells, cword 1, otx c.muts, cword 2, otx c.regs, cword 3, otx c.globs] := rfl
  rw [e]
  simp only [List.map_cons, List.map_nil, hi c.cells (by omega), hi c.muts (by omega), hi c.regs (by omega), hi c.globs (by omega)]
  rfl
set_option maxHeartbeats 4000000 in
set_option maxRecDepth 100000 in
theorem cfgtext_any (w : World) (c : Cfg) (ht : Tens w) :
    Calls Tryd.prog 28 #[c.v] w fun e w' => e = .returned (.string c.text) ∧ Below w.heap.size w w' := by
  have HT := Lib.hid ht
  have HB0 : Hid (Below w.heap.size w (w.alloc c.obj)) := (Below.refl _ _).alloc (Nat.le_refl _) _
  have HX0 := Lib.hid (heap_alloc_new w c.obj)
  obtain ⟨k0, k1, k2, k3⟩ := Cfg.cells_at HX0.out
  have HCK := Lib.hid (check_any (w.alloc c.obj) c)
  clear ht
  by_cases ok : c.ok = true
  · have HE : Hid (c.err = 0) := by unfold Cfg.err Hid; rw [if_pos ok]
    have HTX := Lib.hid (ctext_bytes c ok)
    have HO := Lib.hid (c.ok_iff.1 ok)
    have HXS : Hid (∀ j : Nat, -9223372036854775808 ≤ wd [c.cells, c.muts, c.regs, c.globs] j ∧ wd [c.cells, c.muts, c.regs, c.globs] j ≤ 9223372036854775807) := by
      intro j
      have := HO.out
      match j with
      | 0 => show _ ≤ c.cells ∧ c.cells ≤ _; omega
      | 1 => show _ ≤ c.muts ∧ c.muts ≤ _; omega
      | 2 => show _ ≤ c.regs ∧ c.regs ≤ _; omega
      | 3 => show _ ≤ c.globs ∧ c.globs ≤ _; omega
      | n + 4 => show -9223372036854775808 ≤ (0 : Int) ∧ (0 : Int) ≤ 9223372036854775807; omega
    clear ok
    go_enter Tryd.func28, Tryd.ntmps28
    go_wp2_with fail
    refine HCK.out.mono ?_
    rintro e w1 ⟨rfl, hb⟩
    rw [HE.out]
    have HB1 : Hid (Below w.heap.size w w1) := HB0.out.trans (hb.mono HB0.out.size)
    have HX1 := Lib.hid ((hb.block w.heap.size (by simp)).trans HX0.out)
    clear hb k0 k1 k2 k3
    obtain ⟨k0, k1, k2, k3⟩ := Cfg.cells_at HX1.out
    go_wp2_with fail
    refine (ctext_any _ w1.heap.size [c.cells, c.muts, c.regs, c.globs] rfl (fun k hk => by
      have h := heap_alloc_new w1 (.cells #[.int .i64 c.cells, .int .i64 c.muts, .int .i64 c.regs, .int .i64 c.globs] 3)
      rw [cell_of_block h k]
      obtain rfl | rfl | rfl | rfl : k = 0 ∨ k = 1 ∨ k = 2 ∨ k = 3 := by omega
      all_goals rfl) (by simp) HXS.out (HT.out.below (Nat.le_refl _) (HB1.out.alloc HB1.out.size _))).mono ?_
    rintro e w2 ⟨rfl, hb⟩
    have HB2 : Hid (Below w.heap.size w w2) := (HB1.out.alloc HB1.out.size _).trans (hb.mono (by have := HB1.out.size; simp; omega))
    clear hb k0 k1 k2 k3
    rw [HTX.out]
    go_wp2_with fail
    go_ret
    exact ⟨rfl, HB2.out⟩
  · have HE : Hid (c.err = 2) := by unfold Cfg.err Hid; rw [if_neg ok]
    have HTX : Hid (c.text = ⟨#[]⟩) := by unfold Hid Cfg.text Cfg.tbytes; rw [if_neg ok]
    clear ok
    go_enter Tryd.func28, Tryd.ntmps28
    go_wp2_with fail
    refine HCK.out.mono ?_
    rintro e w1 ⟨rfl, hb⟩
    rw [HE.out]
    have HB1 : Hid (Below w.heap.size w w1) := HB0.out.trans (hb.mono HB0.out.size)
    clear hb k0 k1 k2 k3
    go_wp2_with fail
    go_ret
    exact ⟨by rw [HTX.out]; rfl, HB1.out⟩
set_option maxHeartbeats 2000000 in
theorem oprounds_any (w : World) (c : Cfg) :
    Calls Tryd.prog 33 #[c.v] w fun e w' => e = .returned (.int .i64 c.opr) ∧ Below w.heap.size w w' := by
  have HB0 : Hid (Below w.heap.size w (w.alloc c.obj)) := (Below.refl _ _).alloc (Nat.le_refl _) _
  have HX0 := Lib.hid (heap_alloc_new w c.obj)
  obtain ⟨k0, k1, k2, k3⟩ := Cfg.cells_at HX0.out
  have HCK := Lib.hid (check_any (w.alloc c.obj) c)
  by_cases ok : c.ok = true
  · have HE : Hid (c.err = 0) := by unfold Cfg.err Hid; rw [if_pos ok]
    have HR : Hid (c.opr = 128 * (c.muts + 1)) := by unfold Cfg.opr Hid; rw [if_pos ok]
    have ho := c.ok_iff.1 ok
    have s1 : IntKind.i64.wrap (c.muts + 1) = c.muts + 1 := IntWalk.i64_in _ (by omega)
    have s2 : IntKind.i64.wrap (128 * (c.muts + 1)) = 128 * (c.muts + 1) := IntWalk.i64_in _ (by omega)
    clear ok ho
    go_enter Tryd.func33, Tryd.ntmps33
    go_wp2_with fail
    refine HCK.out.mono ?_
    rintro e w1 ⟨rfl, hb⟩
    rw [HE.out]
    have HB1 : Hid (Below w.heap.size w w1) := HB0.out.trans (hb.mono HB0.out.size)
    have HX1 := Lib.hid ((hb.block w.heap.size (by simp)).trans HX0.out)
    clear hb k0 k1 k2 k3
    obtain ⟨k0, k1, k2, k3⟩ := Cfg.cells_at HX1.out
    go_wp2_with fail
    go_ret
    exact ⟨by rw [HR.out]; rfl, HB1.out⟩
  · have HE : Hid (c.err = 2) := by unfold Cfg.err Hid; rw [if_neg ok]
    have HR : Hid (c.opr = 0) := by unfold Cfg.opr Hid; rw [if_neg ok]
    clear ok
    go_enter Tryd.func33, Tryd.ntmps33
    go_wp2_with fail
    refine HCK.out.mono ?_
    rintro e w1 ⟨rfl, hb⟩
    rw [HE.out]
    have HB1 : Hid (Below w.heap.size w w1) := HB0.out.trans (hb.mono HB0.out.size)
    clear hb k0 k1 k2 k3
    go_wp2_with fail
    go_ret
    exact ⟨by rw [HR.out]; rfl, HB1.out⟩
end Go.Proofs.YtcheafeaioflmaaDoor

/- What the configuration's laws look at first. -/
import Derived.Test.YtcheafeaioflmaaDoorCfgParse
import Derived.Test.YtcheafeaioflmaaDoorCfgWalk3
namespace Go.Proofs.YtcheafeaioflmaaDoor
open Go Go.RowKit
set_option linter.unusedSimpArgs false
set_option linter.unusedVariables false

theorem cfg_at_one : cread ⟨#[99, 101, 108, 108, 115, 32, 52, 32, 109, 117, 116, 115, 32, 50, 32, 114, 101, 103, 115, 32, 49, 32, 103, 108, 111, 98, 115, 32, 48]⟩ = (⟨4, 2, 1, 0⟩, 0) := by
  refine cread_yes (by decide) ?_
  refine bytes_ext ?_
  have ok : (⟨4, 2, 1, 0⟩ : Cfg).ok = true := by decide
  simp only [Cfg.text, Cfg.tbytes, ok, if_true, Cfg.tparts]
  rw [show (4 : Int).toNat = 4 from rfl, show (2 : Int).toNat = 2 from rfl, show (1 : Int).toNat = 1 from rfl, show (0 : Int).toNat = 0 from rfl, dd_small (by decide : 4 < 10), dd_small (by decide : 2 < 10), dd_small (by decide : 1 < 10), dd_small (by decide : 0 < 10)]
  rfl
theorem cfg_eql (W : World) (c d : Cfg) : (binOp .eql 23 c.v d.v).run Tryd.prog W = .ok (.bool (decide (c = d))) W := by
  obtain ⟨a, b, e, f⟩ := c
  obtain ⟨a', b', e', f'⟩ := d
  simp [go_sem]
  repeat' split
  all_goals simp_all
set_option maxHeartbeats 4000000 in
set_option maxRecDepth 100000 in
theorem cfg_awake (w : World) (ht : Tens w) (he : Errs w) (hm : MaxL w) :
    Calls Tryd.prog 23 #[] w fun e w' => e = .returned (.bool true) ∧ Below w.heap.size w w' := by
  have HT := Lib.hid ht
  have HE := Lib.hid he
  have HM := Lib.hid hm
  clear ht he hm
  go_enter Tryd.func23, Tryd.ntmps23
  have HP : Hid (∀ W, Tens W → Errs W → MaxL W → Calls Tryd.prog 24 #[.string ⟨#[99, 101, 108, 108, 115, 32, 52, 32, 109, 117, 116, 115, 32, 50, 32, 114, 101, 103, 115, 32, 49, 32, 103, 108, 111, 98, 115, 32, 48]⟩] W fun e w' => e = .returned (.tuple #[.agg #[.int .i64 4, .int .i64 2, .int .i64 1, .int .i64 0], .int .i64 0]) ∧ Below W.heap.size W w') := fun W h1 h2 h3 => by
    have h := cfgparse_any W ⟨#[99, 101, 108, 108, 115, 32, 52, 32, 109, 117, 116, 115, 32, 50, 32, 114, 101, 103, 115, 32, 49, 32, 103, 108, 111, 98, 115, 32, 48]⟩ (by decide) h1 h2 h3
    rw [cfg_at_one] at h
    exact h
  go_wp2_with fail
  refine (HP.out _ HT.out HE.out HM.out).mono ?_
  rintro e w1 ⟨rfl, hb⟩
  have HB1 := Lib.hid hb
  clear hb
  have HX1 := Lib.hid (heap_alloc_new w1 (⟨4, 2, 1, 0⟩ : Cfg).obj)
  have HR : Hid (∀ W, Calls Tryd.prog 30 #[.agg #[.int .i64 4, .int .i64 2, .int .i64 1, .int .i64 0]] W fun e w' => e = .returned (.int .i64 3) ∧ Below W.heap.size W w') := fun W => roots_any W ⟨4, 2, 1, 0⟩
  have HWD : Hid (∀ W, Calls Tryd.prog 31 #[.agg #[.int .i64 4, .int .i64 2, .int .i64 1, .int .i64 0]] W fun e w' => e = .returned (.int .i64 21) ∧ Below W.heap.size W w') := fun W => words_any W ⟨4, 2, 1, 0⟩
  have HBA : Hid (Below w.heap.size w (w1.alloc (⟨4, 2, 1, 0⟩ : Cfg).obj)) := HB1.out.alloc HB1.out.size _
  go_wp2_with fail
  refine (HR.out _).mono ?_
  rintro e w2 ⟨rfl, hb⟩
  have HB2 : Hid (Below w.heap.size w w2) := HBA.out.trans (hb.mono HBA.out.size)
  have HX2 : Hid (w2.heap[w1.heap.size]? = some (⟨4, 2, 1, 0⟩ : Cfg).obj) := (hb.block _ (by simp)).trans HX1.out
  clear hb
  obtain ⟨k0, k1, k2, k3⟩ := Cfg.cells_at HX2.out
  have hs2 := block_lt HX2.out
  go_wp2_with fail
  refine (HWD.out _).mono ?_
  rintro e w3 ⟨rfl, hb⟩
  have HB3 : Hid (Below w.heap.size w w3) := HB2.out.trans (hb.mono HB2.out.size)
  clear hb
  go_wp2_with fail
  go_ret
  exact ⟨rfl, HB3.out⟩
end Go.Proofs.YtcheafeaioflmaaDoor

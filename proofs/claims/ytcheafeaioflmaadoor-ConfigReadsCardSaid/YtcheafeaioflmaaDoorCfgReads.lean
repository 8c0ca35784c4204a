/- The walk of the law ConfigReads. -/
import Derived.Test.YtcheafeaioflmaaDoorCfgAwake
import Derived.Test.YtcheafeaioflmaaDoorRef3Parse
namespace Go.Proofs.YtcheafeaioflmaaDoor
open Go Go.RowKit
set_option linter.unusedSimpArgs false
set_option linter.unusedVariables false

set_option maxHeartbeats 4000000 in
set_option maxRecDepth 100000 in
theorem creads_walk (w : World) (s : ByteArray) (ht : Tens w) (he : Errs w) (hm : MaxL w) :
    Calls Tryd.prog 6 #[.string s] w fun e w' => e = .returned (.bool true) ∧ Below w.heap.size w w' := by
  have HT := Lib.hid ht
  have HE := Lib.hid he
  have HM := Lib.hid hm
  clear ht he hm
  go_enter Tryd.func6, Tryd.ntmps6
  go_wp2_with fail
  refine (cfg_awake _ HT.out HE.out HM.out).mono ?_
  rintro e w1 ⟨rfl, hb⟩
  have HB1 := Lib.hid hb
  clear hb
  by_cases h1 : 100 < s.size
  · have d1 : decide ((100 : Int) < (s.size : Int)) = true := by simp; omega
    clear h1
    go_wp2_with fail
    go_ret
    exact ⟨rfl, HB1.out⟩
  have d1 : decide ((100 : Int) < (s.size : Int)) = false := by simp; omega
  have HP : Hid (∀ W, Tens W → Errs W → MaxL W → Calls Tryd.prog 24 #[.string s] W fun e w' => e = .returned (.tuple #[(cread s).1.v, .int .i64 (cread s).2]) ∧ Below W.heap.size W w') := fun W a b d => cfgparse_any W s (by omega) a b d
  have HQ : Hid (∀ W, Calls Tryd.prog 25 #[.string s] W fun e w' => e = .returned (.tuple #[(cread s).1.v, .int .i64 (cread s).2]) ∧ Below W.heap.size W w') := fun W => ref3parse_any W s (by omega)
  generalize cread s = r at HP HQ
  obtain ⟨c, n⟩ := r
  have heq : ∀ W : World, (binOp .eql 23 (.agg #[.int .i64 c.cells, .int .i64 c.muts, .int .i64 c.regs, .int .i64 c.globs]) (.agg #[.int .i64 c.cells, .int .i64 c.muts, .int .i64 c.regs, .int .i64 c.globs])).run Tryd.prog W = .ok (.bool true) W := fun W => by
    have h := cfg_eql W c c
    rw [decide_eq_true rfl] at h
    exact h
  clear h1
  go_wp2_with fail
  refine (HP.out _ (HT.out.below (Nat.le_refl _) HB1.out) (HE.out.below (Nat.le_refl _) HB1.out) (HM.out.below (Nat.le_refl _) HB1.out)).mono ?_
  rintro e w2 ⟨rfl, hb⟩
  have HB2 : Hid (Below w.heap.size w w2) := HB1.out.trans (hb.mono HB1.out.size)
  clear hb
  have HX2 := Lib.hid (heap_alloc_new w2 c.obj)
  have HBA : Hid (Below w.heap.size w (w2.alloc c.obj)) := HB2.out.alloc HB2.out.size _
  go_wp2_with fail
  refine (HQ.out _).mono ?_
  rintro e w3 ⟨rfl, hb⟩
  have HB3 : Hid (Below w.heap.size w w3) := HBA.out.trans (hb.mono HBA.out.size)
  have HX3 : Hid (w3.heap[w2.heap.size]? = some c.obj) := (hb.block _ (by simp)).trans HX2.out
  clear hb
  obtain ⟨k0, k1, k2, k3⟩ := Cfg.cells_at HX3.out
  have hs3 := block_lt HX3.out
  have dn : (n == n) = true := by simp
  go_wp2_with fail
  go_ret
  exact ⟨by simp, by first | exact HB3.out | exact HB3.out.alloc HB3.out.size _⟩
end Go.Proofs.YtcheafeaioflmaaDoor

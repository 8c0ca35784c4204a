/- The walk of the law PlaceNames. -/
import Derived.Test.YtdohmjdcgpkclaaDoorNamesAny
import Derived.Test.YtdohmjdcgpkclaaDoorFirstWalk
import Derived.Test.YtdohmjdcgpkclaaDoorRefFirst
import Derived.Test.YtdohmjdcgpkclaaDoorRefSame
namespace Go.Proofs.YtdohmjdcgpkclaaDoor
open Go Go.RowKit
set_option linter.unusedSimpArgs false
set_option linter.unusedVariables false

theorem same_words (w : World) (g1 g2 T : Nat) (xs : List Int) (hl : xs.length = T) (hT : T ≤ 1000000) (h1 : w.heap[g1]? = some (wordsObj xs)) (h2 : w.heap[g2]? = some (wordsObj xs)) :
    Calls Tryd.prog 30 #[.slice (some ⟨g1, 0, none⟩) T T, .slice (some ⟨g2, 0, none⟩) T T] w fun e w' => e = .returned (.bool true) ∧ Below w.heap.size w w' := by
  subst hl
  have hm : xs.length ≤ maxLen := by unfold maxLen; omega
  refine (refsame_any w _ _ xs.length xs.length xs xs (Ints.of_block h1 rfl hm) (Ints.of_block h2 rfl hm)).mono ?_
  rintro e w' ⟨rfl, hk⟩
  exact ⟨by unfold sameB; simp, hk.below (Nat.le_refl _) (fun k h => h.elim)⟩
theorem same_none (w : World) (A : Option Addr) :
    Calls Tryd.prog 30 #[.slice none 0 0, .slice A 0 0] w fun e w' => e = .returned (.bool true) ∧ Below w.heap.size w w' := by
  refine (refsame_any w none A 0 0 [] [] Ints.nil Ints.nil).mono ?_
  rintro e w' ⟨rfl, hk⟩
  exact ⟨by unfold sameB; simp, hk.below (Nat.le_refl _) (fun k h => h.elim)⟩
set_option maxHeartbeats 8000000 in
set_option maxRecDepth 100000 in
theorem pnames_walk (w : World) (c : Cfg) (k : Int) (ht : Tens w) :
    Calls Tryd.prog 7 #[c.v, .int .i64 k] w fun e w' => e = .returned (.bool true) ∧ Below w.heap.size w w' := by
  have HT : Hid (Tens w) := ht
  have HB0 : Hid (Below w.heap.size w (w.alloc c.obj)) := (Below.refl _ _).alloc (Nat.le_refl _) _
  have HX0 : Hid ((w.alloc c.obj).heap[w.heap.size]? = some c.obj) := heap_alloc_new w c.obj
  clear ht
  by_cases h30 : 30 < c.cells
  · have d30 : decide (30 < c.cells) = true := by simpa using h30
    clear h30
    go_enter Tryd.func7, Tryd.ntmps7
    go_wp2_with fail
    refine (place_awake _).mono ?_
    rintro e w1 ⟨rfl, hb⟩
    have HB1 : Hid (Below w.heap.size w w1) := HB0.out.trans (hb.mono HB0.out.size)
    have HX1 : Hid (w1.heap[w.heap.size]? = some c.obj) := (hb.block _ (by simp)).trans HX0.out
    clear hb
    obtain ⟨k0, k1, k2, k3⟩ := Cfg.cells_at HX1.out
    go_wp2_with fail
    go_ret
    exact ⟨rfl, HB1.out⟩
  have d30 : decide (30 < c.cells) = false := by simpa using h30
  clear h30
  have nes : ∀ s : ByteArray, (s.toList == s.toList) = true := fun s => by simp
  by_cases ok : c.ok = true
  · obtain ⟨n, m, r, g, T, hn, hm, hr, hg, hT, hw⟩ := c.nats ok
    have HTB : Hid (T ≤ 1000000) := by
      have h1 := c.bounds ok
      have h2 := c.words_b3 ok
      have ho := c.ok_iff.1 ok
      unfold Hid
      omega
    have HPF := Lib.hid (fun W => pfirst_ok W c n m r g T hn hm hr hg ok hT)
    have HRF := Lib.hid (fun W => rfirst_ok W c n m r g T hn hm hr hg ok hT)
    clear hn hm hr hg hT hw ok
    go_enter Tryd.func7, Tryd.ntmps7
    go_wp2_with fail
    refine (place_awake _).mono ?_
    rintro e w1 ⟨rfl, hb⟩
    have HB1 : Hid (Below w.heap.size w w1) := HB0.out.trans (hb.mono HB0.out.size)
    have HX1 : Hid (w1.heap[w.heap.size]? = some c.obj) := (hb.block _ (by simp)).trans HX0.out
    clear hb
    obtain ⟨k0, k1, k2, k3⟩ := Cfg.cells_at HX1.out
    have hz := block_lt HX1.out
    go_wp2_with fail
    go_region_held3 (fun w' => w'.cell? ⟨w.heap.size, 0, none⟩ = some (.int .i64 c.cells) ∧ w'.cell? ⟨w.heap.size, 1, none⟩ = some (.int .i64 c.muts) ∧ w'.cell? ⟨w.heap.size, 2, none⟩ = some (.int .i64 c.regs) ∧ w'.cell? ⟨w.heap.size, 3, none⟩ = some (.int .i64 c.globs) ∧ w.heap.size < w'.heap.size ∧ Below w.heap.size w w')
      (first
        | exact ⟨k0, k1, k2, k3, hz, HB1.out⟩
        | exact ⟨k0, k1, k2, k3, hz, HB1.out.drew⟩
        | (go_split_ands; refine ⟨?_, ?_, ?_, ?_, ?_, ?_⟩ <;> first | assumption | exact (hb2.cell (by assumption)).trans (by assumption) | exact Below.trans (by assumption) (hb2.mono (Nat.le_of_lt (by assumption))) | exact Nat.lt_of_lt_of_le (by assumption) hb2.size)
        | fail)
      (first
        | (go_at_call 28; refine (pname_any _ c k (HT.out.below (Nat.le_refl _) (by go_split_ands; assumption))).mono ?_; rintro e wq ⟨rfl, hb2⟩)
        | (go_at_call 29; refine (rname_any _ c k).mono ?_; rintro e wq ⟨rfl, hb2⟩)
        | (go_at_call 31; refine (HPF.out _).mono ?_; rintro e wq ⟨gb1, rfl, hF1, hge1, hb2⟩; have HF1 := Lib.hid hF1; clear hF1)
        | (go_at_call 32; refine (HRF.out _).mono ?_; rintro e wq ⟨gb2, rfl, hF2, hge2, hb2⟩; have HF3 := Lib.hid ((hb2.block _ (block_lt HF1.out)).trans HF1.out); have HF2 := Lib.hid hF2; clear hF2)
        | (go_at_call 30; refine (same_words _ _ _ T _ (by rw [Cfg.fl_len]) HTB.out HF3.out HF2.out).mono ?_; rintro e wq ⟨rfl, hb2⟩))
    all_goals
      go_split_ands
      go_wp2_with fail
      go_ret
      exact ⟨rfl, by assumption⟩
  · have HPF := Lib.hid (fun W => pfirst_no W c (by simpa using ok))
    have HRF := Lib.hid (fun W => rfirst_no W c (by simpa using ok))
    clear ok
    go_enter Tryd.func7, Tryd.ntmps7
    go_wp2_with fail
    refine (place_awake _).mono ?_
    rintro e w1 ⟨rfl, hb⟩
    have HB1 : Hid (Below w.heap.size w w1) := HB0.out.trans (hb.mono HB0.out.size)
    have HX1 : Hid (w1.heap[w.heap.size]? = some c.obj) := (hb.block _ (by simp)).trans HX0.out
    clear hb
    obtain ⟨k0, k1, k2, k3⟩ := Cfg.cells_at HX1.out
    have hz := block_lt HX1.out
    go_wp2_with fail
    go_region_held3 (fun w' => w'.cell? ⟨w.heap.size, 0, none⟩ = some (.int .i64 c.cells) ∧ w'.cell? ⟨w.heap.size, 1, none⟩ = some (.int .i64 c.muts) ∧ w'.cell? ⟨w.heap.size, 2, none⟩ = some (.int .i64 c.regs) ∧ w'.cell? ⟨w.heap.size, 3, none⟩ = some (.int .i64 c.globs) ∧ w.heap.size < w'.heap.size ∧ Below w.heap.size w w')
      (first
        | exact ⟨k0, k1, k2, k3, hz, HB1.out⟩
        | exact ⟨k0, k1, k2, k3, hz, HB1.out.drew⟩
        | (go_split_ands; refine ⟨?_, ?_, ?_, ?_, ?_, ?_⟩ <;> first | assumption | exact (hb2.cell (by assumption)).trans (by assumption) | exact Below.trans (by assumption) (hb2.mono (Nat.le_of_lt (by assumption))) | exact Nat.lt_of_lt_of_le (by assumption) hb2.size)
        | fail)
      (first
        | (go_at_call 28; refine (pname_any _ c k (HT.out.below (Nat.le_refl _) (by go_split_ands; assumption))).mono ?_; rintro e wq ⟨rfl, hb2⟩)
        | (go_at_call 29; refine (rname_any _ c k).mono ?_; rintro e wq ⟨rfl, hb2⟩)
        | (go_at_call 31; refine (HPF.out _).mono ?_; rintro e wq ⟨rfl, hb2⟩)
        | (go_at_call 32; refine (HRF.out _).mono ?_; rintro e wq ⟨A, rfl, hb2⟩)
        | (go_at_call 30; refine (same_none _ _).mono ?_; rintro e wq ⟨rfl, hb2⟩))
    all_goals
      go_split_ands
      go_wp2_with fail
      go_ret
      exact ⟨rfl, by assumption⟩
end Go.Proofs.YtdohmjdcgpkclaaDoor

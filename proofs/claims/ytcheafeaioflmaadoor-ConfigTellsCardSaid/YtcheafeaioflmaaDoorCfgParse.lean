/- config.Parse at any text. -/
import Derived.Test.YtcheafeaioflmaaDoorCfgRead
import Derived.Test.YtcheafeaioflmaaDoorSplitAny
import Derived.Test.YtcheafeaioflmaaDoorCfgWalk2
import Derived.Test.YtcheafeaioflmaaDoorStrEq
namespace Go.Proofs.YtcheafeaioflmaaDoor
open Go Go.RowKit
set_option linter.unusedSimpArgs false
set_option linter.unusedVariables false

/-- the numbers in an array -/
def IntArr (T : TypeId) (w : World) (b : Nat) (v : List Int) : Prop := w.heap[b]? = some (.cells (v.map (Value.int .i64)).toArray T)
theorem IntArr.cell {T : TypeId} {w : World} {b : Nat} {v : List Int} (h : IntArr T w b v) {k : Nat} (hk : k < v.length) : w.cell? ⟨b, k, none⟩ = some (.int .i64 (v.getD k 0)) := by
  rw [cell_of_block h k]
  simp [hk]
theorem IntArr.put {T : TypeId} {w : World} {b : Nat} {v : List Int} (h : IntArr T w b v) (k : Nat) (x : Int) : IntArr T (w.setCell ⟨b, k, none⟩ (.int .i64 x)) b (v.set k x) := by
  unfold IntArr at h ⊢
  rw [block_setCell h k _]
  simp
theorem IntArr.lt {T : TypeId} {w : World} {b : Nat} {v : List Int} (h : IntArr T w b v) : b < w.heap.size := block_lt h
theorem IntArr.below {T : TypeId} {w w' : World} {b B : Nat} {v : List Int} (h : IntArr T w b v) (hB : b < B) (hb : Below B w w') : IntArr T w' b v := (hb.block b hB).trans h
theorem IntArr.drew {T : TypeId} {w : World} {b : Nat} {v : List Int} (h : IntArr T w b v) : IntArr T w.drew b v := h
/-- the numbers behind k rounds -/
def NumsTo (s : ByteArray) (v : List Int) (k : Nat) : Prop := v.length = 4 ∧ ∀ i, i < k → ∀ t, (pieces s)[2 * i + 1]? = some t → AtoiIs t (v.getD i 0)
theorem NumsTo.put {s : ByteArray} {v : List Int} {k : Nat} (h : NumsTo s v k) (hk : k < 4) {t : ByteArray} {x : Int} (ht : (pieces s)[2 * k + 1]? = some t) (hx : AtoiIs t x) : NumsTo s (v.set k x) (k + 1) := by
  refine ⟨by simpa using h.1, fun i hi u hu => ?_⟩
  by_cases e : i = k
  · subst e
    rw [ht] at hu
    injection hu with hu
    subst hu
    simp [h.1, hk, hx]
  · have := h.2 i (by omega) u hu
    simpa [List.getD, List.getElem?_set, Ne.symm e] using this

set_option maxHeartbeats 8000000 in
set_option maxRecDepth 100000 in
theorem cfgparse_any (w : World) (s : ByteArray) (hs : s.size ≤ 1000) (ht : Tens w) (he : Errs w) (hm : MaxL w) :
    Calls Tryd.prog 24 #[.string s] w fun e w' => e = .returned (.tuple #[(cread s).1.v, .int .i64 (cread s).2]) ∧ Below w.heap.size w w' := by
  have HT := Lib.hid ht
  have HE := Lib.hid he
  have HM := Lib.hid hm
  have HP := Lib.hid (pieces_many s)
  have HZ := Lib.hid (pieces_size s)
  have HB0 : Hid (Below w.heap.size w (w.alloc (⟨0, 0, 0, 0⟩ : Cfg).obj)) := (Below.refl _ _).alloc (Nat.le_refl _) _
  have HC0 := Lib.hid (heap_alloc_new w (⟨0, 0, 0, 0⟩ : Cfg).obj)
  clear ht he hm
  go_enter Tryd.func24, Tryd.ntmps24
  go_wp2_with fail
  refine (split_any _ s (by omega) (HM.out.below (Nat.le_refl _) HB0.out)).mono ?_
  rintro e w1 ⟨n, rfl, hn, hcs, hsz, hb⟩
  have HB1 : Hid (Below w.heap.size w w1) := HB0.out.trans (hb.mono HB0.out.size)
  have HC1 := Lib.hid ((hb.block w.heap.size (by simp)).trans HC0.out)
  have HCS := Lib.hid hcs
  clear hcs hb
  by_cases h8 : n = 8
  · have HN8 : Hid ((pieces s).length = 8) := by rw [← hn]; exact h8
    have HS8 := Lib.hid hsz
    subst h8
    clear hn hsz
    go_wp2_with fail
    have HW : Hid (w.heap.size + 1 < w1.heap.size) := by unfold Hid; have := HS8.out; simpa using this
    have HA0 : Hid (IntArr 113 (w1.alloc (.cells #[.int .i64 0, .int .i64 0, .int .i64 0, .int .i64 0] 113)) w1.heap.size [0, 0, 0, 0]) := heap_alloc_new w1 _
    clear HS8
    go_loopw [6, 14] (fun _ i wr => ∃ (k : Nat) (v : List Int), k ≤ 4 ∧ i = .int .i64 k ∧ Hid (IntArr 113 wr w1.heap.size v) ∧ Hid (NumsTo s v k) ∧ Hid (Below w1.heap.size w1 wr)) (fun _ i _ => 4 - (intOf i).toNat)
    case atStart => exact ⟨0, [0, 0, 0, 0], by omega, rfl, HA0.out, ⟨rfl, fun i hi => absurd hi (Nat.not_lt_zero _)⟩, (Below.refl _ _).alloc (Nat.le_refl _) _⟩
    case round =>
      obtain ⟨k, v, hk, rfl, HA, HN, HB⟩ := hrel
      by_cases hlt : k < 4
      · have i1 : ((k : Nat) : Int) < 4 := by omega
        have s1 : IntKind.i64.wrap (2 * (k : Int)) = 2 * (k : Int) := IntWalk.i64_in _ (by omega)
        have s2 : IntKind.i64.wrap (2 * (k : Int) + 1) = ((2 * k + 1 : Nat) : Int) := by rw [IntWalk.i64_in _ (by omega)]; omega
        obtain ⟨t, ht⟩ : ∃ t, (pieces s)[2 * k + 1]? = some t := ⟨(pieces s)[2 * k + 1]'(by have := HN8.out; omega), List.getElem?_eq_getElem _⟩
        have c1 : wr.cell? ⟨w.heap.size + 1, 2 * k + 1, none⟩ = some (.string t) := (HB.out.cell (show w.heap.size + 1 < _ from HW.out)).trans (by have := HCS.out _ _ ht; simpa using this)
        have HT1 := Lib.hid ht
        have HTZ : Hid (t.size ≤ 1000000) := by have := HZ.out t (List.mem_of_getElem? ht); unfold Hid; omega
        clear ht
        go_wp2_with fail
        refine (atoi_any t HTZ.out _ (HE.out.below (Nat.le_refl _) (HB1.out.trans (HB.out.mono HB1.out.size)))).mono ?_
        rintro e w3 ⟨x, ev, rfl, hx, -, hb⟩
        have HA3 : Hid (IntArr 113 w3 w1.heap.size v) := HA.out.below HA.out.lt hb
        have HB3 : Hid (Below w1.heap.size w1 w3) := HB.out.trans (hb.mono HB.out.size)
        have HXI := Lib.hid (HN.out.put hlt HT1.out hx)
        have a0 : w3.cell? ⟨w1.heap.size, k, none⟩ = some (.int .i64 (v.getD k 0)) := HA3.out.cell (by rw [HN.out.1]; exact hlt)
        clear hb hx c1
        have f0 : w3.frozen? ⟨w1.heap.size, k, none⟩ = false := frozen_of_block HA3.out k
        generalize v.getD k 0 = old at a0
        go_wp2_with fail
        go_roundw
        case rel => exact ⟨k + 1, v.set k x, by omega, by go_num, HA3.out.put k x, HXI.out, HB3.out.setCell (Nat.le_refl _) _⟩
        case measure => simp [intOf]; omega
      · obtain rfl : k = 4 := by omega
        obtain ⟨c, rfl⟩ : ∃ c : Cfg, v = [c.cells, c.muts, c.regs, c.globs] := by
          have h4 := HN.out.1
          match v, h4 with
          | [a, b, e, f], _ => exact ⟨⟨a, b, e, f⟩, rfl⟩
        have HNC : Hid (∀ d : Cfg, d.ok = true → d.text = s → c = d) := nums_cfg HN.out
        have a0 : wr.cell? ⟨w1.heap.size, 0, none⟩ = some (.int .i64 c.cells) := HA.out.cell (k := 0) (by simp)
        have a1 : wr.cell? ⟨w1.heap.size, 1, none⟩ = some (.int .i64 c.muts) := HA.out.cell (k := 1) (by simp)
        have a2 : wr.cell? ⟨w1.heap.size, 2, none⟩ = some (.int .i64 c.regs) := HA.out.cell (k := 2) (by simp)
        have a3 : wr.cell? ⟨w1.heap.size, 3, none⟩ = some (.int .i64 c.globs) := HA.out.cell (k := 3) (by simp)
        clear hlt hk
        have hs1 := HA.out.lt
        have HBR : Hid (Below w.heap.size w (wr.alloc c.obj)) := (HB1.out.trans (HB.out.mono HB1.out.size)).alloc (by have := HB1.out.size; omega) _
        have HCR : Hid ((wr.alloc c.obj).heap[w.heap.size]? = some (⟨0, 0, 0, 0⟩ : Cfg).obj) := (Below.heap_alloc _ _ _ (by have := HB1.out.size; have := block_lt HC1.out; omega)).trans ((HB.out.block w.heap.size (block_lt HC1.out)).trans HC1.out)
        have HXR : Hid ((wr.alloc c.obj).heap[wr.heap.size]? = some c.obj) := heap_alloc_new wr _
        go_wp2_with fail
        refine (check_any _ c).mono ?_
        rintro e w4 ⟨rfl, hb⟩
        have HB4 : Hid (Below w.heap.size w w4) := HBR.out.trans (hb.mono HBR.out.size)
        have HC4 : Hid (w4.heap[w.heap.size]? = some (⟨0, 0, 0, 0⟩ : Cfg).obj) := (hb.block _ (block_lt HCR.out)).trans HCR.out
        have HX4 : Hid (w4.heap[wr.heap.size]? = some c.obj) := (hb.block _ (block_lt HXR.out)).trans HXR.out
        clear hb a0 a1 a2 a3
        obtain ⟨a0, a1, a2, a3⟩ := Cfg.cells_at HX4.out
        have hs4 := block_lt HX4.out
        by_cases ok : c.ok = true
        · have HER : Hid (c.err = 0) := by unfold Cfg.err Hid; rw [if_pos ok]
          rw [HER.out]
          go_wp2_with fail
          refine (cfgtext_any _ c (HT.out.below (Nat.le_refl _) HB4.out)).mono ?_
          rintro e w5 ⟨rfl, hb⟩
          have HB5 : Hid (Below w.heap.size w w5) := HB4.out.trans (hb.mono HB4.out.size)
          have HC5 : Hid (w5.heap[w.heap.size]? = some (⟨0, 0, 0, 0⟩ : Cfg).obj) := (hb.block _ (block_lt HC4.out)).trans HC4.out
          have HX5 : Hid (w5.heap[wr.heap.size]? = some c.obj) := (hb.block _ (block_lt HX4.out)).trans HX4.out
          clear hb a0 a1 a2 a3
          obtain ⟨a0, a1, a2, a3⟩ := Cfg.cells_at HX5.out
          have hs5 := block_lt HX5.out
          by_cases hts : c.text = s
          · have HNY : Hid (cread s = (c, 0)) := cread_yes ok hts
            have q1 := strT hts
            clear ok hts
            generalize c.text = tx at q1
            obtain ⟨z0, z1, z2, z3⟩ := Cfg.cells_at HC5.out
            have f0 := frozen_of_block HC5.out 0
            have f1 := frozen_of_block HC5.out 1
            have f2 := frozen_of_block HC5.out 2
            have f3 := frozen_of_block HC5.out 3
            have hsz0 := block_lt HC5.out
            go_wp2_with fail
            exact bodyPost_ret (v := .tuple #[.agg #[.int .i64 c.cells, .int .i64 c.muts, .int .i64 c.regs, .int .i64 c.globs], .int .i64 0]) (by simp [results, Tryd.results24, go_sem, z0, z1, z2, z3]) rfl
              ⟨by rw [HNY.out], by repeat (first | exact HB5.out | refine Below.setCell ?_ (by simp) _)⟩
          · have HNY : Hid (cread s = (⟨0, 0, 0, 0⟩, 3)) := cread_off HNC.out (fun h => hts h.2)
            have q1 := strF hts
            clear ok hts
            generalize c.text = tx at q1
            obtain ⟨z0, z1, z2, z3⟩ := Cfg.cells_at HC5.out
            have f0 := frozen_of_block HC5.out 0
            have f1 := frozen_of_block HC5.out 1
            have f2 := frozen_of_block HC5.out 2
            have f3 := frozen_of_block HC5.out 3
            have hsz0 := block_lt HC5.out
            go_wp2_with fail
            exact bodyPost_ret (v := .tuple #[.agg #[.int .i64 0, .int .i64 0, .int .i64 0, .int .i64 0], .int .i64 3]) (by simp [results, Tryd.results24, go_sem, z0, z1, z2, z3]) rfl
              ⟨by rw [HNY.out], by repeat (first | exact HB5.out | refine Below.setCell ?_ (by simp) _)⟩
        · have HER : Hid (c.err = 2) := by unfold Cfg.err Hid; rw [if_neg ok]
          rw [HER.out]
          have HNY : Hid (cread s = (⟨0, 0, 0, 0⟩, 3)) := cread_off HNC.out (fun h => ok h.1)
          clear ok
          obtain ⟨z0, z1, z2, z3⟩ := Cfg.cells_at HC4.out
          have f0 := frozen_of_block HC4.out 0
          have f1 := frozen_of_block HC4.out 1
          have f2 := frozen_of_block HC4.out 2
          have f3 := frozen_of_block HC4.out 3
          have hsz0 := block_lt HC4.out
          go_wp2_with fail
          exact bodyPost_ret (v := .tuple #[.agg #[.int .i64 0, .int .i64 0, .int .i64 0, .int .i64 0], .int .i64 3]) (by simp [results, Tryd.results24, go_sem, z0, z1, z2, z3]) rfl
            ⟨by rw [HNY.out], by repeat (first | exact HB4.out | refine Below.setCell ?_ (by simp) _)⟩
  · have HNO : Hid (cread s = (⟨0, 0, 0, 0⟩, 3)) := cread_no fun d ok hd => h8 (by rw [hn, ← hd]; exact cfg_pieces_len ok)
    have h8' : ((n : Int) != 8) = true := by rw [bne_iff_ne]; omega
    clear h8 hn
    obtain ⟨z0, z1, z2, z3⟩ := Cfg.cells_at HC1.out
    have f0 := frozen_of_block HC1.out 0
    have f1 := frozen_of_block HC1.out 1
    have f2 := frozen_of_block HC1.out 2
    have f3 := frozen_of_block HC1.out 3
    have hsz0 := block_lt HC1.out
    go_wp2_with fail
    exact bodyPost_ret (v := .tuple #[.agg #[.int .i64 0, .int .i64 0, .int .i64 0, .int .i64 0], .int .i64 3]) (by simp [results, Tryd.results24, go_sem, z0, z1, z2, z3]) rfl
      ⟨by rw [HNO.out], by repeat (first | exact HB1.out | refine Below.setCell ?_ (by simp) _)⟩
end Go.Proofs.YtcheafeaioflmaaDoor

/- The contract of op.Check. -/
import Derived.Test.YtipoklnoknkfhaaDoorOp
namespace Go.Proofs.YtipoklnoknkfhaaDoor
open Go Go.RowKit
set_option linter.unusedSimpArgs false
set_option linter.unusedVariables false

theorem badFrom_drop (c : Cfg) (x : Opr) (l : List UInt8) (k : Nat) (h : k < l.length) : badFrom c x (l.drop k) k = (pbad c l[k] (x.num k) || badFrom c x (l.drop (k + 1)) (k + 1)) := by
  rw [List.drop_eq_getElem_cons h, badFrom]
theorem badFrom_end (c : Cfg) (x : Opr) (l : List UInt8) (k : Nat) (h : ¬ k < l.length) : badFrom c x (l.drop k) k = false := by
  rw [List.drop_eq_nil_of_le (by omega), badFrom]

set_option maxHeartbeats 4000000 in
set_option maxRecDepth 100000 in
theorem ocheck_any (w : World) (c : Cfg) (x : Opr) :
    Calls Tryd.prog 50 #[c.v, x.v] w fun e w' => e = .returned (.int .i64 (x.err c)) ∧ Below w.heap.size w w' := by
  have HB0 : Hid (Below w.heap.size w ((w.alloc c.obj).alloc x.obj)) := ((Below.refl _ _).alloc (Nat.le_refl _) _).alloc (by simp) _
  obtain ⟨k0, k1, k2, k3⟩ := Cfg.cells_at (heap_new1 w c.obj x.obj)
  have HC0 := Lib.hid (heap_new1 w c.obj x.obj)
  have HX0 := Lib.hid (heap_new2 w c.obj x.obj)
  by_cases ok : c.ok = true
  · have HE : Hid (c.err = 0) := by unfold Hid Cfg.err; rw [if_pos ok]
    have HZ : Hid (x.err c = if 1 ≤ x.kind ∧ x.kind ≤ 11 then (if badFrom c x (fparts.getD x.kind.toNat []) 0 = true then 2 else 0) else 4) := by unfold Hid Opr.err; rw [if_pos ok]
    clear ok
    go_enter Tryd.func50, Tryd.ntmps50
    go_wp2_with fail
    refine (check_any _ c).mono ?_
    rintro e w1 ⟨rfl, hb⟩
    rw [HE.out]
    have HB1 : Hid (Below w.heap.size w w1) := HB0.out.trans (hb.mono (by simp; omega))
    have HC1 : Hid (w1.heap[w.heap.size]? = some c.obj) := (hb.block _ (by simp; omega)).trans HC0.out
    have HX1 : Hid (w1.heap[w.heap.size + 1]? = some x.obj) := (hb.block _ (by simp)).trans HX0.out
    clear k0 k1 k2 k3 hb
    obtain ⟨x0, x1, x2, x3⟩ := opr_cells HX1.out
    go_wp2_with fail
    by_cases hk : 1 ≤ x.kind ∧ x.kind ≤ 11
    · rw [if_pos hk] at HZ
      refine (of_any w1 x.kind hk.1 hk.2).mono ?_
      rintro e w2 ⟨rfl, hb⟩
      have HP : Hid (∀ (i : Nat) (h : i < (fpart x.kind).size), (fpart x.kind)[i]'h = 114 ∨ (fpart x.kind)[i]'h = 103 ∨ (fpart x.kind)[i]'h = 107) := fun i h => part_bytes x.kind _ (by simp [fpart, ByteArray.getElem_eq_getElem_data])
      have HL : Hid ((fpart x.kind).data.toList = fparts.getD x.kind.toNat []) := rfl
      have hl3 : (fpart x.kind).size ≤ 3 := part_len x.kind
      clear hk
      generalize fpart x.kind = ps at *
      generalize fname x.kind = nm at *
      rw [← HL.out] at HZ
      clear HL
      have HB2 : Hid (Below w.heap.size w w2) := HB1.out.trans (hb.mono HB1.out.size)
      have hs0 : w.heap.size + 2 ≤ w1.heap.size := by
        have := block_lt HX1.out; omega
      have HC2 : Hid (w2.heap[w.heap.size]? = some c.obj) := (hb.block _ (by omega)).trans HC1.out
      have HX2 : Hid (w2.heap[w.heap.size + 1]? = some x.obj) := (hb.block _ (by omega)).trans HX1.out
      have hs2 : w.heap.size + 2 ≤ w2.heap.size := Nat.le_trans hs0 hb.size
      clear x0 x1 x2 x3 hb hs0
      go_wp2_with fail
      go_loopw [] (fun wr => ∃ pos : Nat, pos ≤ ps.size ∧ wr.heap[w2.heap.size + 1]? = some (.stringIter ps pos) ∧ Below w.heap.size w wr ∧ wr.heap[w.heap.size]? = some c.obj ∧ wr.heap[w.heap.size + 1]? = some x.obj ∧ Hid (badFrom c x (ps.data.toList.drop pos) pos = badFrom c x ps.data.toList 0)) (fun wr => ps.size - wr.iterPos (w2.heap.size + 1))
      case atStart =>
        refine ⟨0, Nat.zero_le _, ?_, ?_, ?_, ?_, rfl⟩
        · have := World.iter_heap (w2.alloc (.cells #[.string nm, .string ps] 169)) ps 0
          simpa using this
        · exact (HB2.out.alloc HB2.out.size _).alloc (by simp; have := HB2.out.size; omega) _
        · exact (Below.heap_alloc _ _ _ (by simp; omega)).trans ((Below.heap_alloc _ _ _ (by omega)).trans HC2.out)
        · exact (Below.heap_alloc _ _ _ (by simp; omega)).trans ((Below.heap_alloc _ _ _ (by omega)).trans HX2.out)
      case round =>
        obtain ⟨pos, hpos, hit, hB, hC, hX, HR⟩ := hrel
        have hsz : w2.heap.size + 1 < wr.heap.size := block_lt hit
        by_cases hp : pos < ps.size
        · have HIT := Lib.hid hit
          have HIT2 := Lib.hid (Lib.iterAt_heap wr (w2.heap.size + 1) ps pos (pos + 1) hit)
          have HBr := Lib.hid (Lib.below_iterAt hB (k := w2.heap.size + 1) (by omega) ps (pos + 1))
          have HCr := Lib.hid ((Lib.iterAt_other wr (w2.heap.size + 1) w.heap.size ps (pos + 1) (by omega)).trans hC)
          have HXr := Lib.hid ((Lib.iterAt_other wr (w2.heap.size + 1) (w.heap.size + 1) ps (pos + 1) (by omega)).trans hX)
          have hszr := Lib.iterAt_size wr (w2.heap.size + 1) ps (pos + 1)
          obtain ⟨x0, x1, x2, x3⟩ := opr_cells HXr.out
          have hd := badFrom_drop c x ps.data.toList pos hp
          rw [HR.out] at hd
          have hl3' : pos < 3 := by omega
          obtain ⟨n, hn⟩ : ∃ n, n = x.num pos := ⟨_, rfl⟩
          have HN := Lib.hid hn
          rw [← hn] at hd
          have hdec : ∀ (q : Nat), (ps[pos]'hp).toNat = q → q < 128 → ∀ ty, (Instr.next (.pointer (some ⟨w2.heap.size + 1, 0, none⟩)) true ty).run Tryd.prog wr = .ok (.tuple #[.bool true, .int .i64 pos, .int .i32 q]) (wr.iterAt (w2.heap.size + 1) ps (pos + 1)) := fun q hq hlt ty => by
            rw [Lib.run_next_ascii_at wr (w2.heap.size + 1) ps pos ty hit hp (by omega), hq]
          have HNX := Lib.hid hdec
          have hlet := HP.out pos hp
          have HD : Hid (badFrom c x ps.data.toList 0 = (pbad c (ps[pos]'hp) n || badFrom c x (ps.data.toList.drop (pos + 1)) (pos + 1))) := hd
          clear hn hdec hd hit hB hC hX
          obtain ⟨q, hq⟩ : ∃ q, q = ps[pos]'hp := ⟨_, rfl⟩
          rw [← hq] at HD hlet HNX
          clear hq
          rcases hlet with rfl | rfl | rfl
          · have hnx := HNX.out 114 rfl (by omega)
            clear HNX
            by_cases hneg : n < 0
            · have d0 : decide (n < 0) = true := by simpa using hneg
              have HPB : Hid (pbad c 114 n = true) := by unfold Hid pbad; rw [d0]; rfl
              clear hneg
              go_wp2_with fail
              refine (number_any _ x pos hl3').mono ?_
              rintro e w3 ⟨rfl, hb⟩
              rw [← HN.out]
              have HB3 : Hid (Below w.heap.size w w3) := HBr.out.trans (hb.mono (by omega))
              have HC3 : Hid (w3.heap[w.heap.size]? = some c.obj) := (hb.block _ (by omega)).trans HCr.out
              have HX3 : Hid (w3.heap[w.heap.size + 1]? = some x.obj) := (hb.block _ (by omega)).trans HXr.out
              have HI3 : Hid (w3.heap[w2.heap.size + 1]? = some (.stringIter ps (pos + 1))) := (hb.block _ (by omega)).trans HIT2.out
              obtain ⟨k0, k1, k2, k3⟩ := Cfg.cells_at HC3.out
              clear x0 x1 x2 x3 hb
              go_wp2_with fail
              go_ret
              exact ⟨by rw [HZ.out, HD.out, HPB.out]; rfl, HB3.out⟩
            have d0 : decide (n < 0) = false := by simpa using hneg
            by_cases hge : c.regs ≤ n
            · have d1 : decide (c.regs ≤ n) = true := by simpa using hge
              have HPB : Hid (pbad c 114 n = true) := by unfold Hid pbad; rw [d0, d1]; simp
              clear hge
              go_wp2_with fail
              refine (number_any _ x pos hl3').mono ?_
              rintro e w3 ⟨rfl, hb⟩
              rw [← HN.out]
              have HB3 : Hid (Below w.heap.size w w3) := HBr.out.trans (hb.mono (by omega))
              have HC3 : Hid (w3.heap[w.heap.size]? = some c.obj) := (hb.block _ (by omega)).trans HCr.out
              have HX3 : Hid (w3.heap[w.heap.size + 1]? = some x.obj) := (hb.block _ (by omega)).trans HXr.out
              have HI3 : Hid (w3.heap[w2.heap.size + 1]? = some (.stringIter ps (pos + 1))) := (hb.block _ (by omega)).trans HIT2.out
              obtain ⟨k0, k1, k2, k3⟩ := Cfg.cells_at HC3.out
              clear x0 x1 x2 x3 hb
              go_wp2_with fail
              go_ret
              exact ⟨by rw [HZ.out, HD.out, HPB.out]; rfl, HB3.out⟩
            have d1 : decide (c.regs ≤ n) = false := by simpa using hge
            have HPB : Hid (pbad c 114 n = false) := by unfold Hid pbad; rw [d0, d1]; simp
            clear hge
            go_wp2_with fail
            refine (number_any _ x pos hl3').mono ?_
            rintro e w3 ⟨rfl, hb⟩
            rw [← HN.out]
            have HB3 : Hid (Below w.heap.size w w3) := HBr.out.trans (hb.mono (by omega))
            have HC3 : Hid (w3.heap[w.heap.size]? = some c.obj) := (hb.block _ (by omega)).trans HCr.out
            have HX3 : Hid (w3.heap[w.heap.size + 1]? = some x.obj) := (hb.block _ (by omega)).trans HXr.out
            have HI3 : Hid (w3.heap[w2.heap.size + 1]? = some (.stringIter ps (pos + 1))) := (hb.block _ (by omega)).trans HIT2.out
            obtain ⟨k0, k1, k2, k3⟩ := Cfg.cells_at HC3.out
            clear x0 x1 x2 x3 hb
            go_wp2_with fail
            go_roundw
            case rel => exact ⟨pos + 1, by omega, HI3.out, HB3.out, HC3.out, HX3.out, by unfold Hid; rw [HD.out, HPB.out]; rfl⟩
            case measure =>
              have h1 := HI3.out
              have h2 := HIT.out
              simp only [World.iterPos, h1, h2]
              omega
          · have hnx := HNX.out 103 rfl (by omega)
            clear HNX
            by_cases hneg : n < 0
            · have d0 : decide (n < 0) = true := by simpa using hneg
              have HPB : Hid (pbad c 103 n = true) := by unfold Hid pbad; rw [d0]; rfl
              clear hneg
              go_wp2_with fail
              refine (number_any _ x pos hl3').mono ?_
              rintro e w3 ⟨rfl, hb⟩
              rw [← HN.out]
              have HB3 : Hid (Below w.heap.size w w3) := HBr.out.trans (hb.mono (by omega))
              have HC3 : Hid (w3.heap[w.heap.size]? = some c.obj) := (hb.block _ (by omega)).trans HCr.out
              have HX3 : Hid (w3.heap[w.heap.size + 1]? = some x.obj) := (hb.block _ (by omega)).trans HXr.out
              have HI3 : Hid (w3.heap[w2.heap.size + 1]? = some (.stringIter ps (pos + 1))) := (hb.block _ (by omega)).trans HIT2.out
              obtain ⟨k0, k1, k2, k3⟩ := Cfg.cells_at HC3.out
              clear x0 x1 x2 x3 hb
              go_wp2_with fail
              go_ret
              exact ⟨by rw [HZ.out, HD.out, HPB.out]; rfl, HB3.out⟩
            have d0 : decide (n < 0) = false := by simpa using hneg
            by_cases hge : c.globs ≤ n
            · have d1 : decide (c.globs ≤ n) = true := by simpa using hge
              have HPB : Hid (pbad c 103 n = true) := by unfold Hid pbad; rw [d0, d1]; simp
              clear hge
              go_wp2_with fail
              refine (number_any _ x pos hl3').mono ?_
              rintro e w3 ⟨rfl, hb⟩
              rw [← HN.out]
              have HB3 : Hid (Below w.heap.size w w3) := HBr.out.trans (hb.mono (by omega))
              have HC3 : Hid (w3.heap[w.heap.size]? = some c.obj) := (hb.block _ (by omega)).trans HCr.out
              have HX3 : Hid (w3.heap[w.heap.size + 1]? = some x.obj) := (hb.block _ (by omega)).trans HXr.out
              have HI3 : Hid (w3.heap[w2.heap.size + 1]? = some (.stringIter ps (pos + 1))) := (hb.block _ (by omega)).trans HIT2.out
              obtain ⟨k0, k1, k2, k3⟩ := Cfg.cells_at HC3.out
              clear x0 x1 x2 x3 hb
              go_wp2_with fail
              go_ret
              exact ⟨by rw [HZ.out, HD.out, HPB.out]; rfl, HB3.out⟩
            have d1 : decide (c.globs ≤ n) = false := by simpa using hge
            have HPB : Hid (pbad c 103 n = false) := by unfold Hid pbad; rw [d0, d1]; simp
            clear hge
            go_wp2_with fail
            refine (number_any _ x pos hl3').mono ?_
            rintro e w3 ⟨rfl, hb⟩
            rw [← HN.out]
            have HB3 : Hid (Below w.heap.size w w3) := HBr.out.trans (hb.mono (by omega))
            have HC3 : Hid (w3.heap[w.heap.size]? = some c.obj) := (hb.block _ (by omega)).trans HCr.out
            have HX3 : Hid (w3.heap[w.heap.size + 1]? = some x.obj) := (hb.block _ (by omega)).trans HXr.out
            have HI3 : Hid (w3.heap[w2.heap.size + 1]? = some (.stringIter ps (pos + 1))) := (hb.block _ (by omega)).trans HIT2.out
            obtain ⟨k0, k1, k2, k3⟩ := Cfg.cells_at HC3.out
            clear x0 x1 x2 x3 hb
            go_wp2_with fail
            go_roundw
            case rel => exact ⟨pos + 1, by omega, HI3.out, HB3.out, HC3.out, HX3.out, by unfold Hid; rw [HD.out, HPB.out]; rfl⟩
            case measure =>
              have h1 := HI3.out
              have h2 := HIT.out
              simp only [World.iterPos, h1, h2]
              omega
          · have hnx := HNX.out 107 rfl (by omega)
            clear HNX
            by_cases hneg : n < 0
            · have d0 : decide (n < 0) = true := by simpa using hneg
              have HPB : Hid (pbad c 107 n = true) := by unfold Hid pbad; rw [d0]; rfl
              clear hneg
              go_wp2_with fail
              refine (number_any _ x pos hl3').mono ?_
              rintro e w3 ⟨rfl, hb⟩
              rw [← HN.out]
              have HB3 : Hid (Below w.heap.size w w3) := HBr.out.trans (hb.mono (by omega))
              have HC3 : Hid (w3.heap[w.heap.size]? = some c.obj) := (hb.block _ (by omega)).trans HCr.out
              have HX3 : Hid (w3.heap[w.heap.size + 1]? = some x.obj) := (hb.block _ (by omega)).trans HXr.out
              have HI3 : Hid (w3.heap[w2.heap.size + 1]? = some (.stringIter ps (pos + 1))) := (hb.block _ (by omega)).trans HIT2.out
              obtain ⟨k0, k1, k2, k3⟩ := Cfg.cells_at HC3.out
              clear x0 x1 x2 x3 hb
              go_wp2_with fail
              go_ret
              exact ⟨by rw [HZ.out, HD.out, HPB.out]; rfl, HB3.out⟩
            have d0 : decide (n < 0) = false := by simpa using hneg
            have HPB : Hid (pbad c 107 n = false) := by unfold Hid pbad; rw [d0]; rfl
            clear hneg
            go_wp2_with fail
            refine (number_any _ x pos hl3').mono ?_
            rintro e w3 ⟨rfl, hb⟩
            rw [← HN.out]
            have HB3 : Hid (Below w.heap.size w w3) := HBr.out.trans (hb.mono (by omega))
            have HC3 : Hid (w3.heap[w.heap.size]? = some c.obj) := (hb.block _ (by omega)).trans HCr.out
            have HX3 : Hid (w3.heap[w.heap.size + 1]? = some x.obj) := (hb.block _ (by omega)).trans HXr.out
            have HI3 : Hid (w3.heap[w2.heap.size + 1]? = some (.stringIter ps (pos + 1))) := (hb.block _ (by omega)).trans HIT2.out
            obtain ⟨k0, k1, k2, k3⟩ := Cfg.cells_at HC3.out
            clear x0 x1 x2 x3 hb
            go_wp2_with fail
            go_roundw
            case rel => exact ⟨pos + 1, by omega, HI3.out, HB3.out, HC3.out, HX3.out, by unfold Hid; rw [HD.out, HPB.out]; rfl⟩
            case measure =>
              have h1 := HI3.out
              have h2 := HIT.out
              simp only [World.iterPos, h1, h2]
              omega
        · have hend := badFrom_end c x ps.data.toList pos hp
          rw [HR.out] at hend
          have HEN := Lib.hid hend
          have HBr := Lib.hid hB
          have hnx : ∀ ty, (Instr.next (.pointer (some ⟨w2.heap.size + 1, 0, none⟩)) true ty).run Tryd.prog wr = _ := fun ty => Lib.run_next_end_at wr (w2.heap.size + 1) ps pos ty hit hp
          clear hend hB hC hX hit
          go_wp2_with fail
          go_ret
          exact ⟨by rw [HZ.out, HEN.out]; rfl, HBr.out⟩
    · rw [if_neg hk] at HZ
      refine (of_out w1 x.kind hk).mono ?_
      rintro e w2 ⟨rfl, hb⟩
      have HB2 : Hid (Below w.heap.size w w2) := HB1.out.trans (hb.mono HB1.out.size)
      clear x0 x1 x2 x3 hb
      go_wp2_with fail
      go_ret
      exact ⟨by rw [HZ.out]; rfl, HB2.out.alloc HB2.out.size _⟩
  · have HE : Hid (c.err = 2) := by unfold Hid Cfg.err; rw [if_neg ok]
    have HZ : Hid (x.err c = 1) := by unfold Hid Opr.err; rw [if_neg ok]
    clear ok
    go_enter Tryd.func50, Tryd.ntmps50
    go_wp2_with fail
    refine (check_any _ c).mono ?_
    rintro e w1 ⟨rfl, hb⟩
    rw [HE.out]
    have HB1 : Hid (Below w.heap.size w w1) := HB0.out.trans (hb.mono (by simp; omega))
    clear k0 k1 k2 k3 hb
    go_wp2_with fail
    go_ret
    exact ⟨by rw [HZ.out]; rfl, HB1.out⟩
end Go.Proofs.YtipoklnoknkfhaaDoor

/- The reference's list of all places: what each is. -/
import Derived.Test.YtipoklnoknkfhaaDoorSpot
import Derived.Test.YtipoklnoknkfhaaDoorRef03
namespace Go.Proofs.YtipoklnoknkfhaaDoor
open Go Go.RowKit
set_option linter.unusedSimpArgs false
set_option linter.unusedVariables false

def Spot.cells (s : Spot) : List Value := [.int .i64 s.kind, .int .i64 s.a, .int .i64 s.b]
def Cfg.scells (c : Cfg) (n : Nat) : List Value := (List.range n).flatMap fun (k : Nat) => (c.spot (k : Int)).cells
theorem Cfg.scells_next (c : Cfg) (n : Nat) : c.scells (n + 1) = c.scells n ++ (c.spot (n : Int)).cells := by unfold Cfg.scells; rw [List.range_succ, List.flatMap_append]; simp
theorem Cfg.scells_len (c : Cfg) : ∀ n : Nat, (c.scells n).length = n * 3
  | 0 => rfl
  | n + 1 => by rw [Cfg.scells_next, List.length_append, Cfg.scells_len c n]; simp [Spot.cells]; omega
theorem reads_new (W : World) (E : TypeId) (cs : List Value) (m size : Nat) (h : cs.length = m * size) : Reads (W.alloc (.cells cs.toArray E)) (W.heap.size + 1) size (some ⟨W.heap.size, 0, none⟩) m cs := by
  refine ⟨h, fun _ => ⟨_, rfl, by simp, fun j u hu => ?_⟩⟩
  have e : (⟨W.heap.size, 0, none⟩ : Addr).add j = ⟨W.heap.size, j, none⟩ := by unfold Addr.add; split <;> simp_all
  rw [e, cell_of_block (heap_alloc_new W _)]
  simpa using hu
theorem info_spot : (Tryd.prog.info? 45).map (fun i => (i.zero, i.size, i.bytes)) = some (some (.agg #[.int .i64 0, .int .i64 0, .int .i64 0]), 3, 24) := by kernel_rfl
theorem info_spot' : ∃ i, Tryd.prog.info? 45 = some i ∧ i.zero = some (.agg #[.int .i64 0, .int .i64 0, .int .i64 0]) ∧ i.size = 3 ∧ i.bytes = 24 := by
  have := info_spot
  cases hh : Tryd.prog.info? 45 with
  | none => rw [hh] at this; cases this
  | some i =>
    rw [hh] at this
    simp at this
    exact ⟨i, rfl, this⟩
theorem row_app {w wr w1 : World} {c : Cfg} {v v1 : Value} {N M M' : Nat} {ts us us' : List Value} {tmp : Obj} (HO : wr.ownsRow (w.heap.size + 1) 45 3 v N ts) (HB : Below w.heap.size w wr) (HX : wr.heap[w.heap.size]? = some c.obj)
    (hg : (wr.alloc tmp).grownBy w1 v.ownBlock) (hown : w1.ownsRow (w.heap.size + 1) 45 3 v1 M us) (hM : M = M') (hus : us = us') :
    w1.ownsRow (w.heap.size + 1) 45 3 v1 M' us' ∧ Below w.heap.size w w1 ∧ w1.heap[w.heap.size]? = some c.obj := by
  subst hM; subst hus
  have hs := HB.size
  have hx := block_lt HX
  refine ⟨hown, (HB.alloc hs tmp).grown hg (by simp; omega) (fun k hk => by have := (HO.lt k hk).1; omega), ?_⟩
  rw [hg.block w.heap.size (by simp; omega) (fun e => by have := (HO.lt w.heap.size e.symm).1; omega), Below.heap_alloc _ _ _ hx]
  exact HX
theorem Cfg.cells_n {c : Cfg} {w : World} {b n m r g : Nat} (h : w.heap[b]? = some c.obj) (hn : c.cells = n) (hm : c.muts = m) (hr : c.regs = r) (hg : c.globs = g) :
    w.cell? ⟨b, 0, none⟩ = some (.int .i64 (n : Int)) ∧ w.cell? ⟨b, 1, none⟩ = some (.int .i64 (m : Int)) ∧ w.cell? ⟨b, 2, none⟩ = some (.int .i64 (r : Int)) ∧ w.cell? ⟨b, 3, none⟩ = some (.int .i64 (g : Int)) := by
  obtain ⟨k0, k1, k2, k3⟩ := Cfg.cells_at h
  rw [hn] at k0
  rw [hm] at k1
  rw [hr] at k2
  rw [hg] at k3
  exact ⟨k0, k1, k2, k3⟩
/-- what All hands back -/
def AllPost (w : World) (c : Cfg) (T : Nat) (e : Ending) (w' : World) : Prop :=
  ∃ v, e = .returned v ∧ w'.ownsRow (w.heap.size + 1) 45 3 v T (c.scells T) ∧ Below w.heap.size w w'
theorem all_no (w : World) (c : Cfg) (ok : c.ok = false) : Calls Tryd.prog 83 #[c.v] w fun e w' => e = .returned (.slice none 0 0) ∧ Below w.heap.size w w' := by
  have HB0 : Hid (Below w.heap.size w (w.alloc c.obj)) := (Below.refl _ _).alloc (Nat.le_refl _) _
  have HOK := Lib.hid ok
  clear ok
  go_enter Tryd.func83, Tryd.ntmps83
  go_wp2_with fail
  refine (refright_any _ c).mono ?_
  rintro e w1 ⟨rfl, hb⟩
  rw [HOK.out]
  have HB : Hid (Below w.heap.size w w1) := HB0.out.trans (hb.mono HB0.out.size)
  clear hb
  go_wp2_with fail
  go_ret
  exact ⟨rfl, HB.out⟩
set_option maxHeartbeats 8000000 in
set_option maxRecDepth 100000 in
theorem all_any (w : World) (c : Cfg) (n m r g : Nat) (hn : c.cells = n) (hm : c.muts = m) (hr : c.regs = r) (hg : c.globs = g) (ok : c.ok = true) :
    Calls Tryd.prog 83 #[c.v] w (AllPost w c (5 + m + g + m * r + 3 * n)) := by
  have HB00 : Hid (Below w.heap.size w (w.alloc c.obj)) := (Below.refl _ _).alloc (Nat.le_refl _) _
  have hbd := c.ok_iff.1 ok
  have b0 : n ≤ 4096 := by omega
  have b1 : m ≤ 63 := by omega
  have b2 : r ≤ 64 := by omega
  have b3 : g ≤ 64 := by omega
  have OK := Lib.hid ok
  have HN := Lib.hid hn
  have HM := Lib.hid hm
  have HR := Lib.hid hr
  have HG := Lib.hid hg
  obtain ⟨i0, hi0, hz0, hz1, hz2⟩ := info_spot'
  clear ok hn hm hr hg hbd
  go_enter Tryd.func83, Tryd.ntmps83
  go_wp2_with fail
  refine (refright_any _ c).mono ?_
  rintro e w1 ⟨rfl, hb⟩
  rw [OK.out]
  have HS0 : Hid (w1.ownsRow (w.heap.size + 1) 45 3 (.slice none 0 0) 0 (c.scells 0) ∧ Below w.heap.size w w1 ∧ w1.heap[w.heap.size]? = some c.obj) :=
    ⟨World.ownsRow_nil _ _ _ _, HB00.out.trans (hb.mono HB00.out.size), (hb.block w.heap.size (by simp)).trans (heap_alloc_new w c.obj)⟩
  clear hb
  go_wp2_with fail
  go_loopw [3, 4] (fun v i wr => ∃ k : Nat, k ≤ 5 ∧ i = .int .i64 k ∧ Hid (wr.ownsRow (w.heap.size + 1) 45 3 v (k) (c.scells (k))) ∧ Hid (Below w.heap.size w wr) ∧ Hid (wr.heap[w.heap.size]? = some c.obj)) (fun _ i _ => 5 - (intOf i).toNat)
  case atStart => exact ⟨0, Nat.zero_le _, rfl, HS0.out.1, HS0.out.2.1, HS0.out.2.2⟩
  case round =>
    obtain ⟨k, hk, rfl, HO, HB, HX⟩ := hrel
    by_cases hlt : k < 5
    · obtain ⟨k0, k1, k2, k3⟩ := Cfg.cells_n HX.out HN.out HM.out HR.out HG.out
      have HOA : Hid ((wr.alloc (.cells #[.int .i64 0, .int .i64 k, .int .i64 0] 45)).ownsRow (w.heap.size + 1) 45 3 u3 (k) (c.scells (k))) := HO.out.alloc _
      have HEQ : Hid (c.scells (k) ++ [.int .i64 0, .int .i64 k, .int .i64 0] = c.scells (k + 1)) := by
        rw [Cfg.scells_next, Cfg.spot_0 c _ (by omega)]
        rfl
      have hTb : k ≤ 20000 := by omega
      generalize hts : c.scells k = ts at *
      have hwr := HB.out.size
      go_wp2_with (first
        | (at_builtin
           refine wpList_append_any _ rfl (.tmp 17) (.tmp 20) _ rfl (w.heap.size + 1) 45 i0 _ 3 24 Tryd.underlying153 hi0 hz0 hz1 hz2 rfl (by omega) u3 k ts rfl
             HOA.out _ _ 1 1 [.int .i64 0, .int .i64 k, .int .i64 0] rfl (reads_new _ _ _ _ _ rfl) (by intro u hu; simp at hu; rcases hu with rfl | rfl | rfl <;> rfl) (by unfold maxLen; omega) (by omega) (by have := block_lt HX.out; simp; omega) ?_
           intro v1 w1' hown1 hg1 _
           have HQ := Lib.hid (row_app HO.out HB.out HX.out hg1 hown1 (M' := k + 1) (by omega) HEQ.out)
           clear hown1 hg1))
      go_roundw
      case rel => exact ⟨k + 1, by omega, by go_num, HQ.out.1, HQ.out.2.1, HQ.out.2.2⟩
      case measure => simp [intOf]; omega
    · have hke : k = 5 := by omega
      rw [hke] at HO
      have HS := Lib.hid (And.intro HO.out (And.intro HB.out HX.out))
      obtain ⟨k0, k1, k2, k3⟩ := Cfg.cells_n HX.out HN.out HM.out HR.out HG.out
      clear HO HB HX hke hk
      have d5 : decide ((k : Int) < 5) = false := by simp; omega
      go_wp2_with fail
      clear k0 k1 k2 k3 hlt
      go_loopw [3, 5] (fun v i wr => ∃ k : Nat, k ≤ m ∧ i = .int .i64 k ∧ Hid (wr.ownsRow (w.heap.size + 1) 45 3 v (5 + k) (c.scells (5 + k))) ∧ Hid (Below w.heap.size w wr) ∧ Hid (wr.heap[w.heap.size]? = some c.obj)) (fun _ i _ => m - (intOf i).toNat)
      case atStart => exact ⟨0, Nat.zero_le _, rfl, HS.out.1, HS.out.2.1, HS.out.2.2⟩
      case round =>
        obtain ⟨k, hk, rfl, HO, HB, HX⟩ := hrel
        by_cases hlt : k < m
        · obtain ⟨k0, k1, k2, k3⟩ := Cfg.cells_n HX.out HN.out HM.out HR.out HG.out
          have HOA : Hid ((wr.alloc (.cells #[.int .i64 1, .int .i64 k, .int .i64 0] 45)).ownsRow (w.heap.size + 1) 45 3 u3 (5 + k) (c.scells (5 + k))) := HO.out.alloc _
          have HEQ : Hid (c.scells (5 + k) ++ [.int .i64 1, .int .i64 k, .int .i64 0] = c.scells (5 + (k + 1))) := by
            rw [show 5 + (k + 1) = 5 + k + 1 by omega, Cfg.scells_next]
            rw [show ((5 + k : Nat) : Int) = 5 + (k : Int) by simp [Cfg.b1, Cfg.b2, Cfg.b3, HM.out, HR.out, HG.out] <;> omega]
            rw [c.spot_1 OK.out k (by omega) (by rw [HM.out]; omega)]
            rfl
          have hTb : 5 + k ≤ 20000 := by omega
          generalize hN : 5 + k = N at *
          generalize hts : c.scells N = ts at *
          have hwr := HB.out.size
          go_wp2_with (first
            | (at_builtin
               refine wpList_append_any _ rfl (.tmp 28) (.tmp 31) _ rfl (w.heap.size + 1) 45 i0 _ 3 24 Tryd.underlying153 hi0 hz0 hz1 hz2 rfl (by omega) u3 N ts rfl
                 HOA.out _ _ 1 1 [.int .i64 1, .int .i64 k, .int .i64 0] rfl (reads_new _ _ _ _ _ rfl) (by intro u hu; simp at hu; rcases hu with rfl | rfl | rfl <;> rfl) (by unfold maxLen; omega) (by omega) (by have := block_lt HX.out; simp; omega) ?_
               intro v1 w1' hown1 hg1 _
               have HQ := Lib.hid (row_app HO.out HB.out HX.out hg1 hown1 (M' := 5 + (k + 1)) (by omega) HEQ.out)
               clear hown1 hg1))
          go_roundw
          case rel => exact ⟨k + 1, by omega, by go_num, HQ.out.1, HQ.out.2.1, HQ.out.2.2⟩
          case measure => simp [intOf]; omega
        · have hke : k = m := by omega
          rw [hke] at HO
          have HS := Lib.hid (And.intro HO.out (And.intro HB.out HX.out))
          obtain ⟨k0, k1, k2, k3⟩ := Cfg.cells_n HX.out HN.out HM.out HR.out HG.out
          clear HO HB HX hke hk
          go_wp2_with fail
          clear k0 k1 k2 k3 hlt
          go_loopw [3, 6] (fun v i wr => ∃ k : Nat, k ≤ g ∧ i = .int .i64 k ∧ Hid (wr.ownsRow (w.heap.size + 1) 45 3 v (5 + m + k) (c.scells (5 + m + k))) ∧ Hid (Below w.heap.size w wr) ∧ Hid (wr.heap[w.heap.size]? = some c.obj)) (fun _ i _ => g - (intOf i).toNat)
          case atStart => exact ⟨0, Nat.zero_le _, rfl, HS.out.1, HS.out.2.1, HS.out.2.2⟩
          case round =>
            obtain ⟨k, hk, rfl, HO, HB, HX⟩ := hrel
            by_cases hlt : k < g
            · obtain ⟨k0, k1, k2, k3⟩ := Cfg.cells_n HX.out HN.out HM.out HR.out HG.out
              have HOA : Hid ((wr.alloc (.cells #[.int .i64 2, .int .i64 k, .int .i64 0] 45)).ownsRow (w.heap.size + 1) 45 3 u3 (5 + m + k) (c.scells (5 + m + k))) := HO.out.alloc _
              have HEQ : Hid (c.scells (5 + m + k) ++ [.int .i64 2, .int .i64 k, .int .i64 0] = c.scells (5 + m + (k + 1))) := by
                rw [show 5 + m + (k + 1) = 5 + m + k + 1 by omega, Cfg.scells_next]
                rw [show ((5 + m + k : Nat) : Int) = c.b1 + (k : Int) by simp [Cfg.b1, Cfg.b2, Cfg.b3, HM.out, HR.out, HG.out] <;> omega]
                rw [c.spot_2 OK.out k (by omega) (by rw [HG.out]; omega)]
                rfl
              have hTb : 5 + m + k ≤ 20000 := by omega
              generalize hN : 5 + m + k = N at *
              generalize hts : c.scells N = ts at *
              have hwr := HB.out.size
              go_wp2_with (first
                | (at_builtin
                   refine wpList_append_any _ rfl (.tmp 39) (.tmp 42) _ rfl (w.heap.size + 1) 45 i0 _ 3 24 Tryd.underlying153 hi0 hz0 hz1 hz2 rfl (by omega) u3 N ts rfl
                     HOA.out _ _ 1 1 [.int .i64 2, .int .i64 k, .int .i64 0] rfl (reads_new _ _ _ _ _ rfl) (by intro u hu; simp at hu; rcases hu with rfl | rfl | rfl <;> rfl) (by unfold maxLen; omega) (by omega) (by have := block_lt HX.out; simp; omega) ?_
                   intro v1 w1' hown1 hg1 _
                   have HQ := Lib.hid (row_app HO.out HB.out HX.out hg1 hown1 (M' := 5 + m + (k + 1)) (by omega) HEQ.out)
                   clear hown1 hg1))
              go_roundw
              case rel => exact ⟨k + 1, by omega, by go_num, HQ.out.1, HQ.out.2.1, HQ.out.2.2⟩
              case measure => simp [intOf]; omega
            · have hke : k = g := by omega
              rw [hke] at HO
              have HS := Lib.hid (And.intro HO.out (And.intro HB.out HX.out))
              obtain ⟨k0, k1, k2, k3⟩ := Cfg.cells_n HX.out HN.out HM.out HR.out HG.out
              clear HO HB HX hke hk
              go_wp2_with fail
              clear k0 k1 k2 k3 hlt
              go_loopw [3, 7, 8] (fun v i _ wr => ∃ k : Nat, k ≤ m ∧ i = .int .i64 k ∧ Hid (wr.ownsRow (w.heap.size + 1) 45 3 v (5 + m + g + k * r) (c.scells (5 + m + g + k * r))) ∧ Hid (Below w.heap.size w wr) ∧ Hid (wr.heap[w.heap.size]? = some c.obj)) (fun _ i _ _ => m - (intOf i).toNat)
              case atStart => exact ⟨0, Nat.zero_le _, rfl, by rw [Nat.zero_mul]; exact HS.out.1, HS.out.2.1, HS.out.2.2⟩
              case round =>
                obtain ⟨k, hk, rfl, HO, HB, HX⟩ := hrel
                by_cases hlt : k < m
                · obtain ⟨k0, k1, k2, k3⟩ := Cfg.cells_n HX.out HN.out HM.out HR.out HG.out
                  obtain ⟨i, rfl⟩ : ∃ i : Nat, i = k := ⟨_, rfl⟩
                  obtain ⟨q, hq⟩ : ∃ q, q = i * r := ⟨_, rfl⟩
                  have hqb : q ≤ 4032 := by rw [hq]; exact Nat.le_trans (Nat.mul_le_mul (show i ≤ 63 by omega) (show r ≤ 64 by omega)) (by omega)
                  have HQ0 := Lib.hid hq
                  have HO0 : Hid (wr.ownsRow (w.heap.size + 1) 45 3 u3 (5 + m + g + q + 0) (c.scells (5 + m + g + q + 0))) := by rw [hq]; exact HO.out
                  have HB0 := HB
                  have HX0 := HX
                  have HIL := Lib.hid hlt
                  have hil : (i : Int) < (m : Int) := by omega
                  clear hq HO HB HX hk
                  go_wp2_with fail
                  clear hlt
                  clear k0 k1 k2 k3
                  obtain ⟨wo, rfl⟩ : ∃ wo : World, wo = wr := ⟨_, rfl⟩
                  go_loopw [3, 8] (fun v i wr => ∃ k : Nat, k ≤ r ∧ i = .int .i64 k ∧ Hid (wr.ownsRow (w.heap.size + 1) 45 3 v (5 + m + g + q + k) (c.scells (5 + m + g + q + k))) ∧ Hid (Below w.heap.size w wr) ∧ Hid (wr.heap[w.heap.size]? = some c.obj)) (fun _ i _ => r - (intOf i).toNat)
                  case atStart => exact ⟨0, Nat.zero_le _, rfl, HO0.out, HB0.out, HX0.out⟩
                  case round =>
                    obtain ⟨k, hk, rfl, HO, HB, HX⟩ := hrel
                    by_cases hlt : k < r
                    · obtain ⟨k0, k1, k2, k3⟩ := Cfg.cells_n HX.out HN.out HM.out HR.out HG.out
                      have HOA : Hid ((wr.alloc (.cells #[.int .i64 3, .int .i64 i, .int .i64 k] 45)).ownsRow (w.heap.size + 1) 45 3 u3 (5 + m + g + q + k) (c.scells (5 + m + g + q + k))) := HO.out.alloc _
                      have HEQ : Hid (c.scells (5 + m + g + q + k) ++ [.int .i64 3, .int .i64 i, .int .i64 k] = c.scells (5 + m + g + q + (k + 1))) := by
                        rw [show 5 + m + g + q + (k + 1) = 5 + m + g + q + k + 1 by omega, Cfg.scells_next]
                        rw [show ((5 + m + g + q + k : Nat) : Int) = c.b2 + ((i : Int) * c.regs + k) by rw [HQ0.out]; simp [Cfg.b2, HM.out, HR.out, HG.out]; omega]
                        rw [c.spot_3 OK.out i k (by omega) (by rw [HM.out]; have := HIL.out; omega) (by omega) (by rw [HR.out]; omega)]
                        rfl
                      have hTb : 5 + m + g + q + k ≤ 20000 := by omega
                      generalize hN : 5 + m + g + q + k = N at *
                      generalize hts : c.scells N = ts at *
                      have hwr := HB.out.size
                      go_wp2_with (first
                        | (at_builtin
                           refine wpList_append_any _ rfl (.tmp 56) (.tmp 60) _ rfl (w.heap.size + 1) 45 i0 _ 3 24 Tryd.underlying153 hi0 hz0 hz1 hz2 rfl (by omega) u3 N ts rfl
                             HOA.out _ _ 1 1 [.int .i64 3, .int .i64 i, .int .i64 k] rfl (reads_new _ _ _ _ _ rfl) (by intro u hu; simp at hu; rcases hu with rfl | rfl | rfl <;> rfl) (by unfold maxLen; omega) (by omega) (by have := block_lt HX.out; simp; omega) ?_
                           intro v1 w1' hown1 hg1 _
                           have HQ := Lib.hid (row_app HO.out HB.out HX.out hg1 hown1 (M' := 5 + m + g + q + (k + 1)) (by omega) HEQ.out)
                           clear hown1 hg1))
                      go_roundw
                      case rel => exact ⟨k + 1, by omega, by go_num, HQ.out.1, HQ.out.2.1, HQ.out.2.2⟩
                      case measure => simp [intOf]; omega
                    · have hke : k = r := by omega
                      rw [hke] at HO
                      clear hke
                      obtain ⟨k0, k1, k2, k3⟩ := Cfg.cells_n HX.out HN.out HM.out HR.out HG.out
                      go_wp2_with fail
                      go_roundw
                      case rel =>
                        have hil := HIL.out
                        refine ⟨i + 1, by omega, by go_num, ?_, HB.out, HX.out⟩
                        rw [show 5 + m + g + (i + 1) * r = 5 + m + g + q + r by rw [HQ0.out, Nat.add_mul]; omega]
                        exact HO.out
                      case measure => have := HIL.out; simp [intOf]; omega
                · have hke : k = m := by omega
                  rw [hke] at HO
                  have HS := Lib.hid (And.intro HO.out (And.intro HB.out HX.out))
                  obtain ⟨k0, k1, k2, k3⟩ := Cfg.cells_n HX.out HN.out HM.out HR.out HG.out
                  clear HO HB HX hke hk
                  go_wp2_with fail
                  clear k0 k1 k2 k3 hlt
                  go_loopw [3, 9] (fun v i wr => ∃ k : Nat, k ≤ n ∧ i = .int .i64 k ∧ Hid (wr.ownsRow (w.heap.size + 1) 45 3 v (5 + m + g + m * r + 3 * k) (c.scells (5 + m + g + m * r + 3 * k))) ∧ Hid (Below w.heap.size w wr) ∧ Hid (wr.heap[w.heap.size]? = some c.obj)) (fun _ i _ => n - (intOf i).toNat)
                  case atStart => exact ⟨0, Nat.zero_le _, rfl, HS.out.1, HS.out.2.1, HS.out.2.2⟩
                  case round =>
                    obtain ⟨k, hk, rfl, HO, HB, HX⟩ := hrel
                    by_cases hlt : k < n
                    · obtain ⟨k0, k1, k2, k3⟩ := Cfg.cells_n HX.out HN.out HM.out HR.out HG.out
                      obtain ⟨q, hq⟩ : ∃ q, q = m * r := ⟨_, rfl⟩
                      have hqb : q ≤ 4032 := by rw [hq]; exact Nat.le_trans (Nat.mul_le_mul (show m ≤ 63 by omega) (show r ≤ 64 by omega)) (by omega)
                      have HQ0 := Lib.hid hq
                      rw [← hq] at HO
                      clear hq
                      have HOA : Hid ((wr.alloc (.cells #[.int .i64 4, .int .i64 k, .int .i64 0, .int .i64 5, .int .i64 k, .int .i64 0, .int .i64 6, .int .i64 k, .int .i64 0] 45)).ownsRow (w.heap.size + 1) 45 3 u3 (5 + m + g + q + 3 * k) (c.scells (5 + m + g + q + 3 * k))) := HO.out.alloc _
                      have HEQ : Hid (c.scells (5 + m + g + q + 3 * k) ++ [.int .i64 4, .int .i64 k, .int .i64 0, .int .i64 5, .int .i64 k, .int .i64 0, .int .i64 6, .int .i64 k, .int .i64 0] = c.scells (5 + m + g + q + 3 * (k + 1))) := by
                        rw [show 5 + m + g + q + 3 * (k + 1) = 5 + m + g + q + 3 * k + 1 + 1 + 1 by omega, Cfg.scells_next, Cfg.scells_next, Cfg.scells_next]
                        have hb3 : c.b3 = 5 + m + g + q := by rw [HQ0.out]; simp [Cfg.b3, HM.out, HR.out, HG.out]
                        rw [show ((5 + m + g + q + 3 * k : Nat) : Int) = c.b3 + 3 * (k : Int) + 0 by omega, c.spot_4 OK.out k 0 (by omega) (by omega) (by omega)]
                        rw [show ((5 + m + g + q + 3 * k + 1 : Nat) : Int) = c.b3 + 3 * (k : Int) + 1 by omega, c.spot_4 OK.out k 1 (by omega) (by omega) (by omega)]
                        rw [show ((5 + m + g + q + 3 * k + 1 + 1 : Nat) : Int) = c.b3 + 3 * (k : Int) + 2 by omega, c.spot_4 OK.out k 2 (by omega) (by omega) (by omega)]
                        unfold Hid
                        simp [Spot.cells]
                      have hTb : 5 + m + g + q + 3 * k ≤ 20000 := by omega
                      generalize hN : 5 + m + g + q + 3 * k = N at *
                      generalize hts : c.scells N = ts at *
                      have hwr := HB.out.size
                      go_wp2_with (first
                        | (at_builtin
                           refine wpList_append_any _ rfl (.tmp 68) (.tmp 75) _ rfl (w.heap.size + 1) 45 i0 _ 3 24 Tryd.underlying153 hi0 hz0 hz1 hz2 rfl (by omega) u3 N ts rfl
                             HOA.out _ _ 3 3 [.int .i64 4, .int .i64 k, .int .i64 0, .int .i64 5, .int .i64 k, .int .i64 0, .int .i64 6, .int .i64 k, .int .i64 0] rfl (reads_new _ _ _ _ _ rfl) (by intro u hu; simp at hu; rcases hu with rfl | rfl | rfl | rfl | rfl | rfl | rfl | rfl | rfl <;> rfl) (by unfold maxLen; omega) (by omega) (by have := block_lt HX.out; simp; omega) ?_
                           intro v1 w1' hown1 hg1 _
                           have HQ := Lib.hid (row_app HO.out HB.out HX.out hg1 hown1 (M' := 5 + m + g + q + 3 * (k + 1)) (by omega) HEQ.out)
                           clear hown1 hg1))
                      go_roundw
                      case rel =>
                        refine ⟨k + 1, by omega, by go_num, ?_, HQ.out.2.1, HQ.out.2.2⟩
                        have := HQ.out.1
                        rw [HQ0.out] at this
                        exact this
                      case measure => simp [intOf]; omega
                    · have hke : k = n := by omega
                      rw [hke] at HO
                      have HS := Lib.hid (And.intro HO.out (And.intro HB.out HX.out))
                      obtain ⟨k0, k1, k2, k3⟩ := Cfg.cells_n HX.out HN.out HM.out HR.out HG.out
                      clear HO HB HX hke hk
                      go_wp2_with fail
                      go_ret
                      exact ⟨_, rfl, HS.out.1, HS.out.2.1⟩
end Go.Proofs.YtipoklnoknkfhaaDoor

/- The walk of the law PlaceRoots. -/
import Derived.Test.YtoapbfglpcebmaaPlaceLaw
namespace Go.Proofs.Ytoapbfglpcebmaa
open Go Go.RowKit
set_option linter.unusedSimpArgs false
set_option linter.unusedVariables false

theorem Cfg.root_ok (c : Cfg) (ok : c.ok = true) (j : Int) (h0 : 0 ≤ j) (h1 : j ≤ 100000) : c.root_ j = if j = 0 then 0 else if j < 1 + c.globs + c.muts * c.regs then 4 + c.muts + j else -1 := by
  obtain ⟨_, _⟩ := c.mr ok
  obtain ⟨_, _, _, _, _, _, _, _⟩ := c.ok_iff.1 ok
  rw [root_same c j (by omega) (by omega)]
  unfold Cfg.refRoot
  rw [show c.roots = 1 + c.globs + c.muts * c.regs by unfold Cfg.roots; rw [if_pos ok]]
  by_cases hj : j = 0
  · rw [if_pos (by omega), if_pos hj, if_pos hj]
  · by_cases h : j < 1 + c.globs + c.muts * c.regs
    · rw [if_pos ⟨h0, h⟩, if_neg hj, if_neg hj, if_pos h]
    · rw [if_neg (by omega), if_neg hj, if_neg h]
theorem Cfg.root_neg (c : Cfg) : c.root_ (-1) = -1 := by
  rw [root_same c (-1) (by omega) (by omega)]
  unfold Cfg.refRoot
  rw [if_neg (by omega)]
theorem Cfg.glob_ok (c : Cfg) (ok : c.ok = true) (g : Int) (h0 : 0 ≤ g) (h1 : g < c.globs) : c.at_ c.g0 g c.globs 1 = 5 + c.muts + g := by
  obtain ⟨e0, _, _⟩ := c.begin_ ok
  obtain ⟨_, _, _, _, _, _, _, _⟩ := c.ok_iff.1 ok
  rw [e0, c.at_ok ok _ _ _ _ (by omega) (by omega) (by omega) (by omega) (by omega), if_pos ⟨h0, h1⟩]
  omega
theorem root_glob (c : Cfg) (ok : c.ok = true) (k : Nat) (h : (k : Int) < c.globs) : c.root_ ((k : Int) + 1) = c.at_ c.g0 k c.globs 1 := by
  obtain ⟨_, _⟩ := c.mr ok
  obtain ⟨_, _, _, _, _, _, _, _⟩ := c.ok_iff.1 ok
  rw [c.glob_ok ok _ (by omega) h, c.root_ok ok _ (by omega) (by omega), if_neg (by omega), if_pos (by omega)]
  omega
theorem root_reg (c : Cfg) (ok : c.ok = true) (i r : Nat) (hi : (i : Int) < c.muts) (hr : (r : Int) < c.regs) (m : Int) (hm : m = i * c.regs) : c.root_ (1 + c.globs + m + r) = c.reg_ i r ∧ c.root_ (1 + c.globs + m + r) = 5 + c.muts + c.globs + m + r := by
  obtain ⟨_, _⟩ := c.mr ok
  obtain ⟨_, _, _, _, _, _, _, _⟩ := c.ok_iff.1 ok
  have h1 : ((i : Int) + 1) * c.regs ≤ c.muts * c.regs := Int.mul_le_mul_of_nonneg_right (by omega) (by omega)
  have h2 : ((i : Int) + 1) * c.regs = m + c.regs := by rw [Int.add_mul, ← hm]; omega
  have h3 : 0 ≤ (i : Int) * c.regs := Int.mul_nonneg (by omega) (by omega)
  have e : c.root_ (1 + c.globs + m + r) = 5 + c.muts + c.globs + m + r := by
    rw [c.root_ok ok _ (by omega) (by omega), if_neg (by omega), if_pos (by omega)]
    omega
  refine ⟨?_, e⟩
  rw [e, c.reg_ok ok, if_pos (by omega), ← hm]
theorem root_end (c : Cfg) (ok : c.ok = true) : c.root_ c.roots = -1 ∧ c.roots = 1 + c.globs + c.muts * c.regs := by
  have hrt : c.roots = 1 + c.globs + c.muts * c.regs := by unfold Cfg.roots; rw [if_pos ok]
  refine ⟨?_, hrt⟩
  obtain ⟨_, _⟩ := c.mr ok
  obtain ⟨_, _, _, _, _, _, _, _⟩ := c.ok_iff.1 ok
  rw [hrt, c.root_ok ok _ (by omega) (by omega), if_neg (by omega), if_neg (by omega)]
/-- what the blocks of the configuration and of its map hold -/
structure Two (c : Cfg) (B M : Nat) (w : World) : Prop where
  b : w.heap[B]? = some c.obj
  m : w.heap[M]? = some c.mobj
theorem Two.keep {c : Cfg} {B M n : Nat} {w w' : World} (h : Two c B M w) (hb : Below n w w') (h1 : B < n) (h2 : M < n) : Two c B M w' := ⟨(hb.block B h1).trans h.b, (hb.block M h2).trans h.m⟩

set_option maxHeartbeats 100000000 in
set_option maxRecDepth 100000 in
theorem roots_walk (w : World) (c : Cfg) :
    Calls Try.prog 3 #[c.v] w fun e w' => e = .returned (.bool true) ∧ Below w.heap.size w w' := by
  have HB0 : Hid (Below w.heap.size w (w.alloc c.obj)) := (Below.refl _ _).alloc (Nat.le_refl _) _
  generalize hok : c.ok = ok
  have HOK := Lib.hid hok
  have HE : Hid (c.err = if ok = true then 0 else 2) := by unfold Hid Cfg.err; rw [hok]
  have HM : Hid (c.map = if ok = true then c else Cfg.zero) := by unfold Hid Cfg.map; rw [hok]
  clear hok
  cases ok
  · simp only [Bool.false_eq_true, if_false] at HE HM
    go_enter Try.func3, Try.ntmps3
    go_wp2_with fail
    refine (place_awake _).mono ?_
    rintro e w1 ⟨rfl, hb⟩
    have HB1 : Hid (Below w.heap.size w w1) := HB0.out.trans (hb.mono HB0.out.size)
    have hbb1 : w1.heap[w.heap.size]? = some c.obj := (hb.block w.heap.size (by simp)).trans (heap_alloc_new w c.obj)
    obtain ⟨k0, k1, k2, k3⟩ := Cfg.cells_at hbb1
    clear hb hbb1
    go_wp2_with fail
    clear k0 k1 k2 k3
    refine (pnew_any _ c).mono ?_
    rintro e w2 ⟨rfl, hb⟩
    rw [HE.out, HM.out]
    have HB2 : Hid (Below w.heap.size w w2) := HB1.out.trans (hb.mono HB1.out.size)
    clear hb
    unfold Cfg.zero
    go_wp2_with fail
    go_ret
    exact ⟨rfl, HB2.out.alloc HB2.out.size _⟩
  simp only [if_true] at HE HM
  obtain ⟨_, _⟩ := c.mr HOK.out
  obtain ⟨_, _, _, _, _, _, _, _⟩ := c.ok_iff.1 HOK.out
  by_cases h30 : 30 < c.cells
  · have d30 : decide ((30 : Int) < c.cells) = true := by simpa using h30
    go_enter Try.func3, Try.ntmps3
    go_wp2_with fail
    refine (place_awake _).mono ?_
    rintro e w1 ⟨rfl, hb⟩
    have HB1 : Hid (Below w.heap.size w w1) := HB0.out.trans (hb.mono HB0.out.size)
    have hlb1 : w.heap.size < w1.heap.size := by have := hb.size; simp at this; omega
    have hbb1 : w1.heap[w.heap.size]? = some c.obj := (hb.block w.heap.size (by simp)).trans (heap_alloc_new w c.obj)
    obtain ⟨k0, k1, k2, k3⟩ := Cfg.cells_at hbb1
    have HKB1 := Lib.hid hbb1
    clear hb hbb1
    go_wp2_with fail
    clear k0 k1 k2 k3
    refine (pnew_any _ c).mono ?_
    rintro e w2 ⟨rfl, hb⟩
    rw [HE.out, HM.out]
    have HB2 : Hid (Below w.heap.size w w2) := HB1.out.trans (hb.mono HB1.out.size)
    have hbb2 : (w2.alloc c.mobj).heap[w.heap.size]? = some c.obj := (Below.heap_alloc w2 _ _ (Nat.lt_of_lt_of_le hlb1 hb.size)).trans ((hb.block w.heap.size hlb1).trans HKB1.out)
    obtain ⟨k0, k1, k2, k3⟩ := Cfg.cells_at hbb2
    clear hb hbb2
    go_wp2_with fail
    go_ret
    exact ⟨rfl, HB2.out.alloc HB2.out.size _⟩
  have d30 : decide ((30 : Int) < c.cells) = false := by simpa using h30
  go_enter Try.func3, Try.ntmps3
  go_wp2_with fail
  refine (place_awake _).mono ?_
  rintro e w1 ⟨rfl, hb⟩
  have HB1 : Hid (Below w.heap.size w w1) := HB0.out.trans (hb.mono HB0.out.size)
  have hlb1 : w.heap.size < w1.heap.size := by have := hb.size; simp at this; omega
  have hbb1 : w1.heap[w.heap.size]? = some c.obj := (hb.block w.heap.size (by simp)).trans (heap_alloc_new w c.obj)
  obtain ⟨k0, k1, k2, k3⟩ := Cfg.cells_at hbb1
  have HKB1 := Lib.hid hbb1
  clear hb hbb1
  go_wp2_with fail
  clear k0 k1 k2 k3
  refine (pnew_any _ c).mono ?_
  rintro e w2 ⟨rfl, hb⟩
  rw [HE.out, HM.out]
  have HB2 : Hid (Below w.heap.size w w2) := HB1.out.trans (hb.mono HB1.out.size)
  have hlb2 : w.heap.size < w2.heap.size := Nat.lt_of_lt_of_le hlb1 hb.size
  have HT2 : Hid (Two c w.heap.size w2.heap.size (w2.alloc c.mobj)) := ⟨(Below.heap_alloc w2 _ _ hlb2).trans ((hb.block w.heap.size hlb1).trans HKB1.out), heap_alloc_new w2 _⟩
  have HB2a : Hid (Below w.heap.size w (w2.alloc c.mobj)) := HB2.out.alloc HB2.out.size _
  obtain ⟨k0, k1, k2, k3⟩ := Cfg.cells_at HT2.out.b
  obtain ⟨x0, x1, x2, x3⟩ := Cfg.mcells_at HT2.out.m
  clear hb
  go_wp2_with fail
  generalize hMM : w2.heap.size = M at *
  clear k0 k1 k2 k3 x0 x1 x2 x3
  refine (root_any _ c 0).mono ?_
  rintro e w3 ⟨rfl, hb⟩
  have hr0 : Hid (c.root_ 0 = 0) := c.root_ok HOK.out 0 (by omega) (by omega)
  have hrn := Lib.hid c.root_neg
  rw [hr0.out]
  have hM3 : M + 1 ≤ w3.heap.size := by have := hb.size; simp [hMM] at this; omega
  have HT3 := Lib.hid (HT2.out.keep hb (by simp; omega) (by simp; omega))
  have HB3 : Hid (Below w.heap.size w w3) := HB2a.out.trans (hb.mono HB2a.out.size)
  obtain ⟨k0, k1, k2, k3⟩ := Cfg.cells_at HT3.out.b
  obtain ⟨x0, x1, x2, x3⟩ := Cfg.mcells_at HT3.out.m
  have HMM := Lib.hid hMM
  clear hb hMM
  go_wp2_with fail
  clear k0 k1 k2 k3 x0 x1 x2 x3
  refine (root_any _ c (-1)).mono ?_
  rintro e w4 ⟨rfl, hb⟩
  rw [hrn.out]
  have hM4 : M + 1 ≤ w4.heap.size := Nat.le_trans hM3 hb.size
  have HT4 := Lib.hid (HT3.out.keep hb (by omega) (by omega))
  have HB4 : Hid (Below w.heap.size w w4) := HB3.out.trans (hb.mono HB3.out.size)
  clear hb
  go_wp2_with fail
  go_loopw [5, 6] (fun j g wr => ∃ k : Nat, (k : Int) ≤ c.globs ∧ g = .int .i64 k ∧ j = .int .i64 (k + 1) ∧ Two c w.heap.size M wr ∧ Below w.heap.size w wr ∧ M + 1 ≤ wr.heap.size) (fun _ g _ => c.globs.toNat - (intOf g).toNat)
  case atStart => exact ⟨0, by omega, rfl, rfl, HT4.out, HB4.out, hM4⟩
  case round =>
    obtain ⟨k, hk, rfl, rfl, ht, hB, hM⟩ := hrel
    have HT := Lib.hid ht
    have HB := Lib.hid hB
    obtain ⟨k0, k1, k2, k3⟩ := Cfg.cells_at ht.b
    obtain ⟨x0, x1, x2, x3⟩ := Cfg.mcells_at ht.m
    clear ht hB
    by_cases hlt : (k : Int) < c.globs
    · have q1 := root_glob c HOK.out k hlt
      go_wp2_with fail
      go_region_held3 (fun w' => w'.cell? ⟨w.heap.size, 0, none⟩ = some (.int .i64 c.cells) ∧ w'.cell? ⟨w.heap.size, 1, none⟩ = some (.int .i64 c.muts) ∧ w'.cell? ⟨w.heap.size, 2, none⟩ = some (.int .i64 c.regs) ∧ w'.cell? ⟨w.heap.size, 3, none⟩ = some (.int .i64 c.globs) ∧ w'.cell? ⟨M, 0, none⟩ = some (.int .i64 c.cells) ∧ w'.cell? ⟨M, 1, none⟩ = some (.int .i64 c.muts) ∧ w'.cell? ⟨M, 2, none⟩ = some (.int .i64 c.regs) ∧ w'.cell? ⟨M, 3, none⟩ = some (.int .i64 c.globs) ∧ M + 1 ≤ w'.heap.size ∧ Below (M + 1) wr w')
        (first
          | exact ⟨k0, k1, k2, k3, x0, x1, x2, x3, hM, (Below.refl _ _).drew⟩
          | (go_split_ands; refine ⟨?_, ?_, ?_, ?_, ?_, ?_, ?_, ?_, ?_, ?_⟩ <;> first | (rw [hb2.cell (by first | (simp; done) | (simp; omega))]; assumption) | exact Below.trans (by assumption) (hb2.mono (by first | assumption | (simp; done) | (simp at *; omega))) | exact Nat.le_trans (by first | assumption | (simp; done) | (simp at *; omega)) hb2.size))
        (first | (go_at_call 11; refine (root_any _ c _).mono ?_; rintro e w2 ⟨rfl, hb2⟩) | (go_at_call 12; refine (glob_any _ c _).mono ?_; rintro e w2 ⟨rfl, hb2⟩))
      all_goals
        go_wp2_with fail
        go_roundw
        case rel =>
          go_split_ands
          exact ⟨k + 1, by omega, by go_num, by go_num, HT.out.keep (n := M + 1) (by assumption) (by omega) (by omega), HB.out.trans (Below.mono (B := M + 1) (by assumption) (by omega)), by assumption⟩
        case measure => simp [intOf]; omega
    · have hke : (k : Int) = c.globs := by omega
      have HKE := Lib.hid hke
      clear hke
      go_wp2_with fail
      clear k0 k1 k2 k3 x0 x1 x2 x3
      go_loopw [5, 7, 8] (fun j i _ wr => ∃ (a : Nat) (J : Int), (a : Int) ≤ c.muts ∧ i = .int .i64 a ∧ j = .int .i64 J ∧ Hid (J = 1 + c.globs + a * c.regs) ∧ Two c w.heap.size M wr ∧ Below w.heap.size w wr ∧ M + 1 ≤ wr.heap.size) (fun _ i _ _ => c.muts.toNat - (intOf i).toNat)
      case atStart => exact ⟨0, k + 1, by omega, rfl, rfl, (show (k : Int) + 1 = 1 + c.globs + ((0 : Nat) : Int) * c.regs by have := HKE.out; simp; omega), HT.out, HB.out, hM⟩
      case round =>
        obtain ⟨a, J, ha, rfl, rfl, HJ, ht, hB, hM⟩ := hrel
        have HT' := Lib.hid ht
        have HB' := Lib.hid hB
        obtain ⟨k0, k1, k2, k3⟩ := Cfg.cells_at ht.b
        obtain ⟨x0, x1, x2, x3⟩ := Cfg.mcells_at ht.m
        clear ht hB
        by_cases hlt2 : (a : Int) < c.muts
        · go_wp2_with fail
          clear k0 k1 k2 k3 x0 x1 x2 x3
          go_loopw [5, 8] (fun j r wr => ∃ (b : Nat) (J : Int), (b : Int) ≤ c.regs ∧ r = .int .i64 b ∧ j = .int .i64 J ∧ Hid (J = 1 + c.globs + a * c.regs + b) ∧ Two c w.heap.size M wr ∧ Below w.heap.size w wr ∧ M + 1 ≤ wr.heap.size) (fun _ r _ => c.regs.toNat - (intOf r).toNat)
          case atStart => exact ⟨0, J, by omega, rfl, rfl, (by have := HJ.out; unfold Hid; simp; omega), HT'.out, HB'.out, hM⟩
          case round =>
            obtain ⟨b, J', hb, rfl, rfl, HJ', ht, hB, hM⟩ := hrel
            have HT2 := Lib.hid ht
            have HB2 := Lib.hid hB
            obtain ⟨k0, k1, k2, k3⟩ := Cfg.cells_at ht.b
            obtain ⟨x0, x1, x2, x3⟩ := Cfg.mcells_at ht.m
            clear ht hB
            by_cases hlt3 : (b : Int) < c.regs
            · have hrr := root_reg c HOK.out a b hlt2 hlt3 _ rfl
              have hjj := HJ'.out
              obtain ⟨m, hm⟩ : ∃ m : Int, m = (a : Int) * c.regs := ⟨_, rfl⟩
              rw [← hm] at hrr hjj
              have hmm := mul_bd (a := (a : Int)) (b := c.regs) (x := 63) (y := 64) (by omega) (by omega) (by omega) (by omega)
              rw [← hm] at hmm
              rw [← hjj] at hrr
              have hmx : m + c.regs ≤ c.muts * c.regs := by
                have h1 : ((a : Int) + 1) * c.regs ≤ c.muts * c.regs := Int.mul_le_mul_of_nonneg_right (by omega) (by omega)
                rw [Int.add_mul, ← hm] at h1
                omega
              obtain ⟨X, hX⟩ : ∃ X : Int, X = 5 + c.muts + c.globs + m + b := ⟨_, rfl⟩
              rw [← hX] at hrr
              obtain ⟨hr1, q2⟩ := hrr
              have q1 : c.reg_ a b = X := by rw [← hr1, q2]
              have hXr : 4 + c.muts + J' = X := by omega
              have hJ1 : 1 ≤ J' := by omega
              have hJ2 : J' ≤ 10000 := by omega
              have hX1 : 0 ≤ X := by omega
              have hX2 : X ≤ 20000 := by omega
              have HX := Lib.hid hX
              have HM := Lib.hid hm
              have HXR := Lib.hid hXr
              have HJJ := Lib.hid hjj
              clear hX hm hXr hr1 hmm hjj
              by_cases hj : 1 < J'
              · have q3 : c.root_ (J' - 1) = X - 1 := by
                  have e1 := HXR.out
                  have e2 := HJJ.out
                  have e3 : J' - 1 < 1 + c.globs + c.muts * c.regs := by omega
                  rw [c.root_ok HOK.out _ (by omega) (by omega), if_neg (by omega), if_pos e3]
                  omega
                have dj : decide (1 < J') = true := by simpa using hj
                have s1 : IntKind.i64.wrap (J' - 1) = J' - 1 := IntWalk.i64_in _ (by omega)
                have s2 : IntKind.i64.wrap (X - 1 + 1) = X - 1 + 1 := IntWalk.i64_in _ (by omega)
                have s3 : X - 1 + 1 = X := by omega
                have s4 : IntKind.i64.wrap X = X := IntWalk.i64_in _ (by omega)
                clear hj
                go_wp2_with fail
                go_region_held3 (fun w' => w'.cell? ⟨w.heap.size, 0, none⟩ = some (.int .i64 c.cells) ∧ w'.cell? ⟨w.heap.size, 1, none⟩ = some (.int .i64 c.muts) ∧ w'.cell? ⟨w.heap.size, 2, none⟩ = some (.int .i64 c.regs) ∧ w'.cell? ⟨w.heap.size, 3, none⟩ = some (.int .i64 c.globs) ∧ w'.cell? ⟨M, 0, none⟩ = some (.int .i64 c.cells) ∧ w'.cell? ⟨M, 1, none⟩ = some (.int .i64 c.muts) ∧ w'.cell? ⟨M, 2, none⟩ = some (.int .i64 c.regs) ∧ w'.cell? ⟨M, 3, none⟩ = some (.int .i64 c.globs) ∧ M + 1 ≤ w'.heap.size ∧ Below (M + 1) wr w')
                  (first
                    | exact ⟨k0, k1, k2, k3, x0, x1, x2, x3, hM, (Below.refl _ _).drew⟩
                    | (go_split_ands; refine ⟨?_, ?_, ?_, ?_, ?_, ?_, ?_, ?_, ?_, ?_⟩ <;> first | (rw [hb2.cell (by first | (simp; done) | (simp; omega))]; assumption) | exact Below.trans (by assumption) (hb2.mono (by first | assumption | (simp; done) | (simp at *; omega))) | exact Nat.le_trans (by first | assumption | (simp; done) | (simp at *; omega)) hb2.size))
                  (first | (go_at_call 11; refine (root_any _ c _).mono ?_; rintro e w2 ⟨rfl, hb2⟩) | (go_at_call 13; refine (reg_any _ c _ _).mono ?_; rintro e w2 ⟨rfl, hb2⟩))
                clear s1 s2 s3 s4
                all_goals
                  go_wp2_with fail
                  go_roundw
                  case rel =>
                    go_split_ands
                    exact ⟨b + 1, J' + 1, by omega, by go_num, by go_num, (show J' + 1 = 1 + c.globs + (a : Int) * c.regs + ((b + 1 : Nat) : Int) by have := HJ'.out; omega), HT2.out.keep (n := M + 1) (by assumption) (by omega) (by omega), HB2.out.trans (Below.mono (B := M + 1) (by assumption) (by omega)), by assumption⟩
                  case measure => simp [intOf]; omega
              · have dj : decide (1 < J') = false := by simpa using hj
                clear hj
                go_wp2_with fail
                refine wp_region_held_drew (S := (fun w' => w'.cell? ⟨w.heap.size, 0, none⟩ = some (.int .i64 c.cells) ∧ w'.cell? ⟨w.heap.size, 1, none⟩ = some (.int .i64 c.muts) ∧ w'.cell? ⟨w.heap.size, 2, none⟩ = some (.int .i64 c.regs) ∧ w'.cell? ⟨w.heap.size, 3, none⟩ = some (.int .i64 c.globs) ∧ w'.cell? ⟨M, 0, none⟩ = some (.int .i64 c.cells) ∧ w'.cell? ⟨M, 1, none⟩ = some (.int .i64 c.muts) ∧ w'.cell? ⟨M, 2, none⟩ = some (.int .i64 c.regs) ∧ w'.cell? ⟨M, 3, none⟩ = some (.int .i64 c.globs) ∧ M + 1 ≤ w'.heap.size ∧ Below (M + 1) wr w')) (by kernel_rfl) ?_ (fun hHeld => ?_)
                · exact ⟨k0, k1, k2, k3, x0, x1, x2, x3, hM, (Below.refl _ _).drew⟩
                refine wpAnyH_take (i := 0) (oi := ?oi1) (v := ?v1) ?hi1 (by kernel_rfl) (by kernel_rfl) (by kernel_rfl) ?hq1 (Or.inl ⟨?hw1, ?hy1⟩) (by assumption) ?rest1
                case hi1 => simp only [List.getElem?_toArray, List.getElem?_cons_succ, List.getElem?_cons_zero]; rfl
                case hq1 => exact fun _ _ _ h => h
                case hw1 => kernel_rfl
                case hy1 => (intro w hSw; (try dsimp only at hSw); go_simp; try with_reducible rfl)
                try simp only [Act.put, List.setIfInBounds_toArray, List.set_cons_zero, List.set_cons_succ]
                refine wpAnyH_take (i := 1) (oi := ?oi2) (v := ?v2) ?hi2 (by kernel_rfl) (by kernel_rfl) (by kernel_rfl) ?hq2 (Or.inl ⟨?hw2, ?hy2⟩) (by assumption) ?rest2
                case hi2 => simp only [List.getElem?_toArray, List.getElem?_cons_succ, List.getElem?_cons_zero]; rfl
                case hq2 => exact fun _ _ _ h => h
                case hw2 => kernel_rfl
                case hy2 => (intro w hSw; (try dsimp only at hSw); go_simp; try with_reducible rfl)
                try simp only [Act.put, List.setIfInBounds_toArray, List.set_cons_zero, List.set_cons_succ]
                refine wpAnyH_take (i := 3) (oi := ?oi3) (v := ?v3) ?hi3 (by kernel_rfl) (by kernel_rfl) (by kernel_rfl) ?hq3 (Or.inl ⟨?hw3, ?hy3⟩) (by assumption) ?rest3
                case hi3 => simp only [List.getElem?_toArray, List.getElem?_cons_succ, List.getElem?_cons_zero]; rfl
                case hq3 => exact fun _ _ _ h => h
                case hw3 => kernel_rfl
                case hy3 => (intro w hSw; (try dsimp only at hSw); go_simp; try with_reducible rfl)
                try simp only [Act.put, List.setIfInBounds_toArray, List.set_cons_zero, List.set_cons_succ]
                refine wpAnyH_take (i := 4) (oi := ?oi4) (v := ?v4) ?hi4 (by kernel_rfl) (by kernel_rfl) (by kernel_rfl) ?hq4 (Or.inl ⟨?hw4, ?hy4⟩) (by assumption) ?rest4
                case hi4 => simp only [List.getElem?_toArray, List.getElem?_cons_succ, List.getElem?_cons_zero]; rfl
                case hq4 => exact fun _ _ _ h => h
                case hw4 => kernel_rfl
                case hy4 => (intro w hSw; (try dsimp only at hSw); go_simp; try with_reducible rfl)
                try simp only [Act.put, List.setIfInBounds_toArray, List.set_cons_zero, List.set_cons_succ]
                refine wpAnyH_take (i := 5) (oi := ?oi5) (v := ?v5) ?hi5 (by kernel_rfl) (by kernel_rfl) (by kernel_rfl) ?hq5 (Or.inl ⟨?hw5, ?hy5⟩) (by assumption) ?rest5
                case hi5 => simp only [List.getElem?_toArray, List.getElem?_cons_succ, List.getElem?_cons_zero]; rfl
                case hq5 => exact fun _ _ _ h => h
                case hw5 => kernel_rfl
                case hy5 => (intro w hSw; (try dsimp only at hSw); go_simp; try with_reducible rfl)
                try simp only [Act.put, List.setIfInBounds_toArray, List.set_cons_zero, List.set_cons_succ]
                refine wpAnyH_ready (rs := [2]) (by kernel_rfl) (by simp) ?_
                refine AllReadyH.cons (o := ?o6) ?ho6 (fun K hK => ?st6) AllReadyH.nil
                case ho6 => simp only [List.getElem?_toArray, List.getElem?_cons_succ, List.getElem?_cons_zero]; rfl
                go_simp
                (first | (go_at_call 11; refine (root_any _ c _).mono ?_; rintro e w2 ⟨rfl, hb2⟩) | (go_at_call 13; refine (reg_any _ c _ _).mono ?_; rintro e w2 ⟨rfl, hb2⟩))
                try go_simp
                refine hK.out _ _ ?_ (fun hHeld => ?_)
                · (first | exact ⟨k0, k1, k2, k3, x0, x1, x2, x3, hM, (Below.refl _ _).drew⟩ | (go_split_ands; refine ⟨?_, ?_, ?_, ?_, ?_, ?_, ?_, ?_, ?_, ?_⟩ <;> first | (rw [hb2.cell (by first | (simp; done) | (simp; omega))]; assumption) | exact Below.trans (by assumption) (hb2.mono (by first | assumption | (simp; done) | (simp at *; omega))) | exact Nat.le_trans (by first | assumption | (simp; done) | (simp at *; omega)) hb2.size))
                clear hK K
                try simp only [Act.put, List.setIfInBounds_toArray, List.set_cons_zero, List.set_cons_succ]
                refine wpAnyH_ready (rs := [6]) (by kernel_rfl) (by simp) ?_
                refine AllReadyH.cons (o := ?o7) ?ho7 (fun K hK => ?st7) AllReadyH.nil
                case ho7 => simp only [List.getElem?_toArray, List.getElem?_cons_succ, List.getElem?_cons_zero]; rfl
                go_simp
                (first | (go_at_call 11; refine (root_any _ c _).mono ?_; rintro e w2 ⟨rfl, hb2⟩) | (go_at_call 13; refine (reg_any _ c _ _).mono ?_; rintro e w2 ⟨rfl, hb2⟩))
                try go_simp
                refine hK.out _ _ ?_ (fun hHeld => ?_)
                · (first | exact ⟨k0, k1, k2, k3, x0, x1, x2, x3, hM, (Below.refl _ _).drew⟩ | (go_split_ands; refine ⟨?_, ?_, ?_, ?_, ?_, ?_, ?_, ?_, ?_, ?_⟩ <;> first | (rw [hb2.cell (by first | (simp; done) | (simp; omega))]; assumption) | exact Below.trans (by assumption) (hb2.mono (by first | assumption | (simp; done) | (simp at *; omega))) | exact Nat.le_trans (by first | assumption | (simp; done) | (simp at *; omega)) hb2.size))
                clear hK K
                try simp only [Act.put, List.setIfInBounds_toArray, List.set_cons_zero, List.set_cons_succ]
                refine wpAnyH_take (i := 7) (oi := ?oi8) (v := ?v8) ?hi8 (by kernel_rfl) (by kernel_rfl) (by kernel_rfl) ?hq8 (Or.inl ⟨?hw8, ?hy8⟩) (by assumption) ?rest8
                case hi8 => simp only [List.getElem?_toArray, List.getElem?_cons_succ, List.getElem?_cons_zero]; rfl
                case hq8 => exact fun _ _ _ h => h
                case hw8 => kernel_rfl
                case hy8 => (intro w hSw; (try dsimp only at hSw); go_simp; try with_reducible rfl)
                try simp only [Act.put, List.setIfInBounds_toArray, List.set_cons_zero, List.set_cons_succ]
                refine wpAnyH_take (i := 8) (oi := ?oi9) (v := ?v9) ?hi9 (by kernel_rfl) (by kernel_rfl) (by kernel_rfl) ?hq9 (Or.inl ⟨?hw9, ?hy9⟩) (by assumption) ?rest9
                case hi9 => simp only [List.getElem?_toArray, List.getElem?_cons_succ, List.getElem?_cons_zero]; rfl
                case hq9 => exact fun _ _ _ h => h
                case hw9 => kernel_rfl
                case hy9 => (intro w hSw; (try dsimp only at hSw); go_simp; try with_reducible rfl)
                try simp only [Act.put, List.setIfInBounds_toArray, List.set_cons_zero, List.set_cons_succ]
                refine wpAnyH_take (i := 9) (oi := ?oi10) (v := ?v10) ?hi10 (by kernel_rfl) (by kernel_rfl) (by kernel_rfl) ?hq10 (Or.inl ⟨?hw10, ?hy10⟩) (by assumption) ?rest10
                case hi10 => simp only [List.getElem?_toArray, List.getElem?_cons_succ, List.getElem?_cons_zero]; rfl
                case hq10 => exact fun _ _ _ h => h
                case hw10 => kernel_rfl
                case hy10 => (intro w hSw; (try dsimp only at hSw); go_simp; try with_reducible rfl)
                try simp only [Act.put, List.setIfInBounds_toArray, List.set_cons_zero, List.set_cons_succ]
                refine wpAnyH_take (i := 10) (oi := ?oi11) (v := ?v11) ?hi11 (by kernel_rfl) (by kernel_rfl) (by kernel_rfl) ?hq11 (Or.inl ⟨?hw11, ?hy11⟩) (by assumption) ?rest11
                case hi11 => simp only [List.getElem?_toArray, List.getElem?_cons_succ, List.getElem?_cons_zero]; rfl
                case hq11 => exact fun _ _ _ h => h
                case hw11 => kernel_rfl
                case hy11 => (intro w hSw; (try dsimp only at hSw); go_simp; try with_reducible rfl)
                try simp only [Act.put, List.setIfInBounds_toArray, List.set_cons_zero, List.set_cons_succ]
                refine wpAnyH_take (i := 11) (oi := ?oi12) (v := ?v12) ?hi12 (by kernel_rfl) (by kernel_rfl) (by kernel_rfl) ?hq12 (Or.inl ⟨?hw12, ?hy12⟩) (by assumption) ?rest12
                case hi12 => simp only [List.getElem?_toArray, List.getElem?_cons_succ, List.getElem?_cons_zero]; rfl
                case hq12 => exact fun _ _ _ h => h
                case hw12 => kernel_rfl
                case hy12 => (intro w hSw; (try dsimp only at hSw); go_simp; try with_reducible rfl)
                try simp only [Act.put, List.setIfInBounds_toArray, List.set_cons_zero, List.set_cons_succ]
                refine wpAnyH_take (i := 12) (oi := ?oi13) (v := undef) ?hi13 (by kernel_rfl) (by kernel_rfl) (by kernel_rfl) ?hq13 (Or.inr ⟨?hw13, rfl⟩) (by assumption) ?rest13
                case hi13 => simp only [List.getElem?_toArray, List.getElem?_cons_succ, List.getElem?_cons_zero]; rfl
                case hq13 => exact fun _ _ _ h => h
                case hw13 => kernel_rfl
                try simp only [Act.put, List.setIfInBounds_toArray, List.set_cons_zero, List.set_cons_succ]
                refine wpAnyH_take (i := 13) (oi := ?oi14) (v := undef) ?hi14 (by kernel_rfl) (by kernel_rfl) (by kernel_rfl) ?hq14 (Or.inr ⟨?hw14, rfl⟩) (by assumption) ?rest14
                case hi14 => simp only [List.getElem?_toArray, List.getElem?_cons_succ, List.getElem?_cons_zero]; rfl
                case hq14 => exact fun _ _ _ h => h
                case hw14 => kernel_rfl
                try simp only [Act.put, List.setIfInBounds_toArray, List.set_cons_zero, List.set_cons_succ]
                refine wpAnyH_take (i := 14) (oi := ?oi15) (v := undef) ?hi15 (by kernel_rfl) (by kernel_rfl) (by kernel_rfl) ?hq15 (Or.inr ⟨?hw15, rfl⟩) (by assumption) ?rest15
                case hi15 => simp only [List.getElem?_toArray, List.getElem?_cons_succ, List.getElem?_cons_zero]; rfl
                case hq15 => exact fun _ _ _ h => h
                case hw15 => kernel_rfl
                try simp only [Act.put, List.setIfInBounds_toArray, List.set_cons_zero, List.set_cons_succ]
                refine wpAnyH_take (i := 15) (oi := ?oi16) (v := undef) ?hi16 (by kernel_rfl) (by kernel_rfl) (by kernel_rfl) ?hq16 (Or.inr ⟨?hw16, rfl⟩) (by assumption) ?rest16
                case hi16 => simp only [List.getElem?_toArray, List.getElem?_cons_succ, List.getElem?_cons_zero]; rfl
                case hq16 => exact fun _ _ _ h => h
                case hw16 => kernel_rfl
                try simp only [Act.put, List.setIfInBounds_toArray, List.set_cons_zero, List.set_cons_succ]
                refine wpAnyH_take (i := 16) (oi := ?oi17) (v := undef) ?hi17 (by kernel_rfl) (by kernel_rfl) (by kernel_rfl) ?hq17 (Or.inr ⟨?hw17, rfl⟩) (by assumption) ?rest17
                case hi17 => simp only [List.getElem?_toArray, List.getElem?_cons_succ, List.getElem?_cons_zero]; rfl
                case hq17 => exact fun _ _ _ h => h
                case hw17 => kernel_rfl
                try simp only [Act.put, List.setIfInBounds_toArray, List.set_cons_zero, List.set_cons_succ]
                refine wpAnyH_take (i := 17) (oi := ?oi18) (v := undef) ?hi18 (by kernel_rfl) (by kernel_rfl) (by kernel_rfl) ?hq18 (Or.inr ⟨?hw18, rfl⟩) (by assumption) ?rest18
                case hi18 => simp only [List.getElem?_toArray, List.getElem?_cons_succ, List.getElem?_cons_zero]; rfl
                case hq18 => exact fun _ _ _ h => h
                case hw18 => kernel_rfl
                try simp only [Act.put, List.setIfInBounds_toArray, List.set_cons_zero, List.set_cons_succ]
                refine wpAnyH_take (i := 18) (oi := ?oi19) (v := undef) ?hi19 (by kernel_rfl) (by kernel_rfl) (by kernel_rfl) ?hq19 (Or.inr ⟨?hw19, rfl⟩) (by assumption) ?rest19
                case hi19 => simp only [List.getElem?_toArray, List.getElem?_cons_succ, List.getElem?_cons_zero]; rfl
                case hq19 => exact fun _ _ _ h => h
                case hw19 => kernel_rfl
                try simp only [Act.put, List.setIfInBounds_toArray, List.set_cons_zero, List.set_cons_succ]
                refine wpAnyH_take (i := 19) (oi := ?oi20) (v := undef) ?hi20 (by kernel_rfl) (by kernel_rfl) (by kernel_rfl) ?hq20 (Or.inr ⟨?hw20, rfl⟩) (by assumption) ?rest20
                case hi20 => simp only [List.getElem?_toArray, List.getElem?_cons_succ, List.getElem?_cons_zero]; rfl
                case hq20 => exact fun _ _ _ h => h
                case hw20 => kernel_rfl
                try simp only [Act.put, List.setIfInBounds_toArray, List.set_cons_zero, List.set_cons_succ]
                refine wpAnyH_take (i := 20) (oi := ?oi21) (v := undef) ?hi21 (by kernel_rfl) (by kernel_rfl) (by kernel_rfl) ?hq21 (Or.inr ⟨?hw21, rfl⟩) (by assumption) ?rest21
                case hi21 => simp only [List.getElem?_toArray, List.getElem?_cons_succ, List.getElem?_cons_zero]; rfl
                case hq21 => exact fun _ _ _ h => h
                case hw21 => kernel_rfl
                try simp only [Act.put, List.setIfInBounds_toArray, List.set_cons_zero, List.set_cons_succ]
                refine wpAnyH_take (i := 21) (oi := ?oi22) (v := ?v22) ?hi22 (by kernel_rfl) (by kernel_rfl) (by kernel_rfl) ?hq22 (Or.inl ⟨?hw22, ?hy22⟩) (by assumption) ?rest22
                case hi22 => simp only [List.getElem?_toArray, List.getElem?_cons_succ, List.getElem?_cons_zero]; rfl
                case hq22 => exact fun _ _ _ h => h
                case hw22 => kernel_rfl
                case hy22 => (intro w hSw; (try dsimp only at hSw); go_simp; try with_reducible rfl)
                try simp only [Act.put, List.setIfInBounds_toArray, List.set_cons_zero, List.set_cons_succ]
                refine wpAnyH_take (i := 22) (oi := ?oi23) (v := ?v23) ?hi23 (by kernel_rfl) (by kernel_rfl) (by kernel_rfl) ?hq23 (Or.inl ⟨?hw23, ?hy23⟩) (by assumption) ?rest23
                case hi23 => simp only [List.getElem?_toArray, List.getElem?_cons_succ, List.getElem?_cons_zero]; rfl
                case hq23 => exact fun _ _ _ h => h
                case hw23 => kernel_rfl
                case hy23 => (intro w hSw; (try dsimp only at hSw); go_simp; try with_reducible rfl)
                try simp only [Act.put, List.setIfInBounds_toArray, List.set_cons_zero, List.set_cons_succ]
                refine wpAnyH_done (by kernel_rfl) ?_ _
                all_goals
                  go_wp2_with fail
                  go_roundw
                  case rel =>
                    go_split_ands
                    exact ⟨b + 1, J' + 1, by omega, by go_num, by go_num, (show J' + 1 = 1 + c.globs + (a : Int) * c.regs + ((b + 1 : Nat) : Int) by have := HJ'.out; omega), HT2.out.keep (n := M + 1) (by assumption) (by omega) (by omega), HB2.out.trans (Below.mono (B := M + 1) (by assumption) (by omega)), by assumption⟩
                  case measure => simp [intOf]; omega
            · have hbe : (b : Int) = c.regs := by omega
              have HBE := Lib.hid hbe
              clear hbe
              go_wp2_with fail
              go_roundw
              case rel => exact ⟨a + 1, J', by omega, by go_num, rfl, (show J' = 1 + c.globs + ((a + 1 : Nat) : Int) * c.regs by have h1 := HJ'.out; have h2 := HBE.out; rw [Int.natCast_add, Int.add_mul]; omega), HT2.out, HB2.out, hM⟩
              case measure => simp [intOf]; omega
        · have hae : (a : Int) = c.muts := by omega
          have hjr : J = c.roots := by rw [HJ.out, hae, (root_end c HOK.out).2]
          have HRE := Lib.hid (root_end c HOK.out)
          subst hjr
          have q1 : c.root_ c.roots = -1 := HRE.out.1
          clear hae
          go_wp2_with fail
          refine (root_any _ c _).mono ?_
          rintro e w5 ⟨rfl, hb⟩
          rw [HRE.out.1]
          have HB5 : Hid (Below w.heap.size w w5) := HB'.out.trans (hb.mono HB'.out.size)
          have HT5 := Lib.hid (HT'.out.keep hb (by omega) (by omega))
          clear k0 k1 k2 k3 x0 x1 x2 x3
          obtain ⟨k0, k1, k2, k3⟩ := Cfg.cells_at HT5.out.b
          clear hb
          go_wp2_with fail
          refine (refroots_any _ c).mono ?_
          rintro e w6 ⟨rfl, hb⟩
          have HB6 : Hid (Below w.heap.size w w6) := HB5.out.trans (hb.mono HB5.out.size)
          clear hb
          go_wp2_with fail
          go_ret
          exact ⟨rfl, HB6.out⟩
end Go.Proofs.Ytoapbfglpcebmaa

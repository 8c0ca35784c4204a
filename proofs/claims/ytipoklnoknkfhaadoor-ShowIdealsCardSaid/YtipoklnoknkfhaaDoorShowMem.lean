/- show: a memory as a source of pairs. -/
import Derived.Test.YtipoklnoknkfhaaDoorShow
import Derived.Deep.RegionHeld3
import Derived.Test.YtipoklnoknkfhaaDoorRefPl
import Derived.Test.YtipoklnoknkfhaaDoorWordAll
namespace Go.Proofs.YtipoklnoknkfhaaDoor
open Go Go.RowKit
set_option linter.unusedSimpArgs false
set_option linter.unusedVariables false

/-- the pairs of a memory -/
def prsOf (c : Cfg) (xs : List Int) : Prs := ⟨c.cells.toNat, fun i => wd xs (xs.length - 3 * c.cells.toNat + 3 * i), fun i => wd xs (xs.length - 3 * c.cells.toNat + 3 * i + 1)⟩
theorem wd_ok {xs : List Int} (hx : ∀ x ∈ xs, wok x) (k : Nat) : wok (wd xs k) := by
  unfold wd
  rw [List.getD_eq_getElem?_getD]
  by_cases h : k < xs.length
  · rw [List.getElem?_eq_getElem h]
    exact hx _ (List.getElem_mem h)
  · rw [List.getElem?_eq_none (by omega)]
    exact ⟨by decide, by decide⟩
theorem prsOf_fits (c : Cfg) (xs : List Int) (ok : c.ok = true) (hx : ∀ x ∈ xs, wok x) : (prsOf c xs).fits := by
  have h := c.ok_iff.1 ok
  exact ⟨by show c.cells.toNat ≤ 4096; omega, fun i _ => ⟨wd_ok hx _, wd_ok hx _⟩⟩
theorem car_at (c : Cfg) (ok : c.ok = true) (n : Nat) (hn : (n : Int) = c.words) (i : Nat) (hi : i < c.cells.toNat) : n - 3 * c.cells.toNat + 3 * i + 2 < n ∧ c.at_ c.c0 i c.cells 3 = ((n - 3 * c.cells.toNat + 3 * i : Nat) : Int) ∧ c.at_ (wrap64 (c.c0 + 1)) i c.cells 3 = ((n - 3 * c.cells.toNat + 3 * i + 1 : Nat) : Int) := by
  obtain ⟨e0, e1, e2⟩ := c.begin_ ok
  obtain ⟨_, _⟩ := c.mr ok
  obtain ⟨_, _, _, _, _, _, _, _⟩ := c.ok_iff.1 ok
  unfold Cfg.words Cfg.roots at hn
  rw [if_pos ok, if_pos ok] at hn
  rw [e2, wrap64_id (by omega) (by omega), c.at_ok ok _ _ _ _ (by omega) (by omega) (by omega) (by omega) (by omega), c.at_ok ok _ _ _ _ (by omega) (by omega) (by omega) (by omega) (by omega), if_pos (by omega), if_pos (by omega)]
  omega
set_option maxHeartbeats 4000000 in
set_option maxRecDepth 100000 in
theorem mpair_any (w : World) (c : Cfg) (A : Option Addr) (xs : List Int) (cp : Nat) (B : Nat) (x : Int) (hx : wok x) (ok : c.ok = true) (hn : (xs.length : Int) = c.words) (hB : B ≤ w.heap.size) (hxs : Words w B A xs) :
    Calls Tryd.prog 195 #[.agg #[.int .i64 c.cells, .int .i64 c.muts, .int .i64 c.regs, .int .i64 c.globs, .slice A xs.length cp], .int .u64 x] w fun e w' => e = .returned (pairV (prsOf c xs) x) ∧ Below w.heap.size w w' := by
  have HX := Lib.hid hx
  have HXS := Lib.hid hxs
  have HOK := Lib.hid ok
  have HN := Lib.hid hn
  obtain ⟨hc1, hc2, _⟩ := c.ok_iff.1 ok
  have HB0 : Hid (Below w.heap.size w (w.alloc (.cells #[.int .i64 c.cells, .int .i64 c.muts, .int .i64 c.regs, .int .i64 c.globs, .slice A xs.length cp] 95))) := (Below.refl _ _).alloc (Nat.le_refl _) _
  have hbl := heap_alloc_new w (.cells #[.int .i64 c.cells, .int .i64 c.muts, .int .i64 c.regs, .int .i64 c.globs, .slice A xs.length cp] 95)
  have k0 := cell_of_block hbl 0
  have k1 := cell_of_block hbl 1
  have k2 := cell_of_block hbl 2
  have k3 := cell_of_block hbl 3
  have k4 := cell_of_block hbl 4
  clear hx hxs ok hn hbl
  by_cases hcell : x % 2 = 1 ∧ x < 8192
  case neg =>
    have HPV : Hid (pairV (prsOf c xs) x = .tuple #[.int .u64 0, .int .u64 0, .bool false]) := by
      unfold Hid pairV
      rw [if_neg]
      intro h
      obtain ⟨h1, h2⟩ := of_decide_eq_true h
      have : ((prsOf c xs).n : Int) ≤ 4096 := by show ((c.cells.toNat : Nat) : Int) ≤ 4096; omega
      exact hcell ⟨h1, by omega⟩
    have hd : decide (x % 2 = 1 ∧ x < 8192) = false := decide_eq_false hcell
    have hif : (if x % 2 = 1 ∧ x < 8192 then x / 2 else 0) = 0 := if_neg hcell
    rw [HPV.out]
    have HIC : Hid (∀ W, Calls Tryd.prog 141 #[.int .u64 x] W fun e w' => e = .returned (.tuple #[.int .i64 0, .bool false]) ∧ w' = W) := fun W => by have h := isCell_any W x HX.out.1 HX.out.2; rwa [hif, hd] at h
    clear hcell hif hd
    go_enter Tryd.func195, Tryd.ntmps195
    go_wp2_with fail
    refine (HIC.out _).mono ?_
    rintro e w1 ⟨rfl, hw1⟩
    obtain rfl := hw1.symm
    clear hw1
    go_wp2_with fail
    exact bodyPost_ret (results_tmp3 rfl _ _ _) rfl ⟨rfl, HB0.out⟩
  case pos =>
    have hd : decide (x % 2 = 1 ∧ x < 8192) = true := decide_eq_true hcell
    have hif : (if x % 2 = 1 ∧ x < 8192 then x / 2 else 0) = x / 2 := if_pos hcell
    have HX2 := Lib.hid hcell
    clear hcell
    by_cases hlt : x / 2 < c.cells
    case neg =>
      have HPV : Hid (pairV (prsOf c xs) x = .tuple #[.int .u64 0, .int .u64 0, .bool false]) := by
        unfold Hid pairV
        rw [if_neg]
        intro h
        obtain ⟨h1, h2⟩ := of_decide_eq_true h
        have h3 : x / 2 < ((c.cells.toNat : Nat) : Int) := h2
        omega
      have dge : decide (x / 2 ≥ c.cells) = true := by simp; omega
      have dge2 : decide (c.cells ≤ x / 2) = true := by simp; omega
      rw [HPV.out]
      have HIC : Hid (∀ W, Calls Tryd.prog 141 #[.int .u64 x] W fun e w' => e = .returned (.tuple #[.int .i64 (x / 2), .bool true]) ∧ w' = W) := fun W => by have h := isCell_any W x HX.out.1 HX.out.2; rwa [hif, hd] at h
      clear hlt hif hd
      generalize x / 2 = i at *
      go_enter Tryd.func195, Tryd.ntmps195
      go_wp2_with fail
      refine (HIC.out _).mono ?_
      rintro e w1 ⟨rfl, hw1⟩
      obtain rfl := hw1.symm
      clear hw1
      go_wp2_with fail
      exact bodyPost_ret (results_tmp3 rfl _ _ _) rfl ⟨rfl, HB0.out⟩
    case pos =>
      obtain ⟨i, hi⟩ : ∃ i : Nat, x / 2 = (i : Int) := ⟨(x / 2).toNat, by have := HX.out.1; omega⟩
      obtain ⟨hci, e1, e2⟩ := car_at c HOK.out xs.length HN.out i (by omega)
      have HPV : Hid (pairV (prsOf c xs) x = .tuple #[.int .u64 (wd xs (xs.length - 3 * c.cells.toNat + 3 * i)), .int .u64 (wd xs (xs.length - 3 * c.cells.toNat + 3 * i + 1)), .bool true]) := by
        unfold Hid pairV
        have his : (prsOf c xs).is x = true := decide_eq_true ⟨HX2.out.1, by show x / 2 < ((c.cells.toNat : Nat) : Int); omega⟩
        rw [if_pos his, hi, Int.toNat_natCast]
        rfl
      have dge : decide ((i : Int) ≥ c.cells) = false := by simp; omega
      have dge2 : decide (c.cells ≤ (i : Int)) = false := by simp; omega
      rw [HPV.out]
      have HIC : Hid (∀ W, Calls Tryd.prog 141 #[.int .u64 x] W fun e w' => e = .returned (.tuple #[.int .i64 (i : Int), .bool true]) ∧ w' = W) := fun W => by have h := isCell_any W x HX.out.1 HX.out.2; rwa [hif, hd, hi] at h
      clear hif hd
      have HCA := fun w => car_any w c (i : Int)
      have HCD := fun w => cdr_any w c (i : Int)
      rw [e1] at HCA
      rw [e2] at HCD
      have HC1 := Lib.hid HCA
      have HC2 := Lib.hid HCD
      generalize xs.length - 3 * c.cells.toNat + 3 * i = j at *
      obtain ⟨j2, hj2⟩ : ∃ j2, j2 = j + 1 := ⟨_, rfl⟩
      rw [← hj2] at HPV HC2 ⊢
      have hjl : j2 < xs.length := by omega
      have hjl1 : j < xs.length := by omega
      clear hlt HCA HCD hi e1 e2 hj2 hci
      obtain ⟨ad, rfl, hadB, hca⟩ := HXS.out.cell (Below.refl _ _) hjl1
      obtain ⟨ad2, e9, hadB2, hcd⟩ := HXS.out.cell (Below.refl _ _) hjl
      cases e9
      go_enter Tryd.func195, Tryd.ntmps195
      go_wp2_with fail
      refine (HIC.out _).mono ?_
      rintro e w1 ⟨rfl, hw1⟩
      obtain rfl := hw1.symm
      clear hw1
      go_wp2_with fail
      obtain ⟨W0, hW0⟩ : ∃ W0, W0 = w.alloc (.cells #[.int .i64 c.cells, .int .i64 c.muts, .int .i64 c.regs, .int .i64 c.globs, .slice (some ad) xs.length cp] 95) := ⟨_, rfl⟩
      have hz : W0.heap.size = w.heap.size + 1 := by rw [hW0]; simp
      have hcj : W0.cell? (ad.add j) = some (.int .u64 (wd xs j)) := by rw [hW0]; exact ((Below.refl w.heap.size w).alloc (Nat.le_refl _) _ |>.cell (by rw [block_of_add]; omega)).trans hca
      have hcj2 : W0.cell? (ad.add j2) = some (.int .u64 (wd xs j2)) := by rw [hW0]; exact ((Below.refl w.heap.size w).alloc (Nat.le_refl _) _ |>.cell (by rw [block_of_add]; omega)).trans hcd
      rw [← hW0] at HB0 k0 k1 k2 k3 k4 ⊢
      have HALL : Hid (∀ W, Below (w.heap.size + 1) W0 W → W.cell? ⟨w.heap.size, 0, none⟩ = some (.int .i64 c.cells) ∧ W.cell? ⟨w.heap.size, 1, none⟩ = some (.int .i64 c.muts) ∧ W.cell? ⟨w.heap.size, 2, none⟩ = some (.int .i64 c.regs) ∧ W.cell? ⟨w.heap.size, 3, none⟩ = some (.int .i64 c.globs) ∧ W.cell? ⟨w.heap.size, 4, none⟩ = some (.slice (some ad) xs.length cp) ∧ W.cell? (ad.add j) = some (.int .u64 (wd xs j)) ∧ W.cell? (ad.add j2) = some (.int .u64 (wd xs j2)) ∧ Below (w.heap.size + 1) W0 W) := fun W hb =>
        ⟨(hb.cell (by simp)).trans k0, (hb.cell (by simp)).trans k1, (hb.cell (by simp)).trans k2, (hb.cell (by simp)).trans k3, (hb.cell (by simp)).trans k4, (hb.cell (by rw [block_of_add]; omega)).trans hcj, (hb.cell (by rw [block_of_add]; omega)).trans hcj2, hb⟩
      have i1 : (0 : Int) ≤ (j : Int) := by omega
      have i2 : (j : Int) < (xs.length : Int) := by omega
      have i3 : (0 : Int) ≤ (j2 : Int) := by omega
      have i4 : (j2 : Int) < (xs.length : Int) := by omega
      have HZ := Lib.hid hz
      clear hW0 hca hcd hcj hcj2 k0 k1 k2 k3 k4 hz
      go_region_held3 (fun W => W.cell? ⟨w.heap.size, 0, none⟩ = some (.int .i64 c.cells) ∧ W.cell? ⟨w.heap.size, 1, none⟩ = some (.int .i64 c.muts) ∧ W.cell? ⟨w.heap.size, 2, none⟩ = some (.int .i64 c.regs) ∧ W.cell? ⟨w.heap.size, 3, none⟩ = some (.int .i64 c.globs) ∧ W.cell? ⟨w.heap.size, 4, none⟩ = some (.slice (some ad) xs.length cp) ∧ W.cell? (ad.add j) = some (.int .u64 (wd xs j)) ∧ W.cell? (ad.add j2) = some (.int .u64 (wd xs j2)) ∧ Below (w.heap.size + 1) W0 W)
        (first
          | exact HALL.out _ (Below.refl _ _)
          | exact HALL.out _ (Below.refl _ _).drew
          | (go_split_ands; exact HALL.out _ (Below.trans (by assumption) (hb2.mono (by have h9 := HZ.out; have h8 := Below.size (show Below (w.heap.size + 1) W0 _ by assumption); omega)))))
        (first
          | (go_at_call 196; refine (HC1.out _).mono ?_; rintro e wq ⟨rfl, hb2⟩)
          | (go_at_call 197; refine (HC2.out _).mono ?_; rintro e wq ⟨rfl, hb2⟩))
      all_goals
        go_wp2_with fail
        go_ret3
        go_split_ands
        exact ⟨rfl, HB0.out.trans (Below.mono (show Below (w.heap.size + 1) W0 _ by assumption) (by omega))⟩
end Go.Proofs.YtipoklnoknkfhaaDoor

/- The document's answer for layer 29: words, written. -/
import Derived.Deep.RegionHeld3
import Derived.Test.YtipoklnoknkfhaaDoorShowPure
import Derived.Test.YtipoklnoknkfhaaDoorWordAll
namespace Go.Proofs.YtipoklnoknkfhaaDoor
open Go Go.RowKit
set_option linter.unusedSimpArgs false
set_option linter.unusedVariables false

/-- where pairs lie -/
structure PrsAt (w : World) (B : Nat) (p : Prs) (A D : Option Addr) : Prop where
  car : 0 < p.n → ∃ ad, A = some ad ∧ ad.block < B ∧ ∀ i, i < p.n → w.cell? (ad.add i) = some (.int .u64 (p.car i))
  cdr : 0 < p.n → ∃ ad, D = some ad ∧ ad.block < B ∧ ∀ i, i < p.n → w.cell? (ad.add i) = some (.int .u64 (p.cdr i))
theorem PrsAt.below {w w' : World} {B : Nat} {p : Prs} {A D : Option Addr} (h : PrsAt w B p A D) (hb : Below B w w') : PrsAt w' B p A D :=
  ⟨fun hp => by
    obtain ⟨ad, e, hB, hc⟩ := h.car hp
    exact ⟨ad, e, hB, fun i hi => (hb.cell (by rw [block_of_add]; exact hB)).trans (hc i hi)⟩, fun hp => by
    obtain ⟨ad, e, hB, hc⟩ := h.cdr hp
    exact ⟨ad, e, hB, fun i hi => (hb.cell (by rw [block_of_add]; exact hB)).trans (hc i hi)⟩⟩
def ratI (p : Prs) (x : Int) : Int := if p.is x = true then x / 2 else -1
set_option maxHeartbeats 2000000 in
theorem rat_any (w : World) (p : Prs) (A D : Option Addr) (cA cD : Nat) (x : Int) (hx : wok x) (hp : p.fits) :
    Calls Tryd.prog 90 #[.agg #[.slice A p.n cA, .slice D p.n cD], .int .u64 x] w fun e w' => e = .returned (.int .i64 (ratI p x)) ∧ Below w.heap.size w w' := by
  have hn := hp.1
  have hx' := hx
  obtain ⟨h0, h1⟩ := hx'
  have HB0 : Hid (Below w.heap.size w (w.alloc (.cells #[.slice A p.n cA, .slice D p.n cD] 40))) := (Below.refl _ _).alloc (Nat.le_refl _) _
  go_enter Tryd.func90, Tryd.ntmps90
  go_wp2_with fail
  all_goals
    go_ret
    exact ⟨by unfold ratI Prs.is; first | (rw [if_pos (decide_eq_true ⟨by assumption, by omega⟩)]; rfl) | (rw [if_neg (fun h => by have := of_decide_eq_true h; omega)]; rfl), HB0.out⟩
def RItemC (k : Nat) : Prop := ∀ (B : Nat) (A D : Option Addr) (cA cD : Nat) (p : Prs) (l : Nat) (x : Int) (w : World), p.fits → l < k → l ≤ 1000 → wok x → B ≤ w.heap.size → PrsAt w B p A D →
  Calls Tryd.prog 49 #[.agg #[.slice A p.n cA, .slice D p.n cD], .int .u64 x, .int .i64 l] w fun e w' => e = .returned (.tuple #[.string (wW p k false x l).1, .int .i64 (wW p k false x l).2]) ∧ Below w.heap.size w w'
def RRestC (k : Nat) : Prop := ∀ (B : Nat) (A D : Option Addr) (cA cD : Nat) (p : Prs) (l : Nat) (x : Int) (w : World), p.fits → l < k → l ≤ 1000 → wok x → B ≤ w.heap.size → PrsAt w B p A D →
  Calls Tryd.prog 92 #[.agg #[.slice A p.n cA, .slice D p.n cD], .int .u64 x, .int .i64 l] w fun e w' => e = .returned (.tuple #[.string (wW p k true x l).1, .int .i64 (wW p k true x l).2]) ∧ Below w.heap.size w w'
set_option maxHeartbeats 4000000 in
set_option maxRecDepth 100000 in
theorem ritem_step (k : Nat) (hI : RItemC k) (hR : RRestC k) : RItemC (k + 1) := by
  intro B A D cA cD p l x w hp hlk hl hx hB hs
  have HX := Lib.hid hx
  have HS := Lib.hid hs
  have HP := Lib.hid hp
  have HI := Lib.hid hI
  have HR := Lib.hid hR
  have HB0 : Hid (Below w.heap.size w (w.alloc (.cells #[.slice A p.n cA, .slice D p.n cD] 40))) := (Below.refl _ _).alloc (Nat.le_refl _) _
  have hbl0 := heap_alloc_new w (.cells #[.slice A p.n cA, .slice D p.n cD] 40)
  have HBL := Lib.hid hbl0
  have k0 := cell_of_block hbl0 0
  have k1 := cell_of_block hbl0 1
  have HAT := Lib.hid (fun w => rat_any w p A D cA cD x hx hp)
  clear hx hs hp hI hR hbl0
  by_cases hc : p.is x = true
  case neg =>
    have HE : Hid (wW p (k + 1) false x l = (wtext x, l)) := by unfold Hid; rw [wW, if_neg hc]
    have HRI : Hid (ratI p x = -1) := by unfold Hid ratI; rw [if_neg hc]
    rw [HE.out]
    clear hc
    go_enter Tryd.func49, Tryd.ntmps49
    go_wp2_with fail
    refine (HAT.out _).mono ?_
    rintro e w1 ⟨rfl, hb1⟩
    rw [HRI.out]
    have HB1 : Hid (Below w.heap.size w w1) := HB0.out.trans (hb1.mono (by simp))
    have hz1 := HB1.out.size
    clear hb1
    go_wp2_with fail
    refine (reftext_any _ x HX.out.1 HX.out.2).mono ?_
    rintro e w2 ⟨rfl, hb2⟩
    have HB2 : Hid (Below w.heap.size w w2) := HB1.out.trans (hb2.mono hz1)
    clear hb2
    go_wp2_with fail
    go_ret2
    exact ⟨rfl, HB2.out⟩
  case pos =>
    obtain ⟨i, hi9⟩ : ∃ i, i = (x / 2).toNat := ⟨_, rfl⟩
    have HRI : Hid (ratI p x = (i : Int)) := by unfold Hid ratI; rw [if_pos hc, hi9]; have := HX.out.1; omega
    have hi : i < p.n := by
      obtain ⟨c1, c2⟩ := of_decide_eq_true hc
      have := HX.out.1
      omega
    have tlt : decide ((i : Int) < 0) = false := by simp
    by_cases hl0 : l = 0
    · have HE : Hid (wW p (k + 1) false x l = (dots, 0)) := by unfold Hid; rw [wW, if_pos hc, if_pos hl0]
      have tl : ((l : Int) == 0) = true := by simp; omega
      rw [HE.out]
      clear hc hl0 hi hi9
      go_enter Tryd.func49, Tryd.ntmps49
      go_wp2_with fail
      refine (HAT.out _).mono ?_
      rintro e w1 ⟨rfl, hb1⟩
      rw [HRI.out]
      have HB1 : Hid (Below w.heap.size w w1) := HB0.out.trans (hb1.mono (by simp))
      clear hb1
      go_wp2_with fail
      go_ret2
      exact ⟨rfl, HB1.out⟩
    · obtain ⟨m, hm9⟩ : ∃ m, l = m + 1 := ⟨l - 1, by omega⟩
      have HE : Hid (wW p (k + 1) false x l = (lpar ++ (wW p k false (p.car i) m).1 ++ (wW p k true (p.cdr i) (wW p k false (p.car i) m).2).1 ++ rpar, (wW p k true (p.cdr i) (wW p k false (p.car i) m).2).2)) := by
        unfold Hid
        rw [wW, if_pos hc, if_neg hl0, hm9, Nat.add_sub_cancel, hi9]
      rw [HE.out]
      have HCA := Lib.hid (HP.out.2 _ hi).1
      have HCD := Lib.hid (HP.out.2 _ hi).2
      have hs1 := wW_size p HP.out k false (p.car i) m HCA.out
      have hl1 := wW_left p k false (p.car i) m
      have hs2 := wW_size p HP.out k true (p.cdr i) (wW p k false (p.car i) m).2 HCD.out
      have hl2 := wW_left p k true (p.cdr i) (wW p k false (p.car i) m).2
      have HII := HI.out B A D cA cD p m (p.car i)
      have HRR := HR.out B A D cA cD p (wW p k false (p.car i) m).2 (p.cdr i)
      obtain ⟨X, hX9⟩ : ∃ X, X = wW p k false (p.car i) m := ⟨_, rfl⟩
      rw [← hX9] at hs1 hl1 hs2 hl2 HII HRR ⊢
      obtain ⟨R, hR9⟩ : ∃ R, R = wW p k true (p.cdr i) X.2 := ⟨_, rfl⟩
      rw [← hR9] at hs2 hl2 HRR ⊢
      obtain ⟨a1, a2⟩ := X
      obtain ⟨r1, r2⟩ := R
      simp only at hs1 hl1 hs2 hl2 HII HRR ⊢
      have HI2 := Lib.hid HII
      have HR2 := Lib.hid HRR
      have tl : ((l : Int) == 0) = false := by simp; omega
      have sl : IntKind.i64.wrap ((l : Int) - 1) = (m : Int) := by rw [IntWalk.i64_in _ (by omega)]; omega
      have hm1 : m < k := by omega
      have hml : m + 1 ≤ l := by omega
      obtain ⟨adA, eA, hadA, hca⟩ := HS.out.car (by omega)
      obtain ⟨adD, eD, hadD, hcd⟩ := HS.out.cdr (by omega)
      have HA := Lib.hid (hca i hi)
      have HD := Lib.hid (hcd i hi)
      subst eA eD
      have i1 : (0 : Int) ≤ (i : Int) := by omega
      have i2 : (i : Int) < (p.n : Int) := by omega
      have z1 : ¬ 9223372036854775807 < 1 + a1.size := by omega
      have z2 : ¬ 9223372036854775807 < 1 + a1.size + r1.size := by omega
      have z3 : ¬ 9223372036854775807 < 1 + a1.size + r1.size + 1 := by omega
      clear hc hi hl0 hm9 HII HRR hX9 hR9 HE hca hcd hi9
      go_enter Tryd.func49, Tryd.ntmps49
      go_wp2_with fail
      refine (HAT.out _).mono ?_
      rintro e w1 ⟨rfl, hb1⟩
      rw [HRI.out]
      have HB1 : Hid (Below w.heap.size w w1) := HB0.out.trans (hb1.mono (by simp))
      have HBL1 := Lib.hid ((hb1.block _ (by simp)).trans HBL.out)
      have HBL1B := HB1
      clear hb1 k0 k1 HBL
      go_wp2_with fail
      have HALL : Hid (∀ W, Below w1.heap.size w1 W → W.cell? ⟨w.heap.size, 0, none⟩ = some (.slice (some adA) p.n cA) ∧ W.cell? ⟨w.heap.size, 1, none⟩ = some (.slice (some adD) p.n cD) ∧ W.cell? (adA.add i) = some (.int .u64 (p.car i)) ∧ W.cell? (adD.add i) = some (.int .u64 (p.cdr i)) ∧ Below w1.heap.size w1 W) := fun W hW => by
        have hh := (hW.block _ (block_lt HBL1.out)).trans HBL1.out
        exact ⟨cell_of_block hh 0, cell_of_block hh 1, ((HBL1B.out.trans (hW.mono HBL1B.out.size)).cell (by rw [block_of_add]; omega)).trans HA.out, ((HBL1B.out.trans (hW.mono HBL1B.out.size)).cell (by rw [block_of_add]; omega)).trans HD.out, hW⟩
      go_region_held3 (fun W => W.cell? ⟨w.heap.size, 0, none⟩ = some (.slice (some adA) p.n cA) ∧ W.cell? ⟨w.heap.size, 1, none⟩ = some (.slice (some adD) p.n cD) ∧ W.cell? (adA.add i) = some (.int .u64 (p.car i)) ∧ W.cell? (adD.add i) = some (.int .u64 (p.cdr i)) ∧ Below w1.heap.size w1 W)
        (first | exact HALL.out _ (Below.refl _ _) | exact HALL.out _ (Below.refl _ _).drew | (go_split_ands; exact HALL.out _ (Below.trans (by assumption) (hb2.mono (Below.size (by assumption))))) | fail)
        (first | (go_at_call 49; refine (HI2.out _ HP.out hm1 (by omega) HCA.out (Nat.le_trans hB (Below.size (HB1.out.drew))) (HS.out.below ((HB1.out.drew).mono hB))).mono ?_; rintro e wq ⟨rfl, hb2⟩))
      all_goals
        go_split_ands
        have HB2 : Hid (Below w.heap.size w wq) := HB1.out.trans (Below.mono (show Below w1.heap.size w1 wq by assumption) HB1.out.size)
        have HBL2 := Lib.hid ((Below.block (show Below w1.heap.size w1 wq by assumption) _ (block_lt HBL1.out)).trans HBL1.out)
        clear HALL
        go_wp2_with fail
        have HALL : Hid (∀ W, Below wq.heap.size wq W → W.cell? ⟨w.heap.size, 0, none⟩ = some (.slice (some adA) p.n cA) ∧ W.cell? ⟨w.heap.size, 1, none⟩ = some (.slice (some adD) p.n cD) ∧ W.cell? (adA.add i) = some (.int .u64 (p.car i)) ∧ W.cell? (adD.add i) = some (.int .u64 (p.cdr i)) ∧ Below wq.heap.size wq W) := fun W hW => by
          have hh := (hW.block _ (block_lt HBL2.out)).trans HBL2.out
          exact ⟨cell_of_block hh 0, cell_of_block hh 1, ((HB2.out.trans (hW.mono HB2.out.size)).cell (by rw [block_of_add]; omega)).trans HA.out, ((HB2.out.trans (hW.mono HB2.out.size)).cell (by rw [block_of_add]; omega)).trans HD.out, hW⟩
        go_region_held3 (fun W => W.cell? ⟨w.heap.size, 0, none⟩ = some (.slice (some adA) p.n cA) ∧ W.cell? ⟨w.heap.size, 1, none⟩ = some (.slice (some adD) p.n cD) ∧ W.cell? (adA.add i) = some (.int .u64 (p.car i)) ∧ W.cell? (adD.add i) = some (.int .u64 (p.cdr i)) ∧ Below wq.heap.size wq W)
          (first | exact HALL.out _ (Below.refl _ _) | exact HALL.out _ (Below.refl _ _).drew | (go_split_ands; exact HALL.out _ (Below.trans (by assumption) (hb2.mono (Below.size (by assumption))))) | fail)
          (first | (go_at_call 92; refine (HR2.out _ HP.out (by omega) (by omega) HCD.out (Nat.le_trans hB (Below.size (HB2.out.drew))) (HS.out.below ((HB2.out.drew).mono hB))).mono ?_; rintro e wr ⟨rfl, hb2⟩))
        all_goals
          go_split_ands
          have HB3 : Hid (Below w.heap.size w wr) := HB2.out.trans (Below.mono (show Below wq.heap.size wq wr by assumption) HB2.out.size)
          clear HALL
          go_wp2_with fail
          go_ret2
          exact ⟨rfl, HB3.out⟩
set_option maxHeartbeats 4000000 in
set_option maxRecDepth 100000 in
theorem rrest_step (k : Nat) (hI : RItemC k) (hR : RRestC k) : RRestC (k + 1) := by
  intro B A D cA cD p l x w hp hlk hl hx hB hs
  have HX := Lib.hid hx
  have HS := Lib.hid hs
  have HP := Lib.hid hp
  have HI := Lib.hid hI
  have HR := Lib.hid hR
  have HB0 : Hid (Below w.heap.size w (w.alloc (.cells #[.slice A p.n cA, .slice D p.n cD] 40))) := (Below.refl _ _).alloc (Nat.le_refl _) _
  have hbl0 := heap_alloc_new w (.cells #[.slice A p.n cA, .slice D p.n cD] 40)
  have HBL := Lib.hid hbl0
  have k0 := cell_of_block hbl0 0
  have k1 := cell_of_block hbl0 1
  have HAT := Lib.hid (fun w => rat_any w p A D cA cD x hx hp)
  clear hx hs hp hI hR hbl0
  by_cases hx0 : x = 0
  · have HE : Hid (wW p (k + 1) true x l = (⟨#[]⟩, l)) := by unfold Hid; rw [wW, if_pos hx0]
    have t0 : (x == 0) = true := by simpa using hx0
    rw [HE.out]
    clear hx0
    go_enter Tryd.func92, Tryd.ntmps92
    go_wp2_with fail
    go_ret2
    exact ⟨rfl, HB0.out⟩
  have t0 : (x == 0) = false := by simpa using hx0
  by_cases hc : p.is x = true
  case neg =>
    have HE : Hid (wW p (k + 1) true x l = ((⟨#[32, 46, 32]⟩ : ByteArray) ++ wtext x, l)) := by
      unfold Hid
      rw [wW, if_neg hx0, if_neg hc, ← ByteArray.append_assoc]
      rfl
    have hts := wtext_size x HX.out
    have hts2 : ¬ 9223372036854775807 < 3 + (wtext x).size := by omega
    have HRI : Hid (ratI p x = -1) := by unfold Hid ratI; rw [if_neg hc]
    rw [HE.out]
    clear hc hx0
    go_enter Tryd.func92, Tryd.ntmps92
    go_wp2_with fail
    refine (HAT.out _).mono ?_
    rintro e w1 ⟨rfl, hb1⟩
    rw [HRI.out]
    have HB1 : Hid (Below w.heap.size w w1) := HB0.out.trans (hb1.mono (by simp))
    have hz1 := HB1.out.size
    clear hb1
    go_wp2_with fail
    refine (reftext_any _ x HX.out.1 HX.out.2).mono ?_
    rintro e w2 ⟨rfl, hb2⟩
    have HB2 : Hid (Below w.heap.size w w2) := HB1.out.trans (hb2.mono hz1)
    clear hb2
    go_wp2_with fail
    go_ret2
    exact ⟨rfl, HB2.out⟩
  case pos =>
    obtain ⟨i, hi9⟩ : ∃ i, i = (x / 2).toNat := ⟨_, rfl⟩
    have HRI : Hid (ratI p x = (i : Int)) := by unfold Hid ratI; rw [if_pos hc, hi9]; have := HX.out.1; omega
    have hi : i < p.n := by
      obtain ⟨c1, c2⟩ := of_decide_eq_true hc
      have := HX.out.1
      omega
    have tlt : decide ((i : Int) < 0) = false := by simp
    by_cases hl0 : l = 0
    · have HE : Hid (wW p (k + 1) true x l = ((⟨#[32, 46, 46]⟩ : ByteArray), 0)) := by unfold Hid; rw [wW, if_neg hx0, if_pos hc, if_pos hl0]; rfl
      have tl : ((l : Int) == 0) = true := by simp; omega
      rw [HE.out]
      clear hc hl0 hi hi9 hx0
      go_enter Tryd.func92, Tryd.ntmps92
      go_wp2_with fail
      refine (HAT.out _).mono ?_
      rintro e w1 ⟨rfl, hb1⟩
      rw [HRI.out]
      have HB1 : Hid (Below w.heap.size w w1) := HB0.out.trans (hb1.mono (by simp))
      clear hb1
      go_wp2_with fail
      go_ret2
      exact ⟨rfl, HB1.out⟩
    · obtain ⟨m, hm9⟩ : ∃ m, l = m + 1 := ⟨l - 1, by omega⟩
      have HE : Hid (wW p (k + 1) true x l = (sspc ++ (wW p k false (p.car i) m).1 ++ (wW p k true (p.cdr i) (wW p k false (p.car i) m).2).1, (wW p k true (p.cdr i) (wW p k false (p.car i) m).2).2)) := by
        unfold Hid
        rw [wW, if_neg hx0, if_pos hc, if_neg hl0, hm9, Nat.add_sub_cancel, hi9]
      rw [HE.out]
      have HCA := Lib.hid (HP.out.2 _ hi).1
      have HCD := Lib.hid (HP.out.2 _ hi).2
      have hs1 := wW_size p HP.out k false (p.car i) m HCA.out
      have hl1 := wW_left p k false (p.car i) m
      have hs2 := wW_size p HP.out k true (p.cdr i) (wW p k false (p.car i) m).2 HCD.out
      have hl2 := wW_left p k true (p.cdr i) (wW p k false (p.car i) m).2
      have HII := HI.out B A D cA cD p m (p.car i)
      have HRR := HR.out B A D cA cD p (wW p k false (p.car i) m).2 (p.cdr i)
      obtain ⟨X, hX9⟩ : ∃ X, X = wW p k false (p.car i) m := ⟨_, rfl⟩
      rw [← hX9] at hs1 hl1 hs2 hl2 HII HRR ⊢
      obtain ⟨R, hR9⟩ : ∃ R, R = wW p k true (p.cdr i) X.2 := ⟨_, rfl⟩
      rw [← hR9] at hs2 hl2 HRR ⊢
      obtain ⟨a1, a2⟩ := X
      obtain ⟨r1, r2⟩ := R
      simp only at hs1 hl1 hs2 hl2 HII HRR ⊢
      have HI2 := Lib.hid HII
      have HR2 := Lib.hid HRR
      have tl : ((l : Int) == 0) = false := by simp; omega
      have sl : IntKind.i64.wrap ((l : Int) - 1) = (m : Int) := by rw [IntWalk.i64_in _ (by omega)]; omega
      have hm1 : m < k := by omega
      have hml : m + 1 ≤ l := by omega
      obtain ⟨adA, eA, hadA, hca⟩ := HS.out.car (by omega)
      obtain ⟨adD, eD, hadD, hcd⟩ := HS.out.cdr (by omega)
      have HA := Lib.hid (hca i hi)
      have HD := Lib.hid (hcd i hi)
      subst eA eD
      have i1 : (0 : Int) ≤ (i : Int) := by omega
      have i2 : (i : Int) < (p.n : Int) := by omega
      have z1 : ¬ 9223372036854775807 < 1 + a1.size := by omega
      have z2 : ¬ 9223372036854775807 < 1 + a1.size + r1.size := by omega
      have z3 : ¬ 9223372036854775807 < 1 + a1.size + r1.size + 1 := by omega
      clear hx0 hc hi hl0 hm9 HII HRR hX9 hR9 HE hca hcd hi9
      go_enter Tryd.func92, Tryd.ntmps92
      go_wp2_with fail
      refine (HAT.out _).mono ?_
      rintro e w1 ⟨rfl, hb1⟩
      rw [HRI.out]
      have HB1 : Hid (Below w.heap.size w w1) := HB0.out.trans (hb1.mono (by simp))
      have HBL1 := Lib.hid ((hb1.block _ (by simp)).trans HBL.out)
      have HBL1B := HB1
      clear hb1 k0 k1 HBL
      go_wp2_with fail
      have HALL : Hid (∀ W, Below w1.heap.size w1 W → W.cell? ⟨w.heap.size, 0, none⟩ = some (.slice (some adA) p.n cA) ∧ W.cell? ⟨w.heap.size, 1, none⟩ = some (.slice (some adD) p.n cD) ∧ W.cell? (adA.add i) = some (.int .u64 (p.car i)) ∧ W.cell? (adD.add i) = some (.int .u64 (p.cdr i)) ∧ Below w1.heap.size w1 W) := fun W hW => by
        have hh := (hW.block _ (block_lt HBL1.out)).trans HBL1.out
        exact ⟨cell_of_block hh 0, cell_of_block hh 1, ((HBL1B.out.trans (hW.mono HBL1B.out.size)).cell (by rw [block_of_add]; omega)).trans HA.out, ((HBL1B.out.trans (hW.mono HBL1B.out.size)).cell (by rw [block_of_add]; omega)).trans HD.out, hW⟩
      go_region_held3 (fun W => W.cell? ⟨w.heap.size, 0, none⟩ = some (.slice (some adA) p.n cA) ∧ W.cell? ⟨w.heap.size, 1, none⟩ = some (.slice (some adD) p.n cD) ∧ W.cell? (adA.add i) = some (.int .u64 (p.car i)) ∧ W.cell? (adD.add i) = some (.int .u64 (p.cdr i)) ∧ Below w1.heap.size w1 W)
        (first | exact HALL.out _ (Below.refl _ _) | exact HALL.out _ (Below.refl _ _).drew | (go_split_ands; exact HALL.out _ (Below.trans (by assumption) (hb2.mono (Below.size (by assumption))))) | fail)
        (first | (go_at_call 49; refine (HI2.out _ HP.out hm1 (by omega) HCA.out (Nat.le_trans hB (Below.size (HB1.out.drew))) (HS.out.below ((HB1.out.drew).mono hB))).mono ?_; rintro e wq ⟨rfl, hb2⟩))
      all_goals
        go_split_ands
        have HB2 : Hid (Below w.heap.size w wq) := HB1.out.trans (Below.mono (show Below w1.heap.size w1 wq by assumption) HB1.out.size)
        have HBL2 := Lib.hid ((Below.block (show Below w1.heap.size w1 wq by assumption) _ (block_lt HBL1.out)).trans HBL1.out)
        clear HALL
        go_wp2_with fail
        have HALL : Hid (∀ W, Below wq.heap.size wq W → W.cell? ⟨w.heap.size, 0, none⟩ = some (.slice (some adA) p.n cA) ∧ W.cell? ⟨w.heap.size, 1, none⟩ = some (.slice (some adD) p.n cD) ∧ W.cell? (adA.add i) = some (.int .u64 (p.car i)) ∧ W.cell? (adD.add i) = some (.int .u64 (p.cdr i)) ∧ Below wq.heap.size wq W) := fun W hW => by
          have hh := (hW.block _ (block_lt HBL2.out)).trans HBL2.out
          exact ⟨cell_of_block hh 0, cell_of_block hh 1, ((HB2.out.trans (hW.mono HB2.out.size)).cell (by rw [block_of_add]; omega)).trans HA.out, ((HB2.out.trans (hW.mono HB2.out.size)).cell (by rw [block_of_add]; omega)).trans HD.out, hW⟩
        go_region_held3 (fun W => W.cell? ⟨w.heap.size, 0, none⟩ = some (.slice (some adA) p.n cA) ∧ W.cell? ⟨w.heap.size, 1, none⟩ = some (.slice (some adD) p.n cD) ∧ W.cell? (adA.add i) = some (.int .u64 (p.car i)) ∧ W.cell? (adD.add i) = some (.int .u64 (p.cdr i)) ∧ Below wq.heap.size wq W)
          (first | exact HALL.out _ (Below.refl _ _) | exact HALL.out _ (Below.refl _ _).drew | (go_split_ands; exact HALL.out _ (Below.trans (by assumption) (hb2.mono (Below.size (by assumption))))) | fail)
          (first | (go_at_call 92; refine (HR2.out _ HP.out (by omega) (by omega) HCD.out (Nat.le_trans hB (Below.size (HB2.out.drew))) (HS.out.below ((HB2.out.drew).mono hB))).mono ?_; rintro e wr ⟨rfl, hb2⟩))
        all_goals
          go_split_ands
          have HB3 : Hid (Below w.heap.size w wr) := HB2.out.trans (Below.mono (show Below wq.heap.size wq wr by assumption) HB2.out.size)
          clear HALL
          go_wp2_with fail
          go_ret2
          exact ⟨rfl, HB3.out⟩
theorem ritem_rest : ∀ k, RItemC k ∧ RRestC k
  | 0 => ⟨fun _ _ _ _ _ _ _ _ _ _ h => by omega, fun _ _ _ _ _ _ _ _ _ _ h => by omega⟩
  | k + 1 => ⟨ritem_step k (ritem_rest k).1 (ritem_rest k).2, rrest_step k (ritem_rest k).1 (ritem_rest k).2⟩
end Go.Proofs.YtipoklnoknkfhaaDoor

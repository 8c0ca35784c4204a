/- The document's answer for layer 29: Write, and the pairs of a memory. -/
import Derived.Test.YtipoklnoknkfhaaDoorRef29
import Derived.Test.YtipoklnoknkfhaaDoorShowWrite
import Derived.Test.YtipoklnoknkfhaaDoorRef29Pairs
namespace Go.Proofs.YtipoklnoknkfhaaDoor
open Go Go.RowKit
set_option linter.unusedSimpArgs false
set_option linter.unusedVariables false

set_option maxHeartbeats 4000000 in
set_option maxRecDepth 100000 in
theorem refwrite_any (w : World) (B : Nat) (A D : Option Addr) (cA cD : Nat) (p : Prs) (x most : Int) (hp : p.fits) (hx : wok x) (hB : B ≤ w.heap.size) (hs : PrsAt w B p A D) :
    Calls Tryd.prog 16 #[.agg #[.slice A p.n cA, .slice D p.n cD], .int .u64 x, .int .i64 most] w fun e w' => e = .returned (.string (wtxt p x most)) ∧ Below w.heap.size w w' := by
  have hb0 : Below w.heap.size w (w.alloc (.cells #[.slice A p.n cA, .slice D p.n cD] 40)) := (Below.refl _ w).alloc (Nat.le_refl _) _
  have HB0 := Lib.hid hb0
  have hi := (ritem_rest (mx most + 1)).1 B A D cA cD p (mx most) x _ hp (by omega) (mx_le most) hx (Nat.le_trans hB hb0.size) (hs.below (hb0.mono hB))
  clear hb0
  have HI := Lib.hid hi
  have HT : Hid (wtxt p x most = (wW p (mx most + 1) false x (mx most)).1) := rfl
  rw [HT.out]
  clear hi hp hx hs
  generalize wW p (mx most + 1) false x (mx most) = r at *
  have hm : (mx most : Int) = max 0 (min most 1000) := by unfold mx; omega
  generalize mx most = k at *
  by_cases h0 : most < 0
  · have d0 : decide (most < 0) = true := by simpa using h0
    have hk : k = 0 := by omega
    have HK : Hid ((k : Int) = 0) := by unfold Hid; omega
    rw [HK.out] at HI
    clear h0 hm hk
    go_enter Tryd.func16, Tryd.ntmps16
    go_wp2_with fail
    refine (HI.out).mono ?_
    rintro e w1 ⟨rfl, hb1⟩
    have HB1 := Lib.hid hb1
    clear hb1
    go_wp2_with fail
    go_ret
    exact ⟨rfl, HB0.out.trans (HB1.out.mono HB0.out.size)⟩
  have d0 : decide (most < 0) = false := by simpa using h0
  by_cases h1 : 1000 < most
  · have d1 : decide (most > 1000) = true := by simpa using h1
    have d2 : decide (1000 < most) = true := by simpa using h1
    have HK : Hid ((k : Int) = 1000) := by unfold Hid; omega
    rw [HK.out] at HI
    clear h0 h1 hm
    go_enter Tryd.func16, Tryd.ntmps16
    go_wp2_with fail
    refine (HI.out).mono ?_
    rintro e w1 ⟨rfl, hb1⟩
    have HB1 := Lib.hid hb1
    clear hb1
    go_wp2_with fail
    go_ret
    exact ⟨rfl, HB0.out.trans (HB1.out.mono HB0.out.size)⟩
  · have d1 : decide (most > 1000) = false := by simpa using h1
    have d2 : decide (1000 < most) = false := by simpa using h1
    have HK : Hid ((k : Int) = most) := by unfold Hid; omega
    rw [HK.out] at HI
    clear h0 h1 hm
    go_enter Tryd.func16, Tryd.ntmps16
    go_wp2_with fail
    refine (HI.out).mono ?_
    rintro e w1 ⟨rfl, hb1⟩
    have HB1 := Lib.hid hb1
    clear hb1
    go_wp2_with fail
    go_ret
    exact ⟨rfl, HB0.out.trans (HB1.out.mono HB0.out.size)⟩
theorem prsOf_at {w : World} {B : Nat} {c : Cfg} {xs : List Int} {d n : Nat} {A D : Option Addr} (hc : c.cells = (n : Int)) (hd : xs.length = d + 3 * n) (h1 : Ints .u64 w B A (prow xs d n)) (h2 : Ints .u64 w B D (prow xs (d + 1) n)) : PrsAt w B (prsOf c xs) A D := by
  have hn : (prsOf c xs).n = n := by show c.cells.toNat = n; omega
  have hb : xs.length - 3 * c.cells.toNat = d := by omega
  refine ⟨fun h => ?_, fun h => ?_⟩
  · rw [hn] at h
    obtain ⟨ad, e, hB, hcell⟩ := h1.at_ (by rw [prow_len]; exact h)
    refine ⟨ad, e, hB, fun i hi => ?_⟩
    rw [hn] at hi
    rw [hcell i (by rw [prow_len]; exact hi), wd_prow _ _ _ _ hi]
    show _ = some (Value.int .u64 (wd xs (xs.length - 3 * c.cells.toNat + 3 * i)))
    rw [hb]
  · rw [hn] at h
    obtain ⟨ad, e, hB, hcell⟩ := h2.at_ (by rw [prow_len]; exact h)
    refine ⟨ad, e, hB, fun i hi => ?_⟩
    rw [hn] at hi
    rw [hcell i (by rw [prow_len]; exact hi), wd_prow _ _ _ _ hi]
    show _ = some (Value.int .u64 (wd xs (xs.length - 3 * c.cells.toNat + 3 * i + 1)))
    rw [hb, show d + 1 + 3 * i = d + 3 * i + 1 by omega]
def RMemPost (w : World) (c : Cfg) (xs : List Int) (e : Ending) (w' : World) : Prop := ∃ A D cA cD, e = .returned (.agg #[.slice A (prsOf c xs).n cA, .slice D (prsOf c xs).n cD]) ∧ PrsAt w' w'.heap.size (prsOf c xs) A D
theorem memory_any (w : World) (B : Nat) (c : Cfg) (A : Option Addr) (xs : List Int) (cp : Nat) (ok : c.ok = true) (hn : (xs.length : Int) = c.words) (hB : B ≤ w.heap.size) (hxs : Words w B A xs) :
    Calls Tryd.prog 15 #[c.v, .slice A xs.length cp] w fun e w' => RMemPost w c xs e w' ∧ Below w.heap.size w w' := by
  obtain ⟨h1, h2, _⟩ := c.ok_iff.1 ok
  have hw : c.words = 4 + c.muts + c.roots + 3 * c.cells := by unfold Cfg.words; rw [if_pos ok]
  have hr : c.roots = 1 + c.globs + c.muts * c.regs := by unfold Cfg.roots; rw [if_pos ok]
  have hmr := c.mr ok
  obtain ⟨n, hc⟩ : ∃ n : Nat, c.cells = (n : Int) := ⟨c.cells.toNat, by omega⟩
  have hok := c.ok_iff.1 ok
  obtain ⟨d, hd⟩ : ∃ d : Nat, xs.length = d + 3 * n := ⟨xs.length - 3 * n, by omega⟩
  refine (rmemory_any w B c A xs cp n d hc (by omega) hd (by omega) hB hxs).mono ?_
  rintro e w' ⟨⟨P, D, cA, cD, rfl, i1, i2, _, _⟩, hb⟩
  have e0 : (prsOf c xs).n = n := by show c.cells.toNat = n; omega
  exact ⟨⟨P, D, cA, cD, by rw [e0], prsOf_at hc hd i1 i2⟩, hb⟩
end Go.Proofs.YtipoklnoknkfhaaDoor

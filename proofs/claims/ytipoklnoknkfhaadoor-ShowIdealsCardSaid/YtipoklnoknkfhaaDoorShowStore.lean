/- Words over an ideal store: show.Ideal. -/
import Derived.Test.YtipoklnoknkfhaaDoorShowWrite
import Derived.Test.YtipoklnoknkfhaaDoorIdealSame
namespace Go.Proofs.YtipoklnoknkfhaaDoor
open Go Go.RowKit
set_option linter.unusedSimpArgs false
set_option linter.unusedVariables false

def prsSto (s : Sto) : Prs := ⟨s.cs.length, fun i => s.car i, fun i => s.cdr i⟩
set_option maxHeartbeats 4000000 in
set_option maxRecDepth 100000 in
theorem spair_any (w : World) (T : Nat → Prop) (b : Nat) (s : Sto) (gr kr : Nat) (vg vc : Value) (h : StoAt w T b s gr kr vg vc) (hl : s.cs.length ≤ 100000) (x : Int) (hx : wok x) :
    Calls Tryd.prog 199 #[.agg #[.pointer (some ⟨b, 0, none⟩)], .int .u64 x] w fun e w' => e = .returned (pairV (prsSto s) x) ∧ Below w.heap.size w w' := by
  have e1 := and_one x hx.1 hx.2
  have e2 : wrap64 (x / 2) = x / 2 := (i64_w _).symm.trans (IntWalk.i64_in _ (by have := hx.1; have := hx.2; omega))
  have hb0 : Below w.heap.size w (w.alloc (.cells #[.pointer (some ⟨b, 0, none⟩)] 103)) := (Below.refl _ w).alloc (Nat.le_refl _) _
  have HB0 := Lib.hid hb0
  have HH := Lib.hid (h.below hb0)
  have HX := Lib.hid hx
  have k0 := cell_of_block (heap_alloc_new w (.cells #[.pointer (some ⟨b, 0, none⟩)] 103)) 0
  have HBL := Lib.hid (heap_alloc_new w (.cells #[.pointer (some ⟨b, 0, none⟩)] 103))
  simp only [List.getElem?_toArray, List.getElem?_cons_zero] at k0
  by_cases hc : (prsSto s).is x = true
  case pos =>
    have hc' := of_decide_eq_true hc
    have h2 : x % 2 = 1 := hc'.1
    have h3 : x / 2 < (s.cs.length : Int) := hc'.2
    have t0 : (x % 2 == 0) = false := by simp; omega
    have t1 : decide ((s.cs.length : Int) ≤ x / 2) = false := by simp; omega
    have HE : Hid (pairV (prsSto s) x = .tuple #[.int .u64 (s.carAt (x / 2)), .int .u64 (s.cdrAt (x / 2)), .bool true]) := by
      unfold Hid pairV
      rw [if_pos hc]
      have h0 : 0 ≤ x / 2 := by have := hx.1; omega
      rw [show s.carAt (x / 2) = s.car (x / 2).toNat from if_pos ⟨h0, h3⟩, show s.cdrAt (x / 2) = s.cdr (x / 2).toNat from if_pos ⟨h0, h3⟩]
      rfl
    rw [HE.out]
    clear hc hc' h2 h3 h hx hb0 hl
    go_enter Tryd.func199, Tryd.ntmps199
    go_wp2_with fail
    refine (ilen_any _ T b s gr kr vg vc HH.out).mono ?_
    rintro e w1 ⟨rfl, hw1⟩
    subst hw1
    go_wp2_with fail
    have HALL : Hid (∀ W, Below (w.alloc (.cells #[.pointer (some ⟨b, 0, none⟩)] 103)).heap.size (w.alloc (.cells #[.pointer (some ⟨b, 0, none⟩)] 103)) W → W.cell? ⟨w.heap.size, 0, none⟩ = some (.pointer (some ⟨b, 0, none⟩)) ∧ Below (w.alloc (.cells #[.pointer (some ⟨b, 0, none⟩)] 103)).heap.size (w.alloc (.cells #[.pointer (some ⟨b, 0, none⟩)] 103)) W) := fun W hW => ⟨cell_of_block ((hW.block _ (by simp)).trans HBL.out) 0, hW⟩
    go_region_held3 (fun W => W.cell? ⟨w.heap.size, 0, none⟩ = some (.pointer (some ⟨b, 0, none⟩)) ∧ Below (w.alloc (.cells #[.pointer (some ⟨b, 0, none⟩)] 103)).heap.size (w.alloc (.cells #[.pointer (some ⟨b, 0, none⟩)] 103)) W)
      (first | exact HALL.out _ (Below.refl _ _) | exact HALL.out _ (Below.refl _ _).drew | exact HALL.out _ HC1.out | exact HALL.out _ HC2.out | fail)
      (first
        | (go_at_call 200; refine (iCar_any _ T b s gr kr vg vc (HH.out.below (Below.refl _ _).drew) (x / 2)).mono ?_; rintro e wa ⟨rfl, ha⟩; have HC1 := Lib.hid ((Below.refl _ _).drew.trans ha); clear ha)
        | (go_at_call 201; refine (iCdr_any _ T b s gr kr vg vc (HH.out.below HC1.out) (x / 2)).mono ?_; rintro e wa ⟨rfl, ha⟩; have HC2 := Lib.hid (HC1.out.trans (ha.mono HC1.out.size)); clear ha))
    all_goals
      go_wp2_with fail
      go_ret3
      exact ⟨rfl, HB0.out.trans (HC2.out.mono HB0.out.size)⟩
  case neg =>
    have HE : Hid (pairV (prsSto s) x = .tuple #[.int .u64 0, .int .u64 0, .bool false]) := by unfold Hid pairV; rw [if_neg hc]
    rw [HE.out]
    by_cases h2 : x % 2 = 0
    · have t0 : (x % 2 == 0) = true := by simpa using h2
      clear hc h2 h hx hb0 hl
      go_enter Tryd.func199, Tryd.ntmps199
      go_wp2_with fail
      go_ret3
      exact ⟨rfl, HB0.out⟩
    · have t0 : (x % 2 == 0) = false := by simpa using h2
      have h3 : ¬ x / 2 < (s.cs.length : Int) := fun h3 => hc (decide_eq_true ⟨by omega, h3⟩)
      have t1 : decide ((s.cs.length : Int) ≤ x / 2) = true := by simp; omega
      clear hc h2 h3 h hx hb0 hl
      go_enter Tryd.func199, Tryd.ntmps199
      go_wp2_with fail
      refine (ilen_any _ T b s gr kr vg vc HH.out).mono ?_
      rintro e w1 ⟨rfl, hw1⟩
      subst hw1
      go_wp2_with fail
      go_ret3
      exact ⟨rfl, HB0.out⟩
theorem prsSto_fits (s : Sto) (h : s.Ok) (hl : s.cs.length ≤ 4096) : (prsSto s).fits := by
  refine ⟨hl, fun i hi => ?_⟩
  have hi' : i < s.cs.length := hi
  have hm : s.cs.getD i (0, 0) ∈ s.cs := by
    rw [List.getD_eq_getElem?_getD, List.getElem?_eq_getElem hi', Option.getD_some]
    exact List.getElem_mem hi'
  obtain ⟨h1, h2⟩ := h.cw _ hm
  exact ⟨⟨h1.1, h1.2.1⟩, h2.1, h2.2.1⟩
theorem store_src (w : World) (T : Nat → Prop) (b : Nat) (s : Sto) (h : IsSto w T b s) (hl : s.cs.length ≤ 100000) :
    SrcIs w.heap.size w (.iface 103 (.agg #[.pointer (some ⟨b, 0, none⟩)])) (prsSto s) :=
  ⟨_, _, 199, _, rfl, fun _ => by kernel_rfl, enters_of Tryd.func199 (by kernel_rfl) rfl, fun W x hW hx => by
    obtain ⟨gr, kr, vg, vc, hs⟩ := h.below hW
    exact spair_any W T b s gr kr vg vc hs hl x hx⟩
set_option maxHeartbeats 4000000 in
set_option maxRecDepth 100000 in
theorem ideal_nil (w : World) (x most : Int) :
    Calls Tryd.prog 20 #[.pointer none, .int .u64 x, .int .i64 most] w fun e w' => e = .returned (.string ⟨#[]⟩) ∧ Below w.heap.size w w' := by
  go_enter Tryd.func20, Tryd.ntmps20
  go_wp2_with fail
  go_ret
  exact ⟨rfl, Below.refl _ _⟩
set_option maxHeartbeats 4000000 in
set_option maxRecDepth 100000 in
theorem ideal_any (w : World) (T : Nat → Prop) (b : Nat) (s : Sto) (h : IsSto w T b s) (hl : s.cs.length ≤ 4096) (x most : Int) (hx : wok x) (ht : Tens w) :
    Calls Tryd.prog 20 #[.pointer (some ⟨b, 0, none⟩), .int .u64 x, .int .i64 most] w fun e w' => e = .returned (.string (wtxt (prsSto s) x most)) ∧ Below w.heap.size w w' := by
  have HF := Lib.hid (prsSto_fits s h.ok hl)
  have HS := Lib.hid h
  have HX := Lib.hid hx
  have HT := Lib.hid ht
  have HL : Hid (s.cs.length ≤ 100000) := by unfold Hid; omega
  clear h hx ht hl
  go_enter Tryd.func20, Tryd.ntmps20
  go_wp2_with fail
  refine (written_any w _ (prsSto s) x most HF.out HX.out (store_src w T b s HS.out HL.out) HT.out).mono ?_
  rintro e w1 ⟨rfl, hb1⟩
  have HB1 := Lib.hid hb1
  clear hb1
  go_wp2_with fail
  go_ret
  exact ⟨rfl, HB1.out⟩
end Go.Proofs.YtipoklnoknkfhaaDoor

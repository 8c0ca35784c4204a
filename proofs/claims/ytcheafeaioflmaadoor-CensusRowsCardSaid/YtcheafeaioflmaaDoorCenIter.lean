/- census.Rows: the iterator over a census's rows. -/
import Derived.RangeFuncNested
import Derived.RangeFuncBound
import Derived.RangeFuncCalls
import Derived.RangeFuncLeaves
import Derived.Shelf.Abstract
import Derived.Shelf.RegionOpen
import Derived.WalkKit
import Derived.OwnWalkIn
import Derived.TacticsInMore
import Derived.LoopNIn
import Derived.LoopIn
import Derived.Test.YtcheafeaioflmaaDoorCenFar
namespace Go.Proofs.YtcheafeaioflmaaDoor
open Go Go.RowKit Go.Shelf
set_option linter.unusedSimpArgs false
set_option linter.unusedVariables false
attribute [local go_sem] Oper.semAt_some

set_option maxHeartbeats 8000000 in
set_option maxRecDepth 100000 in
theorem say_in (n : Nat) (hn : 1 ≤ n) (l yb : Nat) (W : World) (wd : ByteArray) (x : Int) (hw : wd.size ≤ 1000) (hx : -9223372036854775808 ≤ x ∧ x ≤ 9223372036854775807) (ht : Tens W) (hyb : W.cell? ⟨yb, 0, none⟩ = some (.func (.yield l) #[] #[])) (Rb : Bool → World → Prop)
    (hY : ∀ W', Below W.heap.size W W' → YieldAt Fence.wide (n - 1) Tryd.prog l #[.string (crow wd x)] W' fun e W'' => ∃ b, e = .returned (.bool b) ∧ Rb b W'') :
    CallsIn Fence.wide n Tryd.prog 91 #[.string wd, .int .i64 x, .pointer (some ⟨yb, 0, none⟩)] W fun e W' => ∃ b, e = .returned (.bool b) ∧ Rb b W' := by
  have HT := Lib.hid ht
  have HY := Lib.hid hY
  have HYB : Hid (∀ W', Below W.heap.size W W' → W'.cell? ⟨yb, 0, none⟩ = some (.func (.yield l) #[] #[])) := fun W' hb => (hb.cell (World.block_lt_of_cell? W _ hyb)).trans hyb
  have HI : Hid (∀ W, Tens W → Calls Tryd.prog 82 #[.int .i64 x] W fun e w' => e = .returned (.string (otx x)) ∧ Below W.heap.size W w') := fun W h => itoa_any W x hx h
  have hz := otx_size x hx
  have hyd : W.drew.cell? ⟨yb, 0, none⟩ = some (.func (.yield l) #[] #[]) := hyb
  have hz1 : ¬ 9223372036854775807 < wd.size + 1 := by omega
  have hz2 : ¬ 9223372036854775807 < wd.size + 1 + (otx x).size := by omega
  have HCR : Hid (crow wd x = wd ++ ⟨#[32]⟩ ++ otx x) := rfl
  rw [HCR.out] at HY
  generalize otx x = tn at *
  clear ht hY
  refine callsIn_of_wp Tryd.func91 rfl trivial ?_ rfl
  simp only [Tryd.ntmps91, List.size_toArray, List.length_cons, List.length_nil, Nat.reduceAdd, Nat.reduceSub, Array.replicate_succ, Array.replicate_zero, List.push_toArray, List.append_toArray, List.nil_append, List.cons_append]
  have mixed : Tryd.prog.follows .mixedOrders = true := by kernel_rfl
  have hz4 : ¬ 9223372036854775807 < (wd ++ ⟨#[32]⟩ : ByteArray).size + tn.size := by rw [ByteArray.size_append]; exact hz2
  gi_wp2
  refine wpIn_region_any mixed ?_
  try (change wpAnyIn _ _ _ _ _ _ _ _ _ (World.drew _))
  refine wpAnyIn_take (i := 1) (oi := ?oi1) (v := ?v1) rfl ?hi1 (by kernel_rfl) (by kernel_rfl) (by kernel_rfl) ?hq1 ⟨Or.inl ⟨?hw1, ?hy1⟩, ?hz1⟩ ?rest1
  case hi1 => simp only [List.getElem?_toArray, List.getElem?_cons_succ, List.getElem?_cons_zero]; rfl
  case hq1 => exact fun _ _ _ h => h
  case hw1 => kernel_rfl
  case hz1 => exact fun _ => rfl
  case hy1 => (intro w; go_simp; try with_reducible rfl)
  try simp only [Act.put, List.setIfInBounds_toArray, List.set_cons_zero, List.set_cons_succ]
  refine wpAnyIn_take (i := 2) (oi := ?oi2) (v := ?v2) rfl ?hi2 (by kernel_rfl) (by kernel_rfl) (by kernel_rfl) ?hq2 ⟨Or.inl ⟨?hw2, ?hy2⟩, ?hz2⟩ ?rest2
  case hi2 => simp only [List.getElem?_toArray, List.getElem?_cons_succ, List.getElem?_cons_zero]; rfl
  case hq2 => exact fun _ _ _ h => h
  case hw2 => kernel_rfl
  case hz2 => exact fun _ => rfl
  case hy2 => (intro w; go_simp; try with_reducible rfl)
  try simp only [Act.put, List.setIfInBounds_toArray, List.set_cons_zero, List.set_cons_succ]
  refine wpAnyIn_take (i := 3) (oi := ?oi3) (v := ?v3) rfl ?hi3 (by kernel_rfl) (by kernel_rfl) (by kernel_rfl) ?hq3 ⟨Or.inl ⟨?hw3, ?hy3⟩, ?hz3⟩ ?rest3
  case hi3 => simp only [List.getElem?_toArray, List.getElem?_cons_succ, List.getElem?_cons_zero]; rfl
  case hq3 => exact fun _ _ _ h => h
  case hw3 => kernel_rfl
  case hz3 => exact fun _ => rfl
  case hy3 => (intro w; go_simp; try with_reducible rfl)
  try simp only [Act.put, List.setIfInBounds_toArray, List.set_cons_zero, List.set_cons_succ]
  refine wpAnyIn_ready (rs := [0, 4]) (by kernel_rfl) (by simp) ?_
  refine AllReadyIn.cons rfl (fun K hK => ?g0) (AllReadyIn.cons rfl (fun K hK => ?g4) AllReadyIn.nil)
  case g0 =>
    go_simp
    refine hK _ _ ?_
    clear hK K
    try simp only [Act.put, List.setIfInBounds_toArray, List.set_cons_zero, List.set_cons_succ]
    refine wpAnyIn_ready (rs := [4]) (by kernel_rfl) (by simp) ?_
    refine AllReadyIn.cons rfl (fun K hK => ?_) AllReadyIn.nil
    go_simp
    (try refine ⟨trivial, ?_⟩)
    refine (callsIn_wide.2 (HI.out _ (HT.out.below (Nat.le_refl _) (Below.refl _ _).drew))).mono ?_
    rintro e w2 ⟨rfl, hb2⟩
    have HB2 : Hid (Below W.heap.size W w2) := (Below.refl W.heap.size W).drew.trans hb2
    obtain ⟨fn, tmps, assign, body, hy, hR⟩ := HY.out w2 HB2.out
    have HR := Lib.hid hR
    have hyc := HYB.out w2 HB2.out
    clear hb2 hR
    go_simp
    refine hK _ _ ?_
    clear hK K
    try simp only [Act.put, List.setIfInBounds_toArray, List.set_cons_zero, List.set_cons_succ]
    refine wpAnyIn_take (i := 5) (oi := ?oi5a) (v := ?v5a) rfl ?hi5a (by kernel_rfl) (by kernel_rfl) (by kernel_rfl) ?hq5a ⟨Or.inl ⟨?hw5a, ?hy5a⟩, ?hz5a⟩ ?rest5a
    case hi5a => simp only [List.getElem?_toArray, List.getElem?_cons_succ, List.getElem?_cons_zero]; rfl
    case hq5a => exact fun _ _ _ h => h
    case hw5a => kernel_rfl
    case hz5a => exact fun _ => rfl
    case hy5a => (intro w; go_simp; try with_reducible rfl)
    try simp only [Act.put, List.setIfInBounds_toArray, List.set_cons_zero, List.set_cons_succ]
    refine wpAnyIn_ready (rs := [6]) (by kernel_rfl) (by simp) ?_
    refine AllReadyIn.cons rfl (fun K hK => ?_) AllReadyIn.nil
    go_simp
    refine HR.out.mono ?_
    rintro e W4 ⟨b, rfl, hrb⟩
    have HRB := Lib.hid hrb
    clear hrb
    refine hK _ _ ?_
    clear hK K
    try simp only [Act.put, List.setIfInBounds_toArray, List.set_cons_zero, List.set_cons_succ]
    refine wpAnyIn_take (i := 7) (oi := ?oi7a) (v := ?v7a) rfl ?hi7a (by kernel_rfl) (by kernel_rfl) (by kernel_rfl) ?hq7a ⟨Or.inl ⟨?hw7a, ?hy7a⟩, ?hz7a⟩ ?rest7a
    case hi7a => simp only [List.getElem?_toArray, List.getElem?_cons_succ, List.getElem?_cons_zero]; rfl
    case hq7a => exact fun _ _ _ h => h
    case hw7a => kernel_rfl
    case hz7a => exact fun _ => rfl
    case hy7a => (intro w; go_simp; try with_reducible rfl)
    try simp only [Act.put, List.setIfInBounds_toArray, List.set_cons_zero, List.set_cons_succ]
    refine wpAnyIn_done (by kernel_rfl) ?_ _
    gi_wp2
    go_ret
    exact ⟨b, rfl, HRB.out⟩
  case g4 =>
    go_simp
    (try refine ⟨trivial, ?_⟩)
    refine (callsIn_wide.2 (HI.out _ (HT.out.below (Nat.le_refl _) (Below.refl _ _).drew))).mono ?_
    rintro e w2 ⟨rfl, hb2⟩
    have HB2 : Hid (Below W.heap.size W w2) := (Below.refl W.heap.size W).drew.trans hb2
    obtain ⟨fn, tmps, assign, body, hy, hR⟩ := HY.out w2 HB2.out
    have HR := Lib.hid hR
    have hyc := HYB.out w2 HB2.out
    clear hb2 hR
    go_simp
    refine hK _ _ ?_
    clear hK K
    try simp only [Act.put, List.setIfInBounds_toArray, List.set_cons_zero, List.set_cons_succ]
    refine wpAnyIn_take (i := 5) (oi := ?oi5b) (v := ?v5b) rfl ?hi5b (by kernel_rfl) (by kernel_rfl) (by kernel_rfl) ?hq5b ⟨Or.inl ⟨?hw5b, ?hy5b⟩, ?hz5b⟩ ?rest5b
    case hi5b => simp only [List.getElem?_toArray, List.getElem?_cons_succ, List.getElem?_cons_zero]; rfl
    case hq5b => exact fun _ _ _ h => h
    case hw5b => kernel_rfl
    case hz5b => exact fun _ => rfl
    case hy5b => (intro w; go_simp; try with_reducible rfl)
    try simp only [Act.put, List.setIfInBounds_toArray, List.set_cons_zero, List.set_cons_succ]
    refine wpAnyIn_ready (rs := [0]) (by kernel_rfl) (by simp) ?_
    refine AllReadyIn.cons rfl (fun K hK => ?_) AllReadyIn.nil
    go_simp
    refine hK _ _ ?_
    clear hK K
    refine wpAnyIn_ready (rs := [6]) (by kernel_rfl) (by simp) ?_
    refine AllReadyIn.cons rfl (fun K hK => ?_) AllReadyIn.nil
    go_simp
    refine HR.out.mono ?_
    rintro e W4 ⟨b, rfl, hrb⟩
    have HRB := Lib.hid hrb
    clear hrb
    refine hK _ _ ?_
    clear hK K
    try simp only [Act.put, List.setIfInBounds_toArray, List.set_cons_zero, List.set_cons_succ]
    refine wpAnyIn_take (i := 7) (oi := ?oi7b) (v := ?v7b) rfl ?hi7b (by kernel_rfl) (by kernel_rfl) (by kernel_rfl) ?hq7b ⟨Or.inl ⟨?hw7b, ?hy7b⟩, ?hz7b⟩ ?rest7b
    case hi7b => simp only [List.getElem?_toArray, List.getElem?_cons_succ, List.getElem?_cons_zero]; rfl
    case hq7b => exact fun _ _ _ h => h
    case hw7b => kernel_rfl
    case hz7b => exact fun _ => rfl
    case hy7b => (intro w; go_simp; try with_reducible rfl)
    try simp only [Act.put, List.setIfInBounds_toArray, List.set_cons_zero, List.set_cons_succ]
    refine wpAnyIn_done (by kernel_rfl) ?_ _
    gi_wp2
    go_ret
    exact ⟨b, rfl, HRB.out⟩
end Go.Proofs.YtcheafeaioflmaaDoor

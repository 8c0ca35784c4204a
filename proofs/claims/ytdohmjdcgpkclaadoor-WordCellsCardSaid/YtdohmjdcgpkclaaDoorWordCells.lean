/- The cells among words, told one after another: the iterator's contract and the walk of the law WordCells. -/
import Derived.RangeFuncNested
import Derived.RangeFuncBound
import Derived.RangeFuncCalls
import Derived.RangeFuncLeaves
import Derived.RangeFuncBox
import Derived.Shelf.Abstract
import Derived.Shelf.RegionOpen
import Derived.WalkKit
import Derived.OwnWalkIn
import Derived.TacticsInMore
import Derived.LoopNIn
import Derived.LoopIn
import Derived.Maps.AppendAt
import Derived.Test.YtdohmjdcgpkclaaDoorWordKinds
import Derived.Test.YtdohmjdcgpkclaaDoorWords
namespace Go.Proofs.YtdohmjdcgpkclaaDoor
open Go Go.RowKit Go.Shelf
set_option linter.unusedSimpArgs false
set_option linter.unusedVariables false
attribute [local go_sem] Oper.semAt_some

theorem wd_nthC (xs : List Int) (i : Nat) (h : i < xs.length) : wd xs i = xs[i] := by simp [wd, h]
def isC (a : Int) : Bool := decide (a % 2 = 1 ∧ a < 8192)
def cellsL (xs : List Int) : List Int := (xs.filter isC).map (· / 2)
theorem cellsL_yes {xs : List Int} {k : Nat} (h : k < xs.length) (hc : isC (wd xs k) = true) : cellsL (xs.take (k + 1)) = cellsL (xs.take k) ++ [wd xs k / 2] := by
  unfold cellsL
  rw [List.take_succ_eq_append_getElem h, List.filter_append, List.map_append]
  rw [wd_nthC xs k h] at hc ⊢
  simp [hc]
theorem cellsL_no {xs : List Int} {k : Nat} (h : k < xs.length) (hc : isC (wd xs k) = false) : cellsL (xs.take (k + 1)) = cellsL (xs.take k) := by
  unfold cellsL
  rw [List.take_succ_eq_append_getElem h, List.filter_append, List.map_append]
  rw [wd_nthC xs k h] at hc
  simp [hc]
theorem cellsL_pre (xs : List Int) (k : Nat) : cellsL (xs.take k) <+: cellsL xs := by
  unfold cellsL
  exact ((List.take_prefix k xs).filter _).map _
theorem cellsL_len (xs : List Int) : (cellsL xs).length ≤ xs.length := by
  unfold cellsL
  rw [List.length_map]
  exact List.length_filter_le _ _
theorem cellsL_lt {xs : List Int} {k : Nat} (h : k < xs.length) (hc : isC (wd xs k) = true) : (cellsL (xs.take k)).length < (cellsL xs).length := by
  have := (cellsL_pre xs (k + 1)).length_le
  rw [cellsL_yes h hc, List.length_append] at this
  simp at this
  omega

set_option maxRecDepth 100000 in
set_option maxHeartbeats 2000000 in
theorem cells1_in (n : Nat) (hn : 1 ≤ n) (l Bn n₀ : Nat) (A : Option Addr) (c : Nat) (xs : List Int) (J Jx : List Int → World → Prop)
    (hY : ∀ pre x W, J pre W → pre.length < (cellsL xs).length → YieldAt Fence.wide (n - 1) Tryd.prog l #[.int .i64 x] W fun e W' =>
      (e = .returned (.bool true) ∧ J (pre ++ [x]) W' ∧ Below n₀ W W') ∨ (e = .returned (.bool false) ∧ Jx (pre ++ [x]) W'))
    (W : World) (hBn : W.cell? ⟨Bn, 0, none⟩ = some (.slice A xs.length c)) (hL : Words W n₀ A xs) (hx : ∀ x ∈ xs, 0 ≤ x ∧ x < 18446744073709551616) (h0 : J [] W) :
    CallsIn Fence.wide n Tryd.prog 72 #[.func (.yield l) #[] #[], .pointer (some ⟨Bn, 0, none⟩)] W fun e W' => (∃ v, e = .returned v) ∧
      ((∃ ys, ys = cellsL xs ∧ J ys W') ∨ (∃ pre, pre <+: cellsL xs ∧ Jx pre W')) := by
  have HX := Lib.hid hx
  have HLW := Lib.hid hL
  have hlen := hL.len
  unfold maxLen at hlen
  clear hx hL
  refine callsIn_of_wp Tryd.func72 rfl trivial ?_ rfl
  simp only [Tryd.ntmps72, List.size_toArray, List.length_cons, List.length_nil, Nat.reduceAdd, Nat.reduceSub, Array.replicate_succ, Array.replicate_zero, List.push_toArray, List.append_toArray, List.nil_append, List.cons_append]
  gi_wp2
  gi_loopw [4, 5, 6, 9] (fun _ _ _ i wr => ∃ k : Nat, k ≤ xs.length ∧ i = .int .i64 k ∧ Hid (J (cellsL (xs.take k)) wr) ∧ Hid (Below n₀ W wr)) (fun _ _ _ i _ => xs.length - (intOf i).toNat)
  case atStart => exact ⟨0, Nat.zero_le _, rfl, h0, Below.refl _ _⟩
  case round =>
    obtain ⟨k, hk, rfl, HJ, HB⟩ := hrel
    by_cases hlt : k < xs.length
    case neg =>
      have HE : Hid (cellsL (xs.take k) = cellsL xs) := by unfold Hid; rw [List.take_of_length_le (by omega)]
      gi_wp2
      go_end0
      exact ⟨⟨_, rfl⟩, .inl ⟨_, rfl, by rw [← HE.out]; exact HJ.out⟩⟩
    obtain ⟨ad, rfl, hadB, hcx⟩ := HLW.out.cell HB.out hlt
    have hxk := HX.out (wd xs k) (by rw [wd_nthC xs k hlt]; exact List.getElem_mem _)
    have HXK := Lib.hid hxk
    have i1 : ((k : Nat) : Int) < ((xs.length : Nat) : Int) := by omega
    have sk : IntKind.i64.wrap ((k : Int) + 1) = (k : Int) + 1 := IntWalk.i64_in _ (by omega)
    by_cases hc : isC (wd xs k) = true
    · have HLT := cellsL_lt hlt hc
      have HY2 := Lib.hid (cellsL_yes hlt hc)
      have hd : decide (wd xs k % 2 = 1 ∧ wd xs k < 8192) = true := hc
      have hif : (if wd xs k % 2 = 1 ∧ wd xs k < 8192 then wd xs k / 2 else 0) = wd xs k / 2 := if_pos (of_decide_eq_true hd)
      obtain ⟨fn, tmps, assign, body, hy, hR⟩ := hY (cellsL (xs.take k)) (wd xs k / 2) wr HJ.out HLT
      have HR := Lib.hid hR
      clear hR hadB hxk hc HLT
      generalize wd xs k = x at *
      gi_wp2_with (refine ⟨trivial, ?_⟩; gi_at_call 68; refine (callsIn_wide.2 (isCell_any _ x HXK.out.1 HXK.out.2)).mono ?_; rintro e w3 ⟨rfl, hw3⟩; obtain rfl := hw3.symm; clear hw3; rw [hif, hd])
      refine HR.out.mono ?_
      rintro e W3 (⟨rfl, hJ3, hk3⟩ | ⟨rfl, hJx3⟩)
      · have HJ3 := Lib.hid hJ3
        have HB3 : Hid (Below n₀ W W3) := HB.out.trans hk3
        clear hJ3 hk3
        gi_wp2
        go_roundw
        case rel => exact ⟨k + 1, by omega, by go_num, by rw [HY2.out]; exact HJ3, HB3⟩
        case measure => (simp [intOf] <;> omega)
      · have HJ3 := Lib.hid hJx3
        clear hJx3
        gi_wp2
        refine bodyPost_ret (results_none rfl _ _ _) rfl ?_
        exact ⟨⟨_, rfl⟩, .inr ⟨_, by rw [← HY2.out]; exact cellsL_pre xs (k + 1), HJ3.out⟩⟩
    · have hcf : isC (wd xs k) = false := by simpa using hc
      have HY2 := Lib.hid (cellsL_no hlt hcf)
      have hd : decide (wd xs k % 2 = 1 ∧ wd xs k < 8192) = false := hcf
      have hif : (if wd xs k % 2 = 1 ∧ wd xs k < 8192 then wd xs k / 2 else 0) = 0 := if_neg (of_decide_eq_false hd)
      clear hadB hxk hc hcf
      generalize wd xs k = x at *
      gi_wp2_with (refine ⟨trivial, ?_⟩; gi_at_call 68; refine (callsIn_wide.2 (isCell_any _ x HXK.out.1 HXK.out.2)).mono ?_; rintro e w3 ⟨rfl, hw3⟩; obtain rfl := hw3.symm; clear hw3; rw [hif, hd])
      refine ⟨fun _ h => (by cases h), ?_⟩
      gi_wp2
      go_roundw
      case rel => exact ⟨k + 1, by omega, by go_num, by rw [HY2.out]; exact HJ, HB⟩
      case measure => (simp [intOf] <;> omega)
theorem cells_stops (n : Nat) (hn : 1 ≤ n) (Bn n₀ : Nat) (A : Option Addr) (c : Nat) (xs : List Int) (w : World) (hBn : Bn < w.heap.size) (hn₀ : n₀ ≤ w.heap.size)
    (hc : w.cell? ⟨Bn, 0, none⟩ = some (.slice A xs.length c)) (hL : Words w n₀ A xs) (hx : ∀ x ∈ xs, 0 ≤ x ∧ x < 18446744073709551616) :
    SeqStopsK Fence.wide n Tryd.prog 72 #[.pointer (some ⟨Bn, 0, none⟩)] (fun x : Int => #[Value.int .i64 x]) (Below n₀) (fun ys => ys = cellsL xs) (fun pre => pre <+: cellsL xs) (cellsL xs).length w := fun l J Jx W hW _ _ hY h0 =>
  cells1_in n hn l Bn n₀ A c xs J Jx hY W ((hW.cell (p := ⟨Bn, 0, none⟩) hBn).trans hc) (hL.below (hW.mono hn₀)) hx h0
theorem mk_any (w : World) (A : Option Addr) (n c : Nat) : Calls Tryd.prog 21 #[.slice A n c] w fun e w' => e = .returned (.func (.func 72) #[] #[.pointer (some ⟨w.heap.size, 0, none⟩)]) ∧ w' = w.alloc (.cells #[.slice A n c] 33) := by
  go_enter Tryd.func21, Tryd.ntmps21
  go_wp2_with fail
  go_ret
  exact ⟨rfl, rfl⟩
end Go.Proofs.YtdohmjdcgpkclaaDoor

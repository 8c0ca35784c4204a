/- The registers of an operation, told one after another: the iterator's contract. -/
import Derived.RangeFuncNested
import Derived.RangeFuncBound
import Derived.RangeFuncCalls
import Derived.RangeFuncLeaves
import Derived.RangeFuncBox
import Derived.Shelf.Abstract
import Derived.Shelf.RegionOpen
import Derived.WalkKit
import Derived.OwnWalkIn
import Derived.TacticsInMore
import Derived.LoopNIn
import Derived.LoopIn
import Derived.Maps.AppendAt
import Derived.Test.YtdohmjdcgpkclaaDoorOp
namespace Go.Proofs.YtdohmjdcgpkclaaDoor
open Go Go.RowKit Go.Shelf
set_option linter.unusedSimpArgs false
set_option linter.unusedVariables false
attribute [local go_sem] Oper.semAt_some

/-- the registers among the first k numbers -/
def regsTo (ps : ByteArray) (x : Opr) (k : Nat) : List Int := ((List.range k).filter fun i => decide (ps.data.toList[i]? = some 114)).map x.num
def oregs (x : Opr) : List Int := if 1 ≤ x.kind ∧ x.kind ≤ 11 then regsTo (fpart x.kind) x (fpart x.kind).size else []
theorem regsTo_yes {ps : ByteArray} {x : Opr} {k : Nat} (h : ps.data.toList[k]? = some 114) : regsTo ps x (k + 1) = regsTo ps x k ++ [x.num k] := by
  unfold regsTo
  rw [List.range_succ, List.filter_append, List.map_append, List.filter_cons_of_pos (by exact decide_eq_true h), List.filter_nil]
  rfl
theorem regsTo_no {ps : ByteArray} {x : Opr} {k : Nat} (h : ¬ ps.data.toList[k]? = some 114) : regsTo ps x (k + 1) = regsTo ps x k := by
  unfold regsTo
  rw [List.range_succ, List.filter_append, List.map_append, List.filter_cons_of_neg (by simpa using h), List.filter_nil]
  simp
theorem regsTo_pre {ps : ByteArray} {x : Opr} {k n : Nat} (h : k ≤ n) : regsTo ps x k <+: regsTo ps x n := by
  induction n with
  | zero => obtain rfl : k = 0 := by omega
            exact List.prefix_refl _
  | succ n ih =>
    rcases Nat.lt_or_ge k (n + 1) with h1 | h1
    · refine (ih (by omega)).trans ?_
      by_cases hc : ps.data.toList[n]? = some 114
      · rw [regsTo_yes hc]; exact List.prefix_append _ _
      · rw [regsTo_no hc]; exact List.prefix_refl _
    · obtain rfl : k = n + 1 := by omega
      exact List.prefix_refl _
theorem regsTo_len {ps : ByteArray} {x : Opr} (k : Nat) : (regsTo ps x k).length ≤ k := by
  unfold regsTo
  rw [List.length_map]
  have := List.length_filter_le (fun i => decide (ps.data.toList[i]? = some 114)) (List.range k)
  simpa using this
theorem oregs_len (x : Opr) : (oregs x).length ≤ 3 := by
  unfold oregs
  split
  · have h1 := regsTo_len (ps := fpart x.kind) (x := x) (fpart x.kind).size
    have h2 : (fpart x.kind).size ≤ 3 := part_len x.kind
    omega
  · simp
theorem abides_below {α : Type} {B : Nat} {J : α → World → Prop} (hJ : AbidesFrom B J) {s : α} {W W' : World} (h : J s W) (hb : Below W.heap.size W W') : J s W' :=
  hJ s W W' none h ⟨hb.os, hb.tape, hb.output, hb.size, fun k hk _ => hb.block k hk⟩ (fun r e => by cases e)
theorem abides_iter {α : Type} {B : Nat} {J : α → World → Prop} (hJ : AbidesFrom B J) {s : α} {W : World} (h : J s W) {k pos : Nat} {ps : ByteArray} (hk : B ≤ k) (hi : W.heap[k]? = some (.stringIter ps pos)) (pos' : Nat) : J s (W.iterAt k ps pos') := by
  refine hJ s W _ (some k) h ⟨rfl, rfl, rfl, by rw [Lib.iterAt_size]; exact Nat.le_refl _, fun j hj hn => Lib.iterAt_other W k j ps pos' (fun e => hn (by rw [e]))⟩ (fun r e => ?_)
  cases e
  exact ⟨hk, _, hi, rfl⟩
/-- what a round keeps for this iterator -/
def RKp (Bn : Nat) (W W' : World) : Prop := W'.heap[Bn]? = W.heap[Bn]? ∧ KeepsWalks W W'
theorem rkp_t {Bn : Nat} {A B C : World} (h : RKp Bn A B) (k : RKp Bn B C) : RKp Bn A C := ⟨k.1.trans h.1, h.2.trans k.2⟩
theorem rkp_b {Bn : Nat} {w : World} (hn : Bn < w.heap.size) (W : World) (l : Nat) (o o' : Obj) (hl : w.heap.size ≤ l) (h : W.heap[l]? = some o) (hc : o.isCells = false) (hw : o.isWalk = false) : RKp Bn W (W.putObj l o') :=
  ⟨(belowK_b (n₀ := w.heap.size) (Nat.le_refl _) W l o o' hl h hc hw).block Bn hn, walksK_b W l o o' hl h hc hw⟩
theorem rkp_set {Bn : Nat} (W : World) {k : Nat} (h : Bn ≠ k) (v : Value) : RKp Bn W (W.setCell ⟨k, 0, none⟩ v) := ⟨Below.heap_setCell _ _ _ _ h, (KeepsOthers.setCell _ _ _).walks⟩
set_option maxRecDepth 100000 in
set_option maxHeartbeats 4000000 in
theorem regs1_in (n : Nat) (hn : 1 ≤ n) (l Bn : Nat) (x : Opr) (J Jx : List Int → World → Prop)
    (hY : ∀ pre y W, J pre W → pre.length < (oregs x).length → YieldAt Fence.wide (n - 1) Tryd.prog l #[.int .i64 y] W fun e W' =>
      (e = .returned (.bool true) ∧ J (pre ++ [y]) W' ∧ RKp Bn W W') ∨ (e = .returned (.bool false) ∧ Jx (pre ++ [y]) W'))
    (W : World) (hJ : AbidesFrom W.heap.size J) (hX : W.heap[Bn]? = some x.obj) (h0 : J [] W) :
    CallsIn Fence.wide n Tryd.prog 90 #[.func (.yield l) #[] #[], .pointer (some ⟨Bn, 0, none⟩)] W fun e W' => (∃ v, e = .returned v) ∧
      ((∃ ys, ys = oregs x ∧ J ys W') ∨ (∃ pre, pre <+: oregs x ∧ Jx pre W')) := by
  have HJ := Lib.hid hJ
  have HX := Lib.hid hX
  obtain ⟨x0, x1, x2, x3⟩ := opr_cells hX
  clear hJ hX
  by_cases hk : 1 ≤ x.kind ∧ x.kind ≤ 11
  · have HO : Hid (oregs x = regsTo (fpart x.kind) x (fpart x.kind).size) := by unfold Hid oregs; rw [if_pos hk]
    have hl3 : (fpart x.kind).size ≤ 3 := part_len x.kind
    have HPB : Hid (∀ (i : Nat) (h : i < (fpart x.kind).size), (fpart x.kind)[i]'h = 114 ∨ (fpart x.kind)[i]'h = 103 ∨ (fpart x.kind)[i]'h = 107) := fun i h => part_bytes x.kind _ (by simp [fpart, ByteArray.getElem_eq_getElem_data])
    have HK := Lib.hid hk
    clear hk
    refine callsIn_of_wp Tryd.func90 rfl trivial ?_ rfl
    simp only [Tryd.ntmps90, List.size_toArray, List.length_cons, List.length_nil, Nat.reduceAdd, Nat.reduceSub, Array.replicate_succ, Array.replicate_zero, List.push_toArray, List.append_toArray, List.nil_append, List.cons_append]
    gi_wp2
    refine ⟨trivial, ?_⟩
    refine (callsIn_wide.2 (of_any _ x.kind HK.out.1 HK.out.2)).mono ?_
    rintro e w2 ⟨rfl, hb⟩
    have HJ2 := Lib.hid (abides_below HJ.out h0 hb)
    have HB2 : Hid (w2.heap[Bn]? = some x.obj) := (hb.block _ (block_lt HX.out)).trans HX.out
    have hBn : Bn < W.heap.size := block_lt HX.out
    have hz2 := hb.size
    generalize fpart x.kind = ps at *
    generalize fname x.kind = nm at *
    clear x0 x1 x2 x3 hb
    gi_wp2
    gi_loopw [5, 6] (fun _ _ wr => ∃ pos : Nat, pos ≤ ps.size ∧ wr.heap[w2.heap.size + 1]? = some (.stringIter ps pos) ∧ Hid (J (regsTo ps x pos) wr) ∧ Hid (wr.heap[Bn]? = some x.obj)) (fun _ _ wr => ps.size - wr.iterPos (w2.heap.size + 1))
    case atStart =>
      have hb3 : Below w2.heap.size w2 (((w2.alloc (.cells #[.string nm, .string ps] 113))).iter ps 0) := ((Below.refl _ _).alloc (Nat.le_refl _) _).alloc (by simp) _
      refine ⟨0, Nat.zero_le _, ?_, abides_below HJ.out HJ2.out hb3, (hb3.block _ (by omega)).trans HB2.out⟩
      have := World.iter_heap (w2.alloc (.cells #[.string nm, .string ps] 113)) ps 0
      simpa using this
    case round =>
      obtain ⟨pos, hpos, hit, HJP, HB⟩ := hrel
      have hsz : w2.heap.size + 1 < wr.heap.size := block_lt hit
      by_cases hp : pos < ps.size
      · have hq128 : (ps[pos]'hp).toNat < 128 := by
          rcases HPB.out pos hp with e | e | e <;> rw [e] <;> decide
        have hnx : ∀ ty, (Instr.next (.pointer (some ⟨w2.heap.size + 1, 0, none⟩)) true ty).run Tryd.prog wr = .ok (.tuple #[.bool true, .int .i64 pos, .int .i32 (ps[pos]'hp).toNat]) (wr.iterAt (w2.heap.size + 1) ps (pos + 1)) := fun ty => Lib.run_next_ascii_at wr (w2.heap.size + 1) ps pos ty hit hp hq128
        have HIT := Lib.hid hit
        have HIT2 := Lib.hid (Lib.iterAt_heap wr (w2.heap.size + 1) ps pos (pos + 1) hit)
        have HXr : Hid ((wr.iterAt (w2.heap.size + 1) ps (pos + 1)).heap[Bn]? = some x.obj) := (Lib.iterAt_other wr (w2.heap.size + 1) Bn ps (pos + 1) (by omega)).trans HB.out
        have HJr := Lib.hid (abides_iter HJ.out HJP.out (k := w2.heap.size + 1) (by omega) hit (pos + 1))
        have hszr := Lib.iterAt_size wr (w2.heap.size + 1) ps (pos + 1)
        have hget : ps.data.toList[pos]? = some (ps[pos]'hp) := by
          simp [ByteArray.getElem_eq_getElem_data]
        obtain ⟨W1, hW1⟩ : ∃ W1, W1 = wr.iterAt (w2.heap.size + 1) ps (pos + 1) := ⟨_, rfl⟩
        rw [← hW1] at hnx HIT2 HXr HJr hszr
        obtain ⟨x0, x1, x2, x3⟩ := opr_cells HXr.out
        have HP := Lib.hid hp
        have hl3' : pos < 3 := by omega
        by_cases hr : (ps[pos]'hp) = 114
        · have HYS : Hid (regsTo ps x (pos + 1) = regsTo ps x pos ++ [x.num pos]) := regsTo_yes (by rw [hget, hr])
          have HLT : Hid ((regsTo ps x pos).length < (oregs x).length) := by
            have h1 := (regsTo_pre (ps := ps) (x := x) (show pos + 1 ≤ ps.size from hp)).length_le
            rw [HYS.out, List.length_append, List.length_singleton] at h1
            unfold Hid
            rw [HO.out]
            omega
          rw [hr] at hnx
          have hnx2 : ∀ ty, (Instr.next (.pointer (some ⟨w2.heap.size + 1, 0, none⟩)) true ty).run Tryd.prog wr = .ok (.tuple #[.bool true, .int .i64 pos, .int .i32 114]) W1 := hnx
          clear hnx hit HB hq128 hW1 hr hget
          gi_wp2
          refine ⟨trivial, ?_⟩
          refine (callsIn_wide.2 (number_any _ x pos hl3')).mono ?_
          rintro e w3 ⟨rfl, hb⟩
          have HJ3 := Lib.hid (abides_below HJ.out HJr.out hb)
          have HB3 : Hid (w3.heap[Bn]? = some x.obj) := (hb.block _ (block_lt HXr.out)).trans HXr.out
          have HI3 : Hid (w3.heap[w2.heap.size + 1]? = some (.stringIter ps (pos + 1))) := (hb.block _ (by omega)).trans HIT2.out
          clear x0 x1 x2 x3 hb
          obtain ⟨fn, tmps, assign, body, hy, hR⟩ := hY (regsTo ps x pos) (x.num pos) w3 HJ3.out HLT.out
          have HR := Lib.hid hR
          clear hR
          gi_wp2
          refine HR.out.mono ?_
          rintro e W4 (⟨rfl, hJ4, hk4⟩ | ⟨rfl, hJx4⟩)
          · have HJ4 := Lib.hid hJ4
            have HB4 : Hid (W4.heap[Bn]? = some x.obj) := hk4.1.trans HB3.out
            have HI4 : W4.heap[w2.heap.size + 1]? = some (.stringIter ps (pos + 1)) := hk4.2.same _ _ HI3.out rfl
            have HI4' := Lib.hid HI4
            clear hJ4 hk4 HI4
            gi_wp2
            go_roundw
            case rel => exact ⟨pos + 1, by have := HP.out; omega, HI4'.out, by rw [HYS.out]; exact HJ4, HB4⟩
            case measure =>
              have h1 := HI4'.out
              have h2 := HIT.out
              simp only [World.iterPos, h1, h2]
              omega
          · have HJ4 := Lib.hid hJx4
            clear hJx4
            gi_wp2
            refine bodyPost_ret (results_none rfl _ _ _) rfl ?_
            exact ⟨⟨_, rfl⟩, .inr ⟨_, by rw [← HYS.out, HO.out]; exact regsTo_pre HP.out, HJ4.out⟩⟩
        · have HYS : Hid (regsTo ps x (pos + 1) = regsTo ps x pos) := regsTo_no (by rw [hget]; intro e; exact hr (Option.some.inj e))
          have tq : (((ps[pos]'hp).toNat : Int) == 114) = false := by
            rw [beq_eq_false_iff_ne]
            intro e
            rcases HPB.out pos hp with e2 | e2 | e2
            · exact hr e2
            · rw [e2] at e; exact absurd e (by decide)
            · rw [e2] at e; exact absurd e (by decide)
          generalize (ps[pos]'hp).toNat = q at hnx tq
          clear hit HB hq128 hW1 hr hget
          gi_wp2
          refine ⟨trivial, ?_⟩
          gi_wp2
          refine ⟨fun _ h => (by cases h), ?_⟩
          gi_wp2
          go_roundw
          case rel => exact ⟨pos + 1, by have := HP.out; omega, HIT2.out, by rw [HYS.out]; exact HJr, HXr⟩
          case measure =>
            have h1 := HIT2.out
            have h2 := HIT.out
            simp only [World.iterPos, h1, h2]
            omega
      · have hpe : pos = ps.size := by omega
        have hnx : ∀ ty, (Instr.next (.pointer (some ⟨w2.heap.size + 1, 0, none⟩)) true ty).run Tryd.prog wr = _ := fun ty => Lib.run_next_end_at wr (w2.heap.size + 1) ps pos ty hit hp
        have HE : Hid (regsTo ps x pos = oregs x) := by unfold Hid; rw [HO.out, hpe]
        clear hit
        gi_wp2
        go_end0
        exact ⟨⟨_, rfl⟩, .inl ⟨_, rfl, by rw [← HE.out]; exact HJP.out⟩⟩
  · have HO : Hid (oregs x = []) := by unfold Hid oregs; rw [if_neg hk]
    have HK := Lib.hid hk
    clear hk
    refine callsIn_of_wp Tryd.func90 rfl trivial ?_ rfl
    simp only [Tryd.ntmps90, List.size_toArray, List.length_cons, List.length_nil, Nat.reduceAdd, Nat.reduceSub, Array.replicate_succ, Array.replicate_zero, List.push_toArray, List.append_toArray, List.nil_append, List.cons_append]
    gi_wp2
    refine ⟨trivial, ?_⟩
    refine (callsIn_wide.2 (of_out _ x.kind HK.out)).mono ?_
    rintro e w2 ⟨rfl, hb⟩
    have HJ2 := Lib.hid (abides_below HJ.out h0 hb)
    clear x0 x1 x2 x3 hb
    gi_wp2
    gi_loopw [5, 6] (fun _ _ wr => wr.heap[w2.heap.size + 1]? = some (.stringIter ⟨#[]⟩ 0) ∧ Hid (J [] wr)) (fun _ _ _ => 0)
    case atStart =>
      have hb3 : Below w2.heap.size w2 (((w2.alloc (.cells #[.string ⟨#[]⟩, .string ⟨#[]⟩] 113))).iter ⟨#[]⟩ 0) := ((Below.refl _ _).alloc (Nat.le_refl _) _).alloc (by simp) _
      refine ⟨?_, abides_below HJ.out HJ2.out hb3⟩
      have := World.iter_heap (w2.alloc (.cells #[.string ⟨#[]⟩, .string ⟨#[]⟩] 113)) ⟨#[]⟩ 0
      simpa using this
    case round =>
      obtain ⟨hit, HJP⟩ := hrel
      have hnx : ∀ ty, (Instr.next (.pointer (some ⟨w2.heap.size + 1, 0, none⟩)) true ty).run Tryd.prog wr = _ := fun ty => Lib.run_next_end_at wr (w2.heap.size + 1) ⟨#[]⟩ 0 ty hit (by decide)
      clear hit
      gi_wp2
      go_end0
      exact ⟨⟨_, rfl⟩, .inl ⟨_, rfl, by rw [HO.out]; exact HJP.out⟩⟩
theorem regs_stops (n : Nat) (hn : 1 ≤ n) (Bn : Nat) (x : Opr) (w : World) (hX : w.heap[Bn]? = some x.obj) :
    SeqStopsK Fence.wide n Tryd.prog 90 #[.pointer (some ⟨Bn, 0, none⟩)] (fun y : Int => #[Value.int .i64 y]) (RKp Bn) (fun ys => ys = oregs x) (fun pre => pre <+: oregs x) (oregs x).length w := fun l J Jx W hW hJ _ hY h0 =>
  regs1_in n hn l Bn x J Jx hY W hJ ((hW.block Bn (block_lt hX)).trans hX) h0
theorem regsMk_any (w : World) (x : Opr) : Calls Tryd.prog 46 #[x.v] w fun e w' => e = .returned (.func (.func 90) #[] #[.pointer (some ⟨w.heap.size, 0, none⟩)]) ∧ w' = w.alloc x.obj := by
  go_enter Tryd.func46, Tryd.ntmps46
  go_wp2_with fail
  go_ret
  exact ⟨rfl, rfl⟩
end Go.Proofs.YtdohmjdcgpkclaaDoor

/- The document's ideal store in memory. The contract of mudlarkref09 Get. The contracts of mudlarkref09 put and Reg. -/
import Derived.Test.YtipoklnoknkfhaaDoorRef09
import Derived.Test.YtipoklnoknkfhaaDoorIdealRefPure
import Derived.Test.YtipoklnoknkfhaaDoorIdeal
namespace Go.Proofs.YtipoklnoknkfhaaDoor
open Go Go.RowKit
set_option linter.unusedSimpArgs false
set_option linter.unusedVariables false

def pflat : List Pt → List Value
  | [] => []
  | p :: r => .int .i64 p.kind :: .int .i64 p.a :: .int .i64 p.b :: .int .u64 p.w :: pflat r
theorem pflat_len : ∀ l : List Pt, (pflat l).length = l.length * 4
  | [] => rfl
  | p :: r => by simp [pflat, pflat_len r]; omega
theorem pflat_append : ∀ l m : List Pt, pflat (l ++ m) = pflat l ++ pflat m
  | [], _ => rfl
  | p :: r, m => by simp [pflat, pflat_append r m]
theorem pflat_at : ∀ (l : List Pt) (i : Nat) (p : Pt), l[i]? = some p → (pflat l)[i * 4]? = some (.int .i64 p.kind) ∧ (pflat l)[i * 4 + 1]? = some (.int .i64 p.a) ∧ (pflat l)[i * 4 + 2]? = some (.int .i64 p.b) ∧ (pflat l)[i * 4 + 3]? = some (.int .u64 p.w)
  | [], i, p, h => by simp at h
  | q :: r, 0, p, h => by
    obtain rfl : q = p := by simpa using h
    exact ⟨rfl, rfl, rfl, rfl⟩
  | q :: r, i + 1, p, h => by
    have := pflat_at r i p (by simpa using h)
    rw [show (i + 1) * 4 = i * 4 + 1 + 1 + 1 + 1 by omega]
    simpa [pflat] using this
/-- what Get finds among the first k+1 puts, seen from behind -/
theorem getL_take (l : List Pt) (k : Nat) (p : Pt) (h : l[k]? = some p) (kd a b : Int) : getL (l.take (k + 1)) kd a b = if p.kind = kd ∧ p.a = a ∧ p.b = b then p.w else getL (l.take k) kd a b := by
  have e : l.take (k + 1) = l.take k ++ [p] := by
    rw [List.take_add_one, h]
    rfl
  rw [e, getL_snoc]
structure RAt (w : World) (T : Nat → Prop) (b : Nat) (x : RSto) (v : Value) : Prop where
  head : w.heap[b]? = some (rstoObj x.c v x.n)
  rows : w.ownsRow 0 174 4 v x.puts.length (pflat x.puts)
  tb : T b
  tv : ∀ g, v.ownBlock = some g → T g
  ne : v.ownBlock ≠ some b
end Go.Proofs.YtipoklnoknkfhaaDoor
namespace Go.Proofs.YtipoklnoknkfhaaDoor
open Go Go.RowKit
set_option linter.unusedSimpArgs false
set_option linter.unusedVariables false

theorem rget_any (w : World) (T : Nat → Prop) (b : Nat) (x : RSto) (v : Value) (h : RAt w T b x v) (kd a c' : Int) (hlen : x.puts.length ≤ 100000) :
    Calls Tryd.prog 59 #[.pointer (some ⟨b, 0, none⟩), .int .i64 kd, .int .i64 a, .int .i64 c'] w fun e w' => e = .returned (.int .u64 (x.get kd a c')) ∧ Below w.heap.size w w' := by
  have hv : ∃ A c, v = .slice A x.puts.length c := by
    rcases h.rows.2 with ⟨rfl, e⟩ | ⟨g, cap, cur, rfl, _⟩
    · exact ⟨none, 0, by rw [e]⟩
    · exact ⟨_, _, rfl⟩
  obtain ⟨A, c, rfl⟩ := hv
  have H := Lib.hid h
  have k4 : w.cell? ⟨b, 4, none⟩ = some (.slice A x.puts.length c) := cell_of_block h.head 4
  have s0 : IntKind.i64.wrap ((x.puts.length : Int) - 1) = (x.puts.length : Int) - 1 := IntWalk.i64_in _ (by omega)
  clear h
  go_enter Tryd.func59, Tryd.ntmps59
  go_wp2_with fail
  clear s0
  go_loopw [9, 10] (fun i _ wr => ∃ k : Nat, k ≤ x.puts.length ∧ i = .int .i64 ((k : Int) - 1) ∧ Hid (getL (x.puts.take k) kd a c' = x.get kd a c') ∧ Below w.heap.size w wr) (fun i _ _ => (intOf i + 1).toNat)
  case atStart => exact ⟨x.puts.length, Nat.le_refl _, rfl, by unfold Hid RSto.get; rw [List.take_length], Below.refl _ _⟩
  case round =>
    obtain ⟨k, hk, rfl, HG, hB⟩ := hrel
    have HB := Lib.hid hB
    clear hB
    rcases k with _ | j
    · have d : decide (0 ≤ ((0 : Nat) : Int) - 1) = false := by decide
      go_wp2_with fail
      go_ret
      exact ⟨by rw [← HG.out]; rfl, HB.out⟩
    · have e1 : ((j + 1 : Nat) : Int) - 1 = (j : Int) := by omega
      rw [e1]
      clear e1
      obtain ⟨p, hp⟩ : ∃ p, x.puts[j]? = some p := ⟨_, List.getElem?_eq_getElem (by omega)⟩
      have HT := Lib.hid (getL_take x.puts j p hp kd a c')
      obtain ⟨q0, q1, q2, q3⟩ := pflat_at x.puts j p hp
      obtain ⟨g, cap, hv, _, hgl⟩ := H.out.rows.form (by omega)
      simp at hv
      obtain ⟨rfl, rfl⟩ := hv
      have hc : ∀ i, i < x.puts.length * 4 → wr.cell? ⟨g, i, none⟩ = (pflat x.puts)[i]? := fun i hi => (HB.out.cell (p := ⟨g, i, none⟩) hgl).trans (H.out.rows.cellAt i hi)
      have p0 := (hc (j * 4) (by omega)).trans q0
      have p1 := (hc (j * 4 + 1) (by omega)).trans q1
      have p2 := (hc (j * 4 + 2) (by omega)).trans q2
      have p3 := (hc (j * 4 + 3) (by omega)).trans q3
      have b4 : wr.cell? ⟨b, 4, none⟩ = some (.slice (some ⟨g, 0, none⟩) x.puts.length c) := (HB.out.cell (p := ⟨b, 4, none⟩) (block_lt H.out.head)).trans k4
      have hnew := heap_alloc_new wr (.cells #[.int .i64 p.kind, .int .i64 p.a, .int .i64 p.b, .int .u64 p.w] 174)
      have z0 := cell_of_block hnew 0
      have z1 := cell_of_block hnew 1
      have z2 := cell_of_block hnew 2
      have z3 := cell_of_block hnew 3
      have HBn : Hid (Below w.heap.size w (wr.alloc (.cells #[.int .i64 p.kind, .int .i64 p.a, .int .i64 p.b, .int .u64 p.w] 174))) := HB.out.alloc HB.out.size _
      have sj : IntKind.i64.wrap ((j : Int) - 1) = (j : Int) - 1 := IntWalk.i64_in _ (by omega)
      have i1 : (0 : Int) ≤ (j : Int) := by omega
      have i2 : (j : Int) < (x.puts.length : Int) := by omega
      clear hc q0 q1 q2 q3 hnew hgl hp k4
      by_cases c0 : p.kind = kd
      case neg =>
        have t0 : (p.kind == kd) = false := by rw [beq_eq_false_iff_ne]; exact c0
        have CN : Hid (¬ (p.kind = kd ∧ p.a = a ∧ p.b = c')) := fun h => c0 h.1
        clear c0
        go_wp2_with fail
        go_roundw
        case rel => exact ⟨j, by omega, rfl, by unfold Hid; rw [← HG.out, HT.out, if_neg (CN.out)], HBn.out⟩
        case measure => (simp [intOf] <;> omega)
      have t0 : (p.kind == kd) = true := by rw [beq_iff_eq]; exact c0
      by_cases c1 : p.a = a
      case neg =>
        have t1 : (p.a == a) = false := by rw [beq_eq_false_iff_ne]; exact c1
        have CN : Hid (¬ (p.kind = kd ∧ p.a = a ∧ p.b = c')) := fun h => c1 h.2.1
        clear c0 c1
        go_wp2_with fail
        go_roundw
        case rel => exact ⟨j, by omega, rfl, by unfold Hid; rw [← HG.out, HT.out, if_neg (CN.out)], HBn.out⟩
        case measure => (simp [intOf] <;> omega)
      have t1 : (p.a == a) = true := by rw [beq_iff_eq]; exact c1
      by_cases c2 : p.b = c'
      case neg =>
        have t2 : (p.b == c') = false := by rw [beq_eq_false_iff_ne]; exact c2
        have CN : Hid (¬ (p.kind = kd ∧ p.a = a ∧ p.b = c')) := fun h => c2 h.2.2
        clear c0 c1 c2
        go_wp2_with fail
        go_roundw
        case rel => exact ⟨j, by omega, rfl, by unfold Hid; rw [← HG.out, HT.out, if_neg (CN.out)], HBn.out⟩
        case measure => (simp [intOf] <;> omega)
      have t2 : (p.b == c') = true := by rw [beq_iff_eq]; exact c2
      have CP : Hid (p.kind = kd ∧ p.a = a ∧ p.b = c') := ⟨c0, c1, c2⟩
      clear c0 c1 c2
      go_wp2_with fail
      go_ret
      exact ⟨by rw [← HG.out, HT.out, if_pos CP.out]; rfl, HBn.out⟩
end Go.Proofs.YtipoklnoknkfhaaDoor
namespace Go.Proofs.YtipoklnoknkfhaaDoor
open Go Go.RowKit
set_option linter.unusedSimpArgs false
set_option linter.unusedVariables false

theorem RAt.keep {w w' : World} {T S : Nat → Prop} {b : Nat} {x : RSto} {v : Value} (h : RAt w T b x v) (k : Keep S w w') (hs : ∀ y, T y → ¬ S y) : RAt w' T b x v where
  head := k.at_ h.head (hs b h.tb)
  rows := ownsRow_keep h.rows k (fun g hg => hs g (h.tv g hg))
  tb := h.tb
  tv := h.tv
  ne := h.ne
theorem RAt.below {w w' : World} {T : Nat → Prop} {b : Nat} {x : RSto} {v : Value} (h : RAt w T b x v) (k : Below w.heap.size w w') : RAt w' T b x v := h.keep (Keep.of_below k (fun _ => False)) (fun _ _ => id)
theorem RAt.wide {w : World} {T T' : Nat → Prop} {b : Nat} {x : RSto} {v : Value} (h : RAt w T b x v) (ht : ∀ y, T y → T' y) : RAt w T' b x v := { h with tb := ht _ h.tb, tv := fun g hg => ht _ (h.tv g hg) }
theorem RAt.drew {w : World} {T : Nat → Prop} {b : Nat} {x : RSto} {v : Value} (h : RAt w T b x v) : RAt w.drew T b x v := h.keep ((Keep.refl (fun _ => False) w).drew) (fun _ _ => id)
theorem RAt.drewN {w : World} {T : Nat → Prop} {b : Nat} {x : RSto} {v : Value} (h : RAt w T b x v) (n : Nat) : RAt (w.drewN n) T b x v := h.keep ((Keep.refl (fun _ => False) w).drewN n) (fun _ _ => id)
theorem RAt.lt {w : World} {T : Nat → Prop} {b : Nat} {x : RSto} {v : Value} (h : RAt w T b x v) : b < w.heap.size := block_lt h.head
theorem info_put : (Tryd.prog.info? 174).map (fun i => (i.zero, i.size, i.bytes)) = some (some (.agg #[.int .i64 0, .int .i64 0, .int .i64 0, .int .u64 0]), 4, 32) := by kernel_rfl
theorem info_put' : ∃ i, Tryd.prog.info? 174 = some i ∧ i.zero = some (.agg #[.int .i64 0, .int .i64 0, .int .i64 0, .int .u64 0]) ∧ i.size = 4 ∧ i.bytes = 32 := by
  have := info_put
  cases hh : Tryd.prog.info? 174 with
  | none => rw [hh] at this; cases this
  | some i =>
    rw [hh] at this
    simp at this
    exact ⟨i, rfl, this⟩
theorem reads_quad (W : World) (E : TypeId) (a c d e : Value) : Reads (W.alloc (.cells #[a, c, d, e] E)) (W.heap.size + 1) 4 (some ⟨W.heap.size, 0, none⟩) 1 [a, c, d, e] := by
  refine ⟨rfl, fun _ => ⟨_, rfl, by simp, fun j u hu => ?_⟩⟩
  have hj : j < 4 := by
    have := (List.getElem?_eq_some_iff.1 hu).1
    simpa using this
  have e : (⟨W.heap.size, 0, none⟩ : Addr).add j = ⟨W.heap.size, j, none⟩ := by unfold Addr.add; split <;> simp_all
  rw [e, cell_of_block (heap_alloc_new W _)]
  obtain rfl | rfl | rfl | rfl : j = 0 ∨ j = 1 ∨ j = 2 ∨ j = 3 := by omega
  all_goals simpa using hu
theorem RAt.pushed {W w' : World} {T : Nat → Prop} {b : Nat} {x : RSto} {v v' : Value} (h : RAt W T b x v) (k a c' u : Int)
    (h1 : w'.ownsRow 0 174 4 v' (x.puts.length + 1) (pflat x.puts ++ [.int .i64 k, .int .i64 a, .int .i64 c', .int .u64 u])) (hg : W.grownBy w' v.ownBlock) (hv : v'.ownBlock = v.ownBlock ∨ v'.ownBlock = some W.heap.size) :
    RAt (w'.setCell ⟨b, 4, none⟩ v') (fun y => T y ∨ (W.heap.size ≤ y ∧ y < w'.heap.size)) b (x.put k a c' u) v' := by
  have hk : Keep (fun g => v.ownBlock = some g) W w' := Keep.of_grown hg (fun _ h => h)
  have hlb := h.lt
  have nb : v'.ownBlock ≠ some b := by
    rcases hv with e | e <;> rw [e]
    · exact h.ne
    · intro e1; simp at e1; omega
  have hh' := hk.at_ h.head h.ne
  exact {
    head := by
      rw [block_setCell hh' 4 v']
      simp [RSto.put]
    rows := by
      have e : pflat (x.put k a c' u).puts = pflat x.puts ++ [.int .i64 k, .int .i64 a, .int .i64 c', .int .u64 u] := by
        simp [RSto.put, pflat_append, pflat]
      rw [e, show (x.put k a c' u).puts.length = x.puts.length + 1 by simp [RSto.put]]
      exact ownsRow_setCell_other h1 (fun e => nb (by simpa using e)) _
    tb := Or.inl h.tb
    tv := fun y hy => by
      rcases hv with e | e
      · exact Or.inl (h.tv y (by rw [← e]; exact hy))
      · rw [e] at hy
        simp at hy
        subst hy
        exact Or.inr ⟨Nat.le_refl _, (h1.lt _ e).2⟩
    ne := nb }
def IsR (w : World) (T : Nat → Prop) (b : Nat) (x : RSto) : Prop := ∃ v, RAt w T b x v
theorem IsR.keep {w w' : World} {T S : Nat → Prop} {b : Nat} {x : RSto} (h : IsR w T b x) (k : Keep S w w') (hs : ∀ y, T y → ¬ S y) : IsR w' T b x := h.elim fun v h => ⟨v, h.keep k hs⟩
theorem IsR.below {w w' : World} {T : Nat → Prop} {b : Nat} {x : RSto} (h : IsR w T b x) (k : Below w.heap.size w w') : IsR w' T b x := h.elim fun v h => ⟨v, h.below k⟩
theorem IsR.wide {w : World} {T T' : Nat → Prop} {b : Nat} {x : RSto} (h : IsR w T b x) (ht : ∀ y, T y → T' y) : IsR w T' b x := h.elim fun v h => ⟨v, h.wide ht⟩
theorem IsR.drew {w : World} {T : Nat → Prop} {b : Nat} {x : RSto} (h : IsR w T b x) : IsR w.drew T b x := h.elim fun v h => ⟨v, h.drew⟩
theorem IsR.drewN {w : World} {T : Nat → Prop} {b : Nat} {x : RSto} (h : IsR w T b x) (n : Nat) : IsR (w.drewN n) T b x := h.elim fun v h => ⟨v, h.drewN n⟩
theorem IsR.lt {w : World} {T : Nat → Prop} {b : Nat} {x : RSto} (h : IsR w T b x) : b < w.heap.size := h.elim fun v h => h.lt
theorem IsR.tb {w : World} {T : Nat → Prop} {b : Nat} {x : RSto} (h : IsR w T b x) : T b := h.elim fun v h => h.tb
theorem IsR.hc {w : World} {T : Nat → Prop} {b : Nat} {x : RSto} (h : IsR w T b x) : w.cell? ⟨b, 0, none⟩ = some (.int .i64 x.c.cells) ∧ w.cell? ⟨b, 1, none⟩ = some (.int .i64 x.c.muts) ∧ w.cell? ⟨b, 2, none⟩ = some (.int .i64 x.c.regs) ∧ w.cell? ⟨b, 3, none⟩ = some (.int .i64 x.c.globs) ∧ w.cell? ⟨b, 5, none⟩ = some (.int .i64 x.n) ∧ w.frozen? ⟨b, 5, none⟩ = false := by
  obtain ⟨v, h⟩ := h
  exact ⟨cell_of_block h.head 0, cell_of_block h.head 1, cell_of_block h.head 2, cell_of_block h.head 3, cell_of_block h.head 5, frozen_of_block h.head 5⟩
theorem IsR.setN {w : World} {T : Nat → Prop} {b : Nat} {x : RSto} (h : IsR w T b x) (n : Int) : IsR (w.setCell ⟨b, 5, none⟩ (.int .i64 n)) T b { x with n := n } := by
  obtain ⟨v, h⟩ := h
  exact ⟨v, { head := by
                rw [block_setCell h.head 5 (.int .i64 n)]
                simp
              rows := ownsRow_setCell_other h.rows (fun e => h.ne (by simpa using e)) _
              tb := h.tb
              tv := h.tv
              ne := h.ne }⟩

set_option maxRecDepth 100000 in
theorem rput_any (w : World) (T : Nat → Prop) (b : Nat) (x : RSto) (h0 : IsR w T b x) (k a c' u : Int) (hlen : x.puts.length ≤ 100000) :
    Calls Tryd.prog 56 #[.pointer (some ⟨b, 0, none⟩), .int .i64 k, .int .i64 a, .int .i64 c', .int .u64 u] w fun e w' => e = .returned (.tuple #[]) ∧ IsR w' (fun y => T y ∨ (w.heap.size ≤ y ∧ y < w'.heap.size)) b (x.put k a c' u) ∧ Keep T w w' := by
  obtain ⟨v, h⟩ := h0
  have H := Lib.hid h
  have H1 := Lib.hid (h.below ((Below.refl _ _).alloc (Nat.le_refl _) (.cells #[.int .i64 k, .int .i64 a, .int .i64 c', .int .u64 u] 174)))
  have k4 : w.cell? ⟨b, 4, none⟩ = some v := cell_of_block h.head 4
  have hlt := h.lt
  obtain ⟨i0, hi0, hz0, hz1, hz2⟩ := info_put'
  clear h
  go_enter Tryd.func56, Tryd.ntmps56
  go_wp2_with (first
    | (at_builtin
       refine wpList_append_any _ rfl (.tmp 14) (.tmp 20) _ rfl 0 174 i0 _ 4 32 Tryd.underlying104 hi0 hz0 hz1 hz2 rfl (by omega) v x.puts.length (pflat x.puts) rfl
         H1.out.rows _ _ 1 1 _ rfl (reads_quad _ _ _ _ _ _) (by intro u hu; simp at hu; rcases hu with rfl | rfl | rfl | rfl <;> rfl) (by unfold maxLen; omega) (by omega) (Nat.zero_le _) ?_
       intro v1 w1 hown1 hg1 hat1
       have HK1 : Hid (Keep (fun g => v.ownBlock = some g) _ w1) := Keep.of_grown hg1 (fun _ h => h)
       have c4 : w1.cell? ⟨b, 4, none⟩ = some v := (HK1.out.cell (p := ⟨b, 4, none⟩) (by simp; omega) H.out.ne).trans (cell_of_block H1.out.head 4)
       have f4 := (HK1.out.frozen (p := ⟨b, 4, none⟩) (by simp; omega) H.out.ne).trans (frozen_of_block H1.out.head 4)
       have HP := Lib.hid (H1.out.pushed k a c' u hown1 hg1 hat1)
       obtain ⟨g1, cap1, rfl, _, _⟩ := hown1.form (by omega)
       clear hown1 hg1 hat1))
  go_end0
  refine ⟨rfl, ⟨_, HP.out.wide (fun y hy => ?_)⟩, ?_⟩
  · rcases hy with hy | ⟨h1, h2⟩
    · exact Or.inl hy
    · refine Or.inr ⟨Nat.le_trans ?_ h1, ?_⟩
      · simp
      · simpa [World.setCell] using h2
  · refine Keep.setCell ?_ (Or.inl H.out.tb) _
    exact ((Keep.refl T w).alloc _).trans (HK1.out.mono (fun y _ hy => H.out.tv y hy))
theorem rget_is (w : World) (T : Nat → Prop) (b : Nat) (x : RSto) (h : IsR w T b x) (kd a c' : Int) (hlen : x.puts.length ≤ 100000) :
    Calls Tryd.prog 59 #[.pointer (some ⟨b, 0, none⟩), .int .i64 kd, .int .i64 a, .int .i64 c'] w fun e w' => e = .returned (.int .u64 (x.get kd a c')) ∧ Below w.heap.size w w' := by
  obtain ⟨v, h⟩ := h
  exact rget_any w T b x v h kd a c' hlen
theorem rreg_is (w : World) (T : Nat → Prop) (b : Nat) (x : RSto) (h : IsR w T b x) (m r : Int) (hlen : x.puts.length ≤ 100000) :
    Calls Tryd.prog 57 #[.pointer (some ⟨b, 0, none⟩), .int .i64 m, .int .i64 r] w fun e w' => e = .returned (.int .u64 (x.reg m r)) ∧ Below w.heap.size w w' := by
  have H := Lib.hid h
  clear h
  go_enter Tryd.func57, Tryd.ntmps57
  go_wp2_with fail
  refine (rget_is _ T b x H.out 0 m r hlen).mono ?_
  rintro e w1 ⟨rfl, hb⟩
  have HB := Lib.hid hb
  clear hb
  go_wp2_with fail
  go_ret
  exact ⟨rfl, HB.out⟩
end Go.Proofs.YtipoklnoknkfhaaDoor

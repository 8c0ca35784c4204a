/- The contracts of mudlarkref09 put and Reg. -/
import Derived.Test.YtoapbfglpcebmaaRGet
import Derived.Test.YtoapbfglpcebmaaIdeal
namespace Go.Proofs.Ytoapbfglpcebmaa
open Go Go.RowKit
set_option linter.unusedSimpArgs false
set_option linter.unusedVariables false

theorem RAt.keep {w w' : World} {T S : Nat → Prop} {b : Nat} {x : RSto} {v : Value} (h : RAt w T b x v) (k : Keep S w w') (hs : ∀ y, T y → ¬ S y) : RAt w' T b x v where
  head := k.at_ h.head (hs b h.tb)
  rows := ownsRow_keep h.rows k (fun g hg => hs g (h.tv g hg))
  tb := h.tb
  tv := h.tv
  ne := h.ne
theorem RAt.below {w w' : World} {T : Nat → Prop} {b : Nat} {x : RSto} {v : Value} (h : RAt w T b x v) (k : Below w.heap.size w w') : RAt w' T b x v := h.keep (Keep.of_below k (fun _ => False)) (fun _ _ => id)
theorem RAt.wide {w : World} {T T' : Nat → Prop} {b : Nat} {x : RSto} {v : Value} (h : RAt w T b x v) (ht : ∀ y, T y → T' y) : RAt w T' b x v := { h with tb := ht _ h.tb, tv := fun g hg => ht _ (h.tv g hg) }
theorem RAt.drew {w : World} {T : Nat → Prop} {b : Nat} {x : RSto} {v : Value} (h : RAt w T b x v) : RAt w.drew T b x v := h.keep ((Keep.refl (fun _ => False) w).drew) (fun _ _ => id)
theorem RAt.drewN {w : World} {T : Nat → Prop} {b : Nat} {x : RSto} {v : Value} (h : RAt w T b x v) (n : Nat) : RAt (w.drewN n) T b x v := h.keep ((Keep.refl (fun _ => False) w).drewN n) (fun _ _ => id)
theorem RAt.lt {w : World} {T : Nat → Prop} {b : Nat} {x : RSto} {v : Value} (h : RAt w T b x v) : b < w.heap.size := block_lt h.head
theorem info_put : (Try.prog.info? 109).map (fun i => (i.zero, i.size, i.bytes)) = some (some (.agg #[.int .i64 0, .int .i64 0, .int .i64 0, .int .u64 0]), 4, 32) := by kernel_rfl
theorem info_put' : ∃ i, Try.prog.info? 109 = some i ∧ i.zero = some (.agg #[.int .i64 0, .int .i64 0, .int .i64 0, .int .u64 0]) ∧ i.size = 4 ∧ i.bytes = 32 := by
  have := info_put
  cases hh : Try.prog.info? 109 with
  | none => rw [hh] at this; cases this
  | some i =>
    rw [hh] at this
    simp at this
    exact ⟨i, rfl, this⟩
theorem reads_quad (W : World) (E : TypeId) (a c d e : Value) : Reads (W.alloc (.cells #[a, c, d, e] E)) (W.heap.size + 1) 4 (some ⟨W.heap.size, 0, none⟩) 1 [a, c, d, e] := by
  refine ⟨rfl, fun _ => ⟨_, rfl, by simp, fun j u hu => ?_⟩⟩
  have hj : j < 4 := by
    have := (List.getElem?_eq_some_iff.1 hu).1
    simpa using this
  have e : (⟨W.heap.size, 0, none⟩ : Addr).add j = ⟨W.heap.size, j, none⟩ := by unfold Addr.add; split <;> simp_all
  rw [e, cell_of_block (heap_alloc_new W _)]
  obtain rfl | rfl | rfl | rfl : j = 0 ∨ j = 1 ∨ j = 2 ∨ j = 3 := by omega
  all_goals simpa using hu
theorem RAt.pushed {W w' : World} {T : Nat → Prop} {b : Nat} {x : RSto} {v v' : Value} (h : RAt W T b x v) (k a c' u : Int)
    (h1 : w'.ownsRow 0 109 4 v' (x.puts.length + 1) (pflat x.puts ++ [.int .i64 k, .int .i64 a, .int .i64 c', .int .u64 u])) (hg : W.grownBy w' v.ownBlock) (hv : v'.ownBlock = v.ownBlock ∨ v'.ownBlock = some W.heap.size) :
    RAt (w'.setCell ⟨b, 4, none⟩ v') (fun y => T y ∨ (W.heap.size ≤ y ∧ y < w'.heap.size)) b (x.put k a c' u) v' := by
  have hk : Keep (fun g => v.ownBlock = some g) W w' := Keep.of_grown hg (fun _ h => h)
  have hlb := h.lt
  have nb : v'.ownBlock ≠ some b := by
    rcases hv with e | e <;> rw [e]
    · exact h.ne
    · intro e1; simp at e1; omega
  have hh' := hk.at_ h.head h.ne
  exact {
    head := by
      rw [block_setCell hh' 4 v']
      simp [RSto.put]
    rows := by
      have e : pflat (x.put k a c' u).puts = pflat x.puts ++ [.int .i64 k, .int .i64 a, .int .i64 c', .int .u64 u] := by
        simp [RSto.put, pflat_append, pflat]
      rw [e, show (x.put k a c' u).puts.length = x.puts.length + 1 by simp [RSto.put]]
      exact ownsRow_setCell_other h1 (fun e => nb (by simpa using e)) _
    tb := Or.inl h.tb
    tv := fun y hy => by
      rcases hv with e | e
      · exact Or.inl (h.tv y (by rw [← e]; exact hy))
      · rw [e] at hy
        simp at hy
        subst hy
        exact Or.inr ⟨Nat.le_refl _, (h1.lt _ e).2⟩
    ne := nb }
def IsR (w : World) (T : Nat → Prop) (b : Nat) (x : RSto) : Prop := ∃ v, RAt w T b x v
theorem IsR.keep {w w' : World} {T S : Nat → Prop} {b : Nat} {x : RSto} (h : IsR w T b x) (k : Keep S w w') (hs : ∀ y, T y → ¬ S y) : IsR w' T b x := h.elim fun v h => ⟨v, h.keep k hs⟩
theorem IsR.below {w w' : World} {T : Nat → Prop} {b : Nat} {x : RSto} (h : IsR w T b x) (k : Below w.heap.size w w') : IsR w' T b x := h.elim fun v h => ⟨v, h.below k⟩
theorem IsR.wide {w : World} {T T' : Nat → Prop} {b : Nat} {x : RSto} (h : IsR w T b x) (ht : ∀ y, T y → T' y) : IsR w T' b x := h.elim fun v h => ⟨v, h.wide ht⟩
theorem IsR.drew {w : World} {T : Nat → Prop} {b : Nat} {x : RSto} (h : IsR w T b x) : IsR w.drew T b x := h.elim fun v h => ⟨v, h.drew⟩
theorem IsR.drewN {w : World} {T : Nat → Prop} {b : Nat} {x : RSto} (h : IsR w T b x) (n : Nat) : IsR (w.drewN n) T b x := h.elim fun v h => ⟨v, h.drewN n⟩
theorem IsR.lt {w : World} {T : Nat → Prop} {b : Nat} {x : RSto} (h : IsR w T b x) : b < w.heap.size := h.elim fun v h => h.lt
theorem IsR.tb {w : World} {T : Nat → Prop} {b : Nat} {x : RSto} (h : IsR w T b x) : T b := h.elim fun v h => h.tb
theorem IsR.hc {w : World} {T : Nat → Prop} {b : Nat} {x : RSto} (h : IsR w T b x) : w.cell? ⟨b, 0, none⟩ = some (.int .i64 x.c.cells) ∧ w.cell? ⟨b, 1, none⟩ = some (.int .i64 x.c.muts) ∧ w.cell? ⟨b, 2, none⟩ = some (.int .i64 x.c.regs) ∧ w.cell? ⟨b, 3, none⟩ = some (.int .i64 x.c.globs) ∧ w.cell? ⟨b, 5, none⟩ = some (.int .i64 x.n) ∧ w.frozen? ⟨b, 5, none⟩ = false := by
  obtain ⟨v, h⟩ := h
  exact ⟨cell_of_block h.head 0, cell_of_block h.head 1, cell_of_block h.head 2, cell_of_block h.head 3, cell_of_block h.head 5, frozen_of_block h.head 5⟩
theorem IsR.setN {w : World} {T : Nat → Prop} {b : Nat} {x : RSto} (h : IsR w T b x) (n : Int) : IsR (w.setCell ⟨b, 5, none⟩ (.int .i64 n)) T b { x with n := n } := by
  obtain ⟨v, h⟩ := h
  exact ⟨v, { head := by
                rw [block_setCell h.head 5 (.int .i64 n)]
                simp
              rows := ownsRow_setCell_other h.rows (fun e => h.ne (by simpa using e)) _
              tb := h.tb
              tv := h.tv
              ne := h.ne }⟩

set_option maxRecDepth 100000 in
theorem rput_any (w : World) (T : Nat → Prop) (b : Nat) (x : RSto) (h0 : IsR w T b x) (k a c' u : Int) (hlen : x.puts.length ≤ 100000) :
    Calls Try.prog 56 #[.pointer (some ⟨b, 0, none⟩), .int .i64 k, .int .i64 a, .int .i64 c', .int .u64 u] w fun e w' => e = .returned (.tuple #[]) ∧ IsR w' (fun y => T y ∨ (w.heap.size ≤ y ∧ y < w'.heap.size)) b (x.put k a c' u) ∧ Keep T w w' := by
  obtain ⟨v, h⟩ := h0
  have H := Lib.hid h
  have H1 := Lib.hid (h.below ((Below.refl _ _).alloc (Nat.le_refl _) (.cells #[.int .i64 k, .int .i64 a, .int .i64 c', .int .u64 u] 109)))
  have k4 : w.cell? ⟨b, 4, none⟩ = some v := cell_of_block h.head 4
  have hlt := h.lt
  obtain ⟨i0, hi0, hz0, hz1, hz2⟩ := info_put'
  clear h
  go_enter Try.func56, Try.ntmps56
  go_wp2_with (first
    | (at_builtin
       refine wpList_append_any _ rfl (.tmp 14) (.tmp 20) _ rfl 0 109 i0 _ 4 32 Try.underlying91 hi0 hz0 hz1 hz2 rfl (by omega) v x.puts.length (pflat x.puts) rfl
         H1.out.rows _ _ 1 1 _ rfl (reads_quad _ _ _ _ _ _) (by intro u hu; simp at hu; rcases hu with rfl | rfl | rfl | rfl <;> rfl) (by unfold maxLen; omega) (by omega) (Nat.zero_le _) ?_
       intro v1 w1 hown1 hg1 hat1
       have HK1 : Hid (Keep (fun g => v.ownBlock = some g) _ w1) := Keep.of_grown hg1 (fun _ h => h)
       have c4 : w1.cell? ⟨b, 4, none⟩ = some v := (HK1.out.cell (p := ⟨b, 4, none⟩) (by simp; omega) H.out.ne).trans (cell_of_block H1.out.head 4)
       have f4 := (HK1.out.frozen (p := ⟨b, 4, none⟩) (by simp; omega) H.out.ne).trans (frozen_of_block H1.out.head 4)
       have HP := Lib.hid (H1.out.pushed k a c' u hown1 hg1 hat1)
       obtain ⟨g1, cap1, rfl, _, _⟩ := hown1.form (by omega)
       clear hown1 hg1 hat1))
  go_end0
  refine ⟨rfl, ⟨_, HP.out.wide (fun y hy => ?_)⟩, ?_⟩
  · rcases hy with hy | ⟨h1, h2⟩
    · exact Or.inl hy
    · refine Or.inr ⟨Nat.le_trans ?_ h1, ?_⟩
      · simp
      · simpa [World.setCell] using h2
  · refine Keep.setCell ?_ (Or.inl H.out.tb) _
    exact ((Keep.refl T w).alloc _).trans (HK1.out.mono (fun y _ hy => H.out.tv y hy))
theorem rget_is (w : World) (T : Nat → Prop) (b : Nat) (x : RSto) (h : IsR w T b x) (kd a c' : Int) (hlen : x.puts.length ≤ 100000) :
    Calls Try.prog 59 #[.pointer (some ⟨b, 0, none⟩), .int .i64 kd, .int .i64 a, .int .i64 c'] w fun e w' => e = .returned (.int .u64 (x.get kd a c')) ∧ Below w.heap.size w w' := by
  obtain ⟨v, h⟩ := h
  exact rget_any w T b x v h kd a c' hlen
theorem rreg_is (w : World) (T : Nat → Prop) (b : Nat) (x : RSto) (h : IsR w T b x) (m r : Int) (hlen : x.puts.length ≤ 100000) :
    Calls Try.prog 57 #[.pointer (some ⟨b, 0, none⟩), .int .i64 m, .int .i64 r] w fun e w' => e = .returned (.int .u64 (x.reg m r)) ∧ Below w.heap.size w w' := by
  have H := Lib.hid h
  clear h
  go_enter Try.func57, Try.ntmps57
  go_wp2_with fail
  refine (rget_is _ T b x H.out 0 m r hlen).mono ?_
  rintro e w1 ⟨rfl, hb⟩
  have HB := Lib.hid hb
  clear hb
  go_wp2_with fail
  go_ret
  exact ⟨rfl, HB.out⟩
end Go.Proofs.Ytoapbfglpcebmaa

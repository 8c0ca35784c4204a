/- An ideal store in memory. -/
import Derived.Test.YtipoklnoknkfhaaDoorOpCheck
import Derived.Test.YtipoklnoknkfhaaDoorIdealPure
import Derived.OneCell
namespace Go.Proofs.YtipoklnoknkfhaaDoor
open Go Go.RowKit
set_option linter.unusedSimpArgs false
set_option linter.unusedVariables false

/-! ### cells as words -/
def flat : List (Int × Int) → List Value
  | [] => []
  | p :: r => .int .u64 p.1 :: .int .u64 p.2 :: flat r
theorem flat_len : ∀ cs : List (Int × Int), (flat cs).length = cs.length * 2
  | [] => rfl
  | p :: r => by simp [flat, flat_len r]; omega
theorem flat_append : ∀ (cs ds : List (Int × Int)), flat (cs ++ ds) = flat cs ++ flat ds
  | [], ds => rfl
  | p :: r, ds => by simp [flat, flat_append r ds]
theorem flat_at : ∀ (cs : List (Int × Int)) (i : Nat), i < cs.length → (flat cs)[i * 2]? = some (.int .u64 (cs.getD i (0, 0)).1) ∧ (flat cs)[i * 2 + 1]? = some (.int .u64 (cs.getD i (0, 0)).2)
  | [], i, h => absurd h (by simp)
  | p :: r, 0, _ => ⟨rfl, rfl⟩
  | p :: r, i + 1, h => by
    have := flat_at r i (by simpa using h)
    rw [show (i + 1) * 2 = i * 2 + 1 + 1 by omega]
    simpa [flat] using this
theorem flat_set : ∀ (cs : List (Int × Int)) (i : Nat) (x : Int), i < cs.length → (flat cs).set (i * 2) (.int .u64 x) = flat (cs.set i (x, (cs.getD i (0, 0)).2)) ∧ (flat cs).set (i * 2 + 1) (.int .u64 x) = flat (cs.set i ((cs.getD i (0, 0)).1, x))
  | [], i, _, h => absurd h (by simp)
  | p :: r, 0, _, _ => ⟨rfl, rfl⟩
  | p :: r, i + 1, x, h => by
    have := flat_set r i x (by simpa using h)
    rw [show (i + 1) * 2 = i * 2 + 1 + 1 by omega]
    simpa [flat] using this

/-! ### what memory holds -/
structure StoAt (w : World) (T : Nat → Prop) (b : Nat) (s : Sto) (gr kr : Nat) (vg vc : Value) : Prop where
  head : w.heap[b]? = some (.cells #[.int .i64 s.c.cells, .int .i64 s.c.muts, .int .i64 s.c.regs, .int .i64 s.c.globs, .slice (some ⟨gr, 0, none⟩) s.rs.length kr, vg, vc] 101 (0, 0))
  r : Own .u64 26 w 0 (.slice (some ⟨gr, 0, none⟩) s.rs.length kr) s.rs
  g : Own .u64 26 w 0 vg s.gs
  cl : w.ownsRow 0 113 2 vc s.cs.length (flat s.cs)
  tb : T b
  tr : T gr
  tg : ∀ x, vg.ownBlock = some x → T x
  tc : ∀ x, vc.ownBlock = some x → T x
  br : gr ≠ b
  bg : vg.ownBlock ≠ some b
  bc : vc.ownBlock ≠ some b
  rg : vg.ownBlock ≠ some gr
  rc : vc.ownBlock ≠ some gr
  gc : ∀ x, vg.ownBlock = some x → vc.ownBlock ≠ some x
  ok : s.Ok

section
variable {w w' : World} {T : Nat → Prop} {b : Nat} {s : Sto} {gr kr : Nat} {vg vc : Value}
theorem ownsRow_keep {S : Nat → Prop} {base size n : Nat} {e : TypeId} {v : Value} {xs : List Value} (h : w.ownsRow base e size v n xs) (hk : Keep S w w') (hs : ∀ g, v.ownBlock = some g → ¬ S g) : w'.ownsRow base e size v n xs := by
  obtain ⟨h1, h2⟩ := h
  refine ⟨h1, ?_⟩
  rcases h2 with h0 | ⟨g, cap, cur, rfl, hb, hg, r⟩
  · exact .inl h0
  · exact .inr ⟨g, cap, cur, rfl, hb, hk.at_ hg (hs g (by simp [Value.ownBlock])), r⟩
theorem StoAt.keep {S : Nat → Prop} (h : StoAt w T b s gr kr vg vc) (k : Keep S w w') (hs : ∀ x, T x → ¬ S x) : StoAt w' T b s gr kr vg vc :=
  { h with
    head := k.at_ h.head (hs _ h.tb)
    r := h.r.keep k (fun g hg => hs g (by simp [Value.ownBlock] at hg; subst hg; exact h.tr))
    g := h.g.keep k (fun g hg => hs g (h.tg g hg))
    cl := ownsRow_keep h.cl k (fun g hg => hs g (h.tc g hg)) }
theorem StoAt.below (h : StoAt w T b s gr kr vg vc) (k : Below w.heap.size w w') : StoAt w' T b s gr kr vg vc := h.keep (Keep.of_below k (fun _ => False)) (fun _ _ => id)
theorem StoAt.hc (h : StoAt w T b s gr kr vg vc) : w.cell? ⟨b, 0, none⟩ = some (.int .i64 s.c.cells) ∧ w.cell? ⟨b, 1, none⟩ = some (.int .i64 s.c.muts) ∧ w.cell? ⟨b, 2, none⟩ = some (.int .i64 s.c.regs) ∧ w.cell? ⟨b, 3, none⟩ = some (.int .i64 s.c.globs) ∧ w.cell? ⟨b, 4, none⟩ = some (.slice (some ⟨gr, 0, none⟩) s.rs.length kr) ∧ w.cell? ⟨b, 5, none⟩ = some vg ∧ w.cell? ⟨b, 6, none⟩ = some vc ∧ w.frozen? ⟨b, 6, none⟩ = false :=
  ⟨cell_of_block h.head 0, cell_of_block h.head 1, cell_of_block h.head 2, cell_of_block h.head 3, cell_of_block h.head 4, cell_of_block h.head 5, cell_of_block h.head 6, frozen_of_block h.head 6⟩
theorem StoAt.lt (h : StoAt w T b s gr kr vg vc) : b < w.heap.size ∧ gr < w.heap.size ∧ (∀ x, vg.ownBlock = some x → x < w.heap.size) ∧ (∀ x, vc.ownBlock = some x → x < w.heap.size) :=
  ⟨block_lt h.head, (h.r.lt gr rfl).2, fun x hx => (World.ownsRow.lt h.g x hx).2, fun x hx => (h.cl.lt x hx).2⟩
theorem StoAt.rcell (h : StoAt w T b s gr kr vg vc) {m r : Int} (hm : 0 ≤ m ∧ m < s.c.muts) (hr : 0 ≤ r ∧ r < s.c.regs) : w.cell? ⟨gr, s.ix m r, none⟩ = some (.int .u64 (s.reg m r)) ∧ w.frozen? ⟨gr, s.ix m r, none⟩ = false := by
  obtain ⟨hi, _⟩ := h.ok.ix hm.1 hm.2 hr.1 hr.2
  have h1 := World.ownsRow.cellAt h.r (s.ix m r) (by omega)
  have h2 := World.ownsRow.frozenAt h.r (s.ix m r)
  refine ⟨?_, h2⟩
  rw [h1]
  simp [Sto.reg, wd, hi]
theorem StoAt.setReg (h : StoAt w T b s gr kr vg vc) (m r : Int) {x : Int} (hm : 0 ≤ m ∧ m < s.c.muts) (hr : 0 ≤ r ∧ r < s.c.regs) (hx : Wd s.cs.length x) : StoAt (w.setCell ⟨gr, s.ix m r, none⟩ (.int .u64 x)) T b (s.setReg m r x) gr kr vg vc := by
  obtain ⟨hi, _⟩ := h.ok.ix hm.1 hm.2 hr.1 hr.2
  have hr2 := h.r.set_ (s.ix m r) x hi
  exact { h with
    head := by
      rw [Below.heap_setCell _ _ _ _ (fun e => h.br e.symm)]
      simpa [Sto.setReg] using h.head
    r := by simpa [Sto.setReg] using hr2
    g := ownsRow_setCell_other h.g h.rg _
    cl := ownsRow_setCell_other h.cl h.rc _
    ok := h.ok.setReg m r hx }
theorem StoAt.ccell (h : StoAt w T b s gr kr vg vc) {i : Nat} (hi : i < s.cs.length) : ∃ gc kc, vc = .slice (some ⟨gc, 0, none⟩) s.cs.length kc ∧ w.cell? ⟨gc, i * 2, none⟩ = some (.int .u64 (s.car i)) ∧ w.cell? ⟨gc, i * 2 + 1, none⟩ = some (.int .u64 (s.cdr i)) ∧ w.frozen? ⟨gc, i * 2, none⟩ = false ∧ w.frozen? ⟨gc, i * 2 + 1, none⟩ = false ∧
    (∀ x, StoAt (w.setCell ⟨gc, i * 2, none⟩ (.int .u64 x)) T b (s.setCar i x) gr kr vg vc ∨ ¬ Wd s.cs.length x) ∧ (∀ x, StoAt (w.setCell ⟨gc, i * 2 + 1, none⟩ (.int .u64 x)) T b (s.setCdr i x) gr kr vg vc ∨ ¬ Wd s.cs.length x) ∧ T gc ∧ gc ≠ b ∧ gc ≠ gr := by
  obtain ⟨gc, kc, rfl, _, _⟩ := h.cl.form (by omega)
  have hf := flat_at s.cs i hi
  have hl := h.cl.1
  have e1 : ∀ j, j < s.cs.length * 2 → w.cell? ⟨gc, j, none⟩ = (flat s.cs)[j]? := fun j hj => h.cl.cellAt j hj
  refine ⟨gc, kc, rfl, by rw [e1 _ (by omega), hf.1]; rfl, by rw [e1 _ (by omega), hf.2]; rfl, h.cl.frozenAt _, h.cl.frozenAt _, fun x => ?_, fun x => ?_, h.tc gc rfl, fun e => h.bc (by simp [Value.ownBlock, e]), fun e => h.rc (by simp [Value.ownBlock, e])⟩
  · by_cases hx : Wd s.cs.length x
    case neg => exact Or.inr hx
    refine Or.inl { h with
      head := by
        rw [Below.heap_setCell _ _ _ _ (fun e => h.bc (by simp [Value.ownBlock, e]))]
        simpa [Sto.setCar] using h.head
      r := ownsRow_setCell_other h.r (fun e => h.rc (by simp [Value.ownBlock] at e; simp [Value.ownBlock, e])) _
      g := ownsRow_setCell_other h.g (fun e => h.gc _ e (by simp [Value.ownBlock])) _
      cl := ?_
      ok := h.ok.setCell i ⟨hx, (h.ok.cellW i).2⟩ }
    have := (h.cl.stored (i * 2) (.int .u64 x)).1
    rw [(flat_set s.cs i x hi).1] at this
    simpa [Sto.setCar, Sto.cdr] using this
  · by_cases hx : Wd s.cs.length x
    case neg => exact Or.inr hx
    refine Or.inl { h with
      head := by
        rw [Below.heap_setCell _ _ _ _ (fun e => h.bc (by simp [Value.ownBlock, e]))]
        simpa [Sto.setCdr] using h.head
      r := ownsRow_setCell_other h.r (fun e => h.rc (by simp [Value.ownBlock] at e; simp [Value.ownBlock, e])) _
      g := ownsRow_setCell_other h.g (fun e => h.gc _ e (by simp [Value.ownBlock])) _
      cl := ?_
      ok := h.ok.setCell i ⟨(h.ok.cellW i).1, hx⟩ }
    have := (h.cl.stored (i * 2 + 1) (.int .u64 x)).1
    rw [(flat_set s.cs i x hi).2] at this
    simpa [Sto.setCdr, Sto.car] using this
theorem StoAt.gcell (h : StoAt w T b s gr kr vg vc) {g : Int} (hg : 0 ≤ g ∧ g < s.c.globs) : ∃ gg kg, vg = .slice (some ⟨gg, 0, none⟩) s.gs.length kg ∧ w.cell? ⟨gg, g.toNat, none⟩ = some (.int .u64 (wd s.gs g.toNat)) ∧ w.frozen? ⟨gg, g.toNat, none⟩ = false ∧
    (∀ x, StoAt (w.setCell ⟨gg, g.toNat, none⟩ (.int .u64 x)) T b { s with gs := s.gs.set g.toNat x } gr kr vg vc ∨ ¬ Wd s.cs.length x) ∧ T gg ∧ gg ≠ b ∧ gg ≠ gr := by
  have hgl := h.ok.gl
  have hi : g.toNat < s.gs.length := by omega
  obtain ⟨gg, kg, rfl, _, _⟩ := World.ownsRow.form h.g (by omega)
  have h1 := World.ownsRow.cellAt h.g g.toNat (by omega)
  refine ⟨gg, kg, rfl, by rw [h1]; simp [wd, hi], World.ownsRow.frozenAt h.g _, fun x => ?_, h.tg gg rfl, fun e => h.bg (by simp [Value.ownBlock, e]), fun e => h.rg (by simp [Value.ownBlock, e])⟩
  by_cases hx : Wd s.cs.length x
  case neg => exact Or.inr hx
  have hg2 := h.g.set_ g.toNat x hi
  exact Or.inl { h with
    head := by
      rw [Below.heap_setCell _ _ _ _ (fun e => h.bg (by simp [Value.ownBlock, e]))]
      simpa using h.head
    r := ownsRow_setCell_other h.r (fun e => h.rg (by simp [Value.ownBlock] at e; simp [Value.ownBlock, e])) _
    g := by simpa using hg2
    cl := ownsRow_setCell_other h.cl (fun e => h.gc gg rfl (by rw [e])) _
    ok := h.ok.setGlob g.toNat hx }
end
end Go.Proofs.YtipoklnoknkfhaaDoor

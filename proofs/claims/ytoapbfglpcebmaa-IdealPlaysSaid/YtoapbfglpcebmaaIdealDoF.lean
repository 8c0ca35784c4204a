/- The contract of an ideal store's Do, kind by kind (more). -/
import Derived.Test.YtoapbfglpcebmaaIdealDo
namespace Go.Proofs.Ytoapbfglpcebmaa
open Go Go.RowKit
set_option linter.unusedSimpArgs false
set_option linter.unusedVariables false

set_option maxHeartbeats 4000000 in
set_option maxRecDepth 100000 in
theorem ido_3f (w : World) (T : Nat → Prop) (b : Nat) (s : Sto) (gr kr : Nat) (vg vc : Value) (h : StoAt w T b s gr kr vg vc) (m : Int) (x : Opr) (full : Bool)
    (hm : 0 ≤ m ∧ m < s.c.muts) (herr : x.err s.c = 0) (hk : x.kind = 3) (h63 : x.b < 9223372036854775808) (hf : full = true) :
    Calls Try.prog 24 #[.pointer (some ⟨b, 0, none⟩), .int .i64 m, x.v, .bool full] w (DoPost w T b (s.did m x full)) := by
  obtain ⟨_, hr⟩ := right_of_err herr
  subst hf
  have HD : Hid (s.did m x true = (s, 5)) := by unfold Hid Sto.did; rw [if_neg (by omega), if_neg (by omega), if_pos hk, if_pos rfl]
  rw [HD.out]
  have HERR := Lib.hid herr
  have HS := Lib.hid (h.below ((Below.refl _ _).alloc (Nat.le_refl _) x.obj))
  have HLT := Lib.hid h.lt.1
  have HNE : Hid (gr ≠ w.heap.size) := by have := h.lt.2.1; unfold Hid; omega
  have HNB : Hid (b ≠ w.heap.size) := by have := h.lt.1; unfold Hid; omega
  have HKT : Hid (T gr ∧ T b) := ⟨h.tr, h.tb⟩
  obtain ⟨k0, k1, k2, k3, k4, k5, k6, kf⟩ := HS.out.hc
  obtain ⟨x0, x1, x2, x3⟩ := opr_cells (heap_alloc_new w x.obj)
  have d1 : decide (m < 0) = false := by simp; omega
  have d2 : decide (s.c.muts ≤ m) = false := by simp; omega
  have t1 : (x.kind == 1) = false := by rw [beq_eq_false_iff_ne]; omega
  have t2 : (x.kind == 2) = false := by rw [beq_eq_false_iff_ne]; omega
  have t3 : (x.kind == 3) = true := by rw [beq_iff_eq]; omega
  have HM := Lib.hid hm
  clear k4 k5 k6 kf h herr hr hm hk
  go_enter Try.func24, Try.ntmps24
  go_wp2_with fail
  go_region_held3 (fun w' => w'.cell? ⟨b, 0, none⟩ = some (.int .i64 s.c.cells) ∧ w'.cell? ⟨b, 1, none⟩ = some (.int .i64 s.c.muts) ∧ w'.cell? ⟨b, 2, none⟩ = some (.int .i64 s.c.regs) ∧ w'.cell? ⟨b, 3, none⟩ = some (.int .i64 s.c.globs) ∧ w'.cell? ⟨w.heap.size, 0, none⟩ = some (.int .i64 x.kind) ∧ w'.cell? ⟨w.heap.size, 1, none⟩ = some (.int .i64 x.a) ∧ w'.cell? ⟨w.heap.size, 2, none⟩ = some (.int .i64 x.b) ∧ w'.cell? ⟨w.heap.size, 3, none⟩ = some (.int .i64 x.c) ∧ Below (w.heap.size + 1) (w.alloc x.obj) w')
    (first
      | exact ⟨k0, k1, k2, k3, x0, x1, x2, x3, (Below.refl _ _).drew⟩
      | (go_split_ands; refine ⟨?_, ?_, ?_, ?_, ?_, ?_, ?_, ?_, ?_⟩ <;> first | (rw [hb2.cell (by first | (simp; done) | (have := HLT.out; simp; omega))]; assumption) | exact Below.trans (by assumption) (hb2.mono (by simp))))
    (first | (go_at_call 50; refine (ocheck_any _ s.c x).mono ?_; rintro e w2 ⟨rfl, hb2⟩; rw [HERR.out]))
  have HB2 : Hid (Below (w.heap.size + 1) (w.alloc x.obj) w2) := ((Below.refl (w.heap.size + 1) (w.alloc x.obj)).drew).trans (hb2.mono (by simp))
  have hS2 : StoAt w2 T b s gr kr vg vc := HS.out.below (by simpa using HB2.out)
  have HX2 : Hid (w2.heap[w.heap.size]? = some x.obj) := (HB2.out.block _ (by omega)).trans (heap_alloc_new w x.obj)
  have HS2 := Lib.hid hS2
  have HZ2 : Hid (w.heap.size < w2.heap.size) := by have := HB2.out.size; simp at this; unfold Hid; omega
  have HLR := Lib.hid hS2.lt
  rename_i hHeld
  clear hHeld hb2 k0 k1 k2 k3 x0 x1 x2 x3 d1 d2 HS
  obtain ⟨x0, x1, x2, x3⟩ := opr_cells HX2.out
  clear hS2
  go_wp2_with fail
  go_ret
  exact ⟨rfl, ⟨gr, kr, vg, _, (HS2.out.drewN 0).wide (fun _ => Or.inl)⟩, (do_keep HB2.out).drewN 0⟩
theorem StoAt.pushed {W w' : World} {T : Nat → Prop} {b : Nat} {s : Sto} {gr kr : Nat} {vg vc v' : Value} (h : StoAt W T b s gr kr vg vc) {p : Int × Int} (hp : Wd s.cs.length p.1 ∧ Wd s.cs.length p.2) (hf : s.cs.length < 1000000)
    (h1 : w'.ownsRow 0 86 2 v' (s.cs.length + 1) (flat s.cs ++ [.int .u64 p.1, .int .u64 p.2])) (hg : W.grownBy w' vc.ownBlock) (hv : v'.ownBlock = vc.ownBlock ∨ v'.ownBlock = some W.heap.size) :
    StoAt (w'.setCell ⟨b, 6, none⟩ v') (fun x => T x ∨ (W.heap.size ≤ x ∧ x < w'.heap.size)) b (s.push p) gr kr vg v' := by
  have hk : Keep (fun g => vc.ownBlock = some g) W w' := Keep.of_grown hg (fun _ h => h)
  obtain ⟨hlb, hlr, hlg, hlc⟩ := h.lt
  have nb : v'.ownBlock ≠ some b := by
    rcases hv with e | e <;> rw [e]
    · exact h.bc
    · intro e1; simp at e1; omega
  have nr : v'.ownBlock ≠ some gr := by
    rcases hv with e | e <;> rw [e]
    · exact h.rc
    · intro e1; simp at e1; omega
  have ng : ∀ x, vg.ownBlock = some x → v'.ownBlock ≠ some x := by
    intro x hx
    have := hlg x hx
    rcases hv with e | e <;> rw [e]
    · exact h.gc x hx
    · intro e1; simp at e1; omega
  have hr' := ownsRow_keep h.r hk (fun g hg => by simp [Value.ownBlock] at hg; subst hg; exact h.rc)
  have hg' := ownsRow_keep h.g hk (fun g hg => h.gc g hg)
  have hh' := hk.at_ h.head h.bc
  exact {
    head := by
      rw [block_setCell hh' 6 v']
      simp [Sto.push]
    r := ownsRow_setCell_other hr' (fun e => h.br (by simpa [Value.ownBlock] using e)) _
    g := ownsRow_setCell_other hg' (fun e => h.bg (by simpa using e)) _
    cl := by
      have e : flat (s.push p).cs = flat s.cs ++ [.int .u64 p.1, .int .u64 p.2] := by
        simp [Sto.push, flat_append, flat]
      rw [e, show (s.push p).cs.length = s.cs.length + 1 by simp [Sto.push]]
      exact ownsRow_setCell_other h1 (fun e => nb (by simpa using e)) _
    tb := Or.inl h.tb
    tr := Or.inl h.tr
    tg := fun x hx => Or.inl (h.tg x hx)
    tc := fun x hx => by
      rcases hv with e | e
      · exact Or.inl (h.tc x (by rw [← e]; exact hx))
      · rw [e] at hx
        simp at hx
        subst hx
        exact Or.inr ⟨Nat.le_refl _, (h1.lt _ e).2⟩
    br := h.br
    bg := h.bg
    bc := nb
    rg := h.rg
    rc := nr
    gc := ng
    ok := h.ok.push hp hf }
theorem info_cell : (Try.prog.info? 86).map (fun i => (i.zero, i.size, i.bytes)) = some (some (.agg #[.int .u64 0, .int .u64 0]), 2, 16) := by kernel_rfl
theorem StoAt.alloc {w : World} {T : Nat → Prop} {b : Nat} {s : Sto} {gr kr : Nat} {vg vc : Value} (h : StoAt w T b s gr kr vg vc) (o : Obj) : StoAt (w.alloc o) T b s gr kr vg vc := h.keep ((Keep.refl (fun _ => False) w).alloc o) (fun _ _ => id)
theorem reads_pair (W : World) (E : TypeId) (a c : Value) : Reads (W.alloc (.cells #[a, c] E)) (W.heap.size + 1) 2 (some ⟨W.heap.size, 0, none⟩) 1 [a, c] := by
  refine ⟨rfl, fun _ => ⟨_, rfl, by simp, fun j u hu => ?_⟩⟩
  have hj : j < 2 := by
    have := (List.getElem?_eq_some_iff.1 hu).1
    simpa using this
  have e : (⟨W.heap.size, 0, none⟩ : Addr).add j = ⟨W.heap.size, j, none⟩ := by unfold Addr.add; split <;> simp_all
  rw [e, cell_of_block (heap_alloc_new W (.cells #[a, c] E))]
  obtain rfl | rfl : j = 0 ∨ j = 1 := by omega
  · simpa using hu
  · simpa using hu
theorem step_append_cell {ops : Array Oper} {o : Oper} {a : Act} {K : Act → World → Prop} {Q : Exit → Act → World → Prop} {E : Prop} {T : Nat → Prop} {b : Nat} {s : Sto} {gr kr : Nat} {vg vc : Value} (hgd : o.guard = none) (sl x : Operand)
    (ho : o.op = .call { callee := .builtin .append, args := #[sl, x], argTypes := #[78, 78] }) (W0 : World) (hst : StoAt W0 T b s gr kr vg vc) (a1 a2 : Int) (hp : Wd s.cs.length a1 ∧ Wd s.cs.length a2) (hf : s.cs.length < 1000000)
    (hs : a.eval sl = vc) (hx : a.eval x = .slice (some ⟨W0.heap.size, 0, none⟩) 1 1)
    (h : ∀ (g cap : Nat) (w' : World), (∀ p : Addr, p.block < W0.heap.size → vc.ownBlock ≠ some p.block → w'.cell? p = W0.cell? p) → w'.cell? ⟨b, 6, none⟩ = some vc → w'.frozen? ⟨b, 6, none⟩ = false → Hid (W0.heap.size ≤ w'.heap.size ∧ Keep T W0 w') →
      Hid (StoAt (w'.setCell ⟨b, 6, none⟩ (.slice (some ⟨g, 0, none⟩) (s.cs.length + 1) cap)) (fun x => T x ∨ (W0.heap.size ≤ x ∧ x < w'.heap.size)) b (s.push (a1, a2)) gr kr vg (.slice (some ⟨g, 0, none⟩) (s.cs.length + 1) cap)) → K (a.put o.dst (.slice (some ⟨g, 0, none⟩) (s.cs.length + 1) cap)) w') :
    if Region.wanted o (yielded ops a.tmps) = true then Oper.wp Try.prog o a (W0.alloc (.cells #[.int .u64 a1, .int .u64 a2] 86)) K Q else E := by
  have hi : ∃ i, Try.prog.info? 86 = some i ∧ i.zero = some (.agg #[.int .u64 0, .int .u64 0]) ∧ i.size = 2 ∧ i.bytes = 16 := by
    have := info_cell
    cases hh : Try.prog.info? 86 with
    | none => rw [hh] at this; cases this
    | some i =>
      rw [hh] at this
      simp at this
      exact ⟨i, rfl, this⟩
  obtain ⟨i0, hi0, hz0, hz1, hz2⟩ := hi
  have hS1 := hst.alloc (.cells #[.int .u64 a1, .int .u64 a2] 86)
  refine step_append_any (P := Try.prog) _ hgd sl x _ ho 0 86 i0 _ 2 16 Try.underlying78 hi0 hz0 hz1 hz2 rfl (by omega) vc s.cs.length (flat s.cs) hs hS1.cl _ _ 1 1 _ hx (reads_pair _ _ _ _) (by intro u hu; simp at hu; rcases hu with rfl | rfl <;> rfl) (by unfold maxLen; omega) (by omega) (Nat.zero_le _) ?_
  intro v' w' h1 hg hv
  obtain ⟨g, cap, rfl, _, _⟩ := h1.form (by omega)
  have hk : Keep (fun g => vc.ownBlock = some g) (W0.alloc (.cells #[.int .u64 a1, .int .u64 a2] 86)) w' := Keep.of_grown hg (fun _ h => h)
  have hlt := hst.lt
  have hsz : W0.heap.size ≤ w'.heap.size := Nat.le_trans (by simp) hk.size
  refine h g cap w' (fun p hp hn => (hk.cell (by simp; omega) hn).trans (World.cell?_alloc_lt _ _ _ hp)) ((hk.cell (p := ⟨b, 6, none⟩) (by simp; omega) hst.bc).trans hS1.hc.2.2.2.2.2.2.1) ((hk.frozen (p := ⟨b, 6, none⟩) (by simp; omega) hst.bc).trans hS1.hc.2.2.2.2.2.2.2) ⟨hsz, ?_⟩ ?_
  · exact ((Keep.refl T W0).alloc _).trans (hk.mono (fun k _ hk' => hst.tc k hk'))
  · exact (StoAt.pushed hS1 (p := (a1, a2)) hp hf h1 hg hv).wide (fun x hx => by
      rcases hx with hx | hx
      · exact Or.inl hx
      · exact Or.inr ⟨by have := hx.1; simp at this; omega, hx.2⟩)
end Go.Proofs.Ytoapbfglpcebmaa

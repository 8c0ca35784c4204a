/- The contract of an ideal store's Do, kind by kind (more). -/
import Derived.Test.YtoapbfglpcebmaaIdealDoF
namespace Go.Proofs.Ytoapbfglpcebmaa
open Go Go.RowKit
set_option linter.unusedSimpArgs false
set_option linter.unusedVariables false

set_option maxHeartbeats 4000000 in
set_option maxRecDepth 100000 in
theorem ido_3 (w : World) (T : Nat → Prop) (b : Nat) (s : Sto) (gr kr : Nat) (vg vc : Value) (h : StoAt w T b s gr kr vg vc) (m : Int) (x : Opr) (full : Bool)
    (hm : 0 ≤ m ∧ m < s.c.muts) (herr : x.err s.c = 0) (hk : x.kind = 3) (h63 : x.b < 9223372036854775808) (hfew : s.cs.length < 1000000) (hf : full = false) :
    Calls Try.prog 24 #[.pointer (some ⟨b, 0, none⟩), .int .i64 m, x.v, .bool full] w (DoPost w T b (s.did m x full)) := by
  obtain ⟨_, hr⟩ := right_of_err herr
  subst hf
  have HA : Hid (0 ≤ x.a ∧ x.a < s.c.regs) := hr.a (by omega)
  have HB : Hid (0 ≤ x.b ∧ x.b < s.c.regs) := hr.b (by omega) (by omega) (by omega)
  have HC : Hid (0 ≤ x.c ∧ x.c < s.c.regs) := hr.cc hk
  have HW : Hid (Wd s.cs.length (s.reg m x.b) ∧ Wd s.cs.length (s.reg m x.c)) := ⟨h.ok.regW hm.1 hm.2 HB.out.1 HB.out.2, h.ok.regW hm.1 hm.2 HC.out.1 HC.out.2⟩
  have HV : Hid (Wd (s.cs.length + 1) (s.cs.length * 2 + 1)) := ⟨by omega, by omega, fun _ => by omega⟩
  have HVN : Hid (vc.ownBlock ≠ some w.heap.size) := fun e => by have := h.lt.2.2.2 _ e; omega
  have HD : Hid (s.did m x false = ((s.push (s.reg m x.b, s.reg m x.c)).setReg m x.a (s.cs.length * 2 + 1), 1)) := by unfold Hid Sto.did; rw [if_neg (by omega), if_neg (by omega), if_pos hk]; rfl
  rw [HD.out]
  have HERR := Lib.hid herr
  have HS := Lib.hid (h.below ((Below.refl _ _).alloc (Nat.le_refl _) x.obj))
  have HLT := Lib.hid h.lt.1
  have HNE : Hid (gr ≠ w.heap.size) := by have := h.lt.2.1; unfold Hid; omega
  have HNB : Hid (b ≠ w.heap.size) := by have := h.lt.1; unfold Hid; omega
  have HKT : Hid (T gr ∧ T b) := ⟨h.tr, h.tb⟩
  obtain ⟨k0, k1, k2, k3, k4, k5, k6, kf⟩ := HS.out.hc
  obtain ⟨x0, x1, x2, x3⟩ := opr_cells (heap_alloc_new w x.obj)
  have d1 : decide (m < 0) = false := by simp; omega
  have d2 : decide (s.c.muts ≤ m) = false := by simp; omega
  have t1 : (x.kind == 1) = false := by rw [beq_eq_false_iff_ne]; omega
  have t2 : (x.kind == 2) = false := by rw [beq_eq_false_iff_ne]; omega
  have t3 : (x.kind == 3) = true := by rw [beq_iff_eq]; omega
  have HM := Lib.hid hm
  clear k4 k5 k6 kf h herr hr hm hk
  go_enter Try.func24, Try.ntmps24
  go_wp2_with fail
  go_region_held3 (fun w' => w'.cell? ⟨b, 0, none⟩ = some (.int .i64 s.c.cells) ∧ w'.cell? ⟨b, 1, none⟩ = some (.int .i64 s.c.muts) ∧ w'.cell? ⟨b, 2, none⟩ = some (.int .i64 s.c.regs) ∧ w'.cell? ⟨b, 3, none⟩ = some (.int .i64 s.c.globs) ∧ w'.cell? ⟨w.heap.size, 0, none⟩ = some (.int .i64 x.kind) ∧ w'.cell? ⟨w.heap.size, 1, none⟩ = some (.int .i64 x.a) ∧ w'.cell? ⟨w.heap.size, 2, none⟩ = some (.int .i64 x.b) ∧ w'.cell? ⟨w.heap.size, 3, none⟩ = some (.int .i64 x.c) ∧ Below (w.heap.size + 1) (w.alloc x.obj) w')
    (first
      | exact ⟨k0, k1, k2, k3, x0, x1, x2, x3, (Below.refl _ _).drew⟩
      | (go_split_ands; refine ⟨?_, ?_, ?_, ?_, ?_, ?_, ?_, ?_, ?_⟩ <;> first | (rw [hb2.cell (by first | (simp; done) | (have := HLT.out; simp; omega))]; assumption) | exact Below.trans (by assumption) (hb2.mono (by simp))))
    (first | (go_at_call 50; refine (ocheck_any _ s.c x).mono ?_; rintro e w2 ⟨rfl, hb2⟩; rw [HERR.out]))
  have HB2 : Hid (Below (w.heap.size + 1) (w.alloc x.obj) w2) := ((Below.refl (w.heap.size + 1) (w.alloc x.obj)).drew).trans (hb2.mono (by simp))
  have hS2 : StoAt w2 T b s gr kr vg vc := HS.out.below (by simpa using HB2.out)
  have HX2 : Hid (w2.heap[w.heap.size]? = some x.obj) := (HB2.out.block _ (by omega)).trans (heap_alloc_new w x.obj)
  have HS2 := Lib.hid hS2
  have HZ2 : Hid (w.heap.size < w2.heap.size) := by have := HB2.out.size; simp at this; unfold Hid; omega
  have HLR := Lib.hid hS2.lt
  rename_i hHeld
  clear hHeld hb2 k0 k1 k2 k3 x0 x1 x2 x3 d1 d2 HS
  obtain ⟨x0, x1, x2, x3⟩ := opr_cells HX2.out
  obtain ⟨c1, f1⟩ := hS2.rcell HM.out HB.out
  obtain ⟨c2, f2⟩ := hS2.rcell HM.out HC.out
  obtain ⟨c0, f0⟩ := hS2.rcell HM.out HA.out
  obtain ⟨_, _, _, _, _, _, k6, _⟩ := hS2.hc
  have HBR : Hid (b ≠ gr) := fun e => hS2.br e.symm
  have D1 : ∀ n, (w2.drewN n).cell? ⟨w.heap.size, 1, none⟩ = some (.int .i64 x.a) := fun _ => x1
  have D2 : ∀ n, (w2.drewN n).cell? ⟨w.heap.size, 2, none⟩ = some (.int .i64 x.b) := fun _ => x2
  have D3 : ∀ n, (w2.drewN n).cell? ⟨w.heap.size, 3, none⟩ = some (.int .i64 x.c) := fun _ => x3
  have D4 : ∀ n, (w2.drewN n).cell? ⟨gr, s.ix m x.b, none⟩ = some (.int .u64 (s.reg m x.b)) := fun _ => c1
  have D5 : ∀ n, (w2.drewN n).cell? ⟨gr, s.ix m x.c, none⟩ = some (.int .u64 (s.reg m x.c)) := fun _ => c2
  have ZN := Lib.hid (fun n => (show w.heap.size < (w2.drewN n).heap.size from HZ2.out))
  have GN := Lib.hid (fun n => (show gr < (w2.drewN n).heap.size from HLR.out.2.1))
  have DD := Lib.hid (And.intro D1 (And.intro D2 (And.intro D3 (And.intro D4 D5))))
  have K6 : ∀ n o, ((w2.drewN n).alloc o).cell? ⟨b, 6, none⟩ = some vc := fun n o => (World.cell?_alloc_lt _ _ _ (show b < w2.heap.size from HLR.out.1)).trans k6
  have DDA : Hid (∀ n, ((w2.drewN n).alloc (.cells #[.int .u64 (s.reg m x.b), .int .u64 (s.reg m x.c)] 86)).cell? ⟨w.heap.size, 1, none⟩ = some (.int .i64 x.a) ∧ ((w2.drewN n).alloc (.cells #[.int .u64 (s.reg m x.b), .int .u64 (s.reg m x.c)] 86)).cell? ⟨w.heap.size, 2, none⟩ = some (.int .i64 x.b) ∧ ((w2.drewN n).alloc (.cells #[.int .u64 (s.reg m x.b), .int .u64 (s.reg m x.c)] 86)).cell? ⟨w.heap.size, 3, none⟩ = some (.int .i64 x.c) ∧ ((w2.drewN n).alloc (.cells #[.int .u64 (s.reg m x.b), .int .u64 (s.reg m x.c)] 86)).cell? ⟨gr, s.ix m x.b, none⟩ = some (.int .u64 (s.reg m x.b)) ∧ ((w2.drewN n).alloc (.cells #[.int .u64 (s.reg m x.b), .int .u64 (s.reg m x.c)] 86)).cell? ⟨gr, s.ix m x.c, none⟩ = some (.int .u64 (s.reg m x.c))) := fun n => ⟨(World.cell?_alloc_lt _ _ _ (ZN.out n)).trans x1, (World.cell?_alloc_lt _ _ _ (ZN.out n)).trans x2, (World.cell?_alloc_lt _ _ _ (ZN.out n)).trans x3, (World.cell?_alloc_lt _ _ _ (GN.out n)).trans c1, (World.cell?_alloc_lt _ _ _ (GN.out n)).trans c2⟩
  have SN := Lib.hid (fun n => HS2.out.drewN n)
  clear hS2 f1 f2 f0 D1 D2 D3 D4 D5
  go_wp2_with fail
  refine wp_region_held_drew (S := (fun w' => w'.cell? ⟨w.heap.size, 1, none⟩ = some (.int .i64 x.a) ∧ w'.cell? ⟨w.heap.size, 2, none⟩ = some (.int .i64 x.b) ∧ w'.cell? ⟨w.heap.size, 3, none⟩ = some (.int .i64 x.c) ∧ w'.cell? ⟨gr, s.ix m x.b, none⟩ = some (.int .u64 (s.reg m x.b)) ∧ w'.cell? ⟨gr, s.ix m x.c, none⟩ = some (.int .u64 (s.reg m x.c)))) (by kernel_rfl) ?_ (fun hHeld => ?_)
  · exact ⟨x1, x2, x3, c1, c2⟩
  refine (fun (tail : ∀ N : Nat, (?Tail : Nat → Prop) N) => ?main) ?tl
  case main =>
    refine wpAnyH_take (i := 0) (oi := ?oi1) (v := ?v1) ?hi1 (by kernel_rfl) (by kernel_rfl) (by kernel_rfl) ?hq1 (Or.inl ⟨?hw1, ?hy1⟩) (by assumption) ?rest1
    case hi1 => simp only [List.getElem?_toArray, List.getElem?_cons_succ, List.getElem?_cons_zero]; rfl
    case hq1 => exact fun _ _ _ h => h
    case hw1 => kernel_rfl
    case hy1 => (intro w hSw; (try dsimp only at hSw); go_simp; try with_reducible rfl)
    try simp only [Act.put, List.setIfInBounds_toArray, List.set_cons_zero, List.set_cons_succ]
    refine wpAnyH_take (i := 1) (oi := ?oi2) (v := ?v2) ?hi2 (by kernel_rfl) (by kernel_rfl) (by kernel_rfl) ?hq2 (Or.inl ⟨?hw2, ?hy2⟩) (by assumption) ?rest2
    case hi2 => simp only [List.getElem?_toArray, List.getElem?_cons_succ, List.getElem?_cons_zero]; rfl
    case hq2 => exact fun _ _ _ h => h
    case hw2 => kernel_rfl
    case hy2 => (intro w hSw; (try dsimp only at hSw); go_simp; try with_reducible rfl)
    try simp only [Act.put, List.setIfInBounds_toArray, List.set_cons_zero, List.set_cons_succ]
    refine wpAnyH_take (i := 2) (oi := ?oi3) (v := ?v3) ?hi3 (by kernel_rfl) (by kernel_rfl) (by kernel_rfl) ?hq3 (Or.inl ⟨?hw3, ?hy3⟩) (by assumption) ?rest3
    case hi3 => simp only [List.getElem?_toArray, List.getElem?_cons_succ, List.getElem?_cons_zero]; rfl
    case hq3 => exact fun _ _ _ h => h
    case hw3 => kernel_rfl
    case hy3 => (intro w hSw; (try dsimp only at hSw); go_simp; try with_reducible rfl)
    try simp only [Act.put, List.setIfInBounds_toArray, List.set_cons_zero, List.set_cons_succ]
    refine wpAnyH_take (i := 3) (oi := ?oi4) (v := ?v4) ?hi4 (by kernel_rfl) (by kernel_rfl) (by kernel_rfl) ?hq4 (Or.inl ⟨?hw4, ?hy4⟩) (by assumption) ?rest4
    case hi4 => simp only [List.getElem?_toArray, List.getElem?_cons_succ, List.getElem?_cons_zero]; rfl
    case hq4 => exact fun _ _ _ h => h
    case hw4 => kernel_rfl
    case hy4 => (intro w hSw; (try dsimp only at hSw); go_simp; try with_reducible rfl)
    try simp only [Act.put, List.setIfInBounds_toArray, List.set_cons_zero, List.set_cons_succ]
    refine wpAnyH_take (i := 5) (oi := ?oi5) (v := ?v5) ?hi5 (by kernel_rfl) (by kernel_rfl) (by kernel_rfl) ?hq5 (Or.inl ⟨?hw5, ?hy5⟩) (by assumption) ?rest5
    case hi5 => simp only [List.getElem?_toArray, List.getElem?_cons_succ, List.getElem?_cons_zero]; rfl
    case hq5 => exact fun _ _ _ h => h
    case hw5 => kernel_rfl
    case hy5 => (intro w hSw; (try dsimp only at hSw); go_simp; try with_reducible rfl)
    try simp only [Act.put, List.setIfInBounds_toArray, List.set_cons_zero, List.set_cons_succ]
    refine wpAnyH_take (i := 6) (oi := ?oi6) (v := ?v6) ?hi6 (by kernel_rfl) (by kernel_rfl) (by kernel_rfl) ?hq6 (Or.inl ⟨?hw6, ?hy6⟩) (by assumption) ?rest6
    case hi6 => simp only [List.getElem?_toArray, List.getElem?_cons_succ, List.getElem?_cons_zero]; rfl
    case hq6 => exact fun _ _ _ h => h
    case hw6 => kernel_rfl
    case hy6 => (intro w hSw; (try dsimp only at hSw); go_simp; try with_reducible rfl)
    try simp only [Act.put, List.setIfInBounds_toArray, List.set_cons_zero, List.set_cons_succ]
    refine wpAnyH_take (i := 7) (oi := ?oi7) (v := ?v7) ?hi7 (by kernel_rfl) (by kernel_rfl) (by kernel_rfl) ?hq7 (Or.inl ⟨?hw7, ?hy7⟩) (by assumption) ?rest7
    case hi7 => simp only [List.getElem?_toArray, List.getElem?_cons_succ, List.getElem?_cons_zero]; rfl
    case hq7 => exact fun _ _ _ h => h
    case hw7 => kernel_rfl
    case hy7 => (intro w hSw; (try dsimp only at hSw); go_simp; try with_reducible rfl)
    try simp only [Act.put, List.setIfInBounds_toArray, List.set_cons_zero, List.set_cons_succ]
    refine wpAnyH_take (i := 8) (oi := ?oi8) (v := ?v8) ?hi8 (by kernel_rfl) (by kernel_rfl) (by kernel_rfl) ?hq8 (Or.inl ⟨?hw8, ?hy8⟩) (by assumption) ?rest8
    case hi8 => simp only [List.getElem?_toArray, List.getElem?_cons_succ, List.getElem?_cons_zero]; rfl
    case hq8 => exact fun _ _ _ h => h
    case hw8 => kernel_rfl
    case hy8 => (intro w hSw; (try dsimp only at hSw); go_simp; try with_reducible rfl)
    try simp only [Act.put, List.setIfInBounds_toArray, List.set_cons_zero, List.set_cons_succ]
    refine wpAnyH_take (i := 12) (oi := ?oi9) (v := ?v9) ?hi9 (by kernel_rfl) (by kernel_rfl) (by kernel_rfl) ?hq9 (Or.inl ⟨?hw9, ?hy9⟩) (by assumption) ?rest9
    case hi9 => simp only [List.getElem?_toArray, List.getElem?_cons_succ, List.getElem?_cons_zero]; rfl
    case hq9 => exact fun _ _ _ h => h
    case hw9 => kernel_rfl
    case hy9 => (intro w hSw; (try dsimp only at hSw); go_simp; try with_reducible rfl)
    try simp only [Act.put, List.setIfInBounds_toArray, List.set_cons_zero, List.set_cons_succ]
    refine wpAnyH_take (i := 13) (oi := ?oi10) (v := ?v10) ?hi10 (by kernel_rfl) (by kernel_rfl) (by kernel_rfl) ?hq10 (Or.inl ⟨?hw10, ?hy10⟩) (by assumption) ?rest10
    case hi10 => simp only [List.getElem?_toArray, List.getElem?_cons_succ, List.getElem?_cons_zero]; rfl
    case hq10 => exact fun _ _ _ h => h
    case hw10 => kernel_rfl
    case hy10 => (intro w hSw; (try dsimp only at hSw); go_simp; try with_reducible rfl)
    try simp only [Act.put, List.setIfInBounds_toArray, List.set_cons_zero, List.set_cons_succ]
    refine wpAnyH_take (i := 14) (oi := ?oi11) (v := ?v11) ?hi11 (by kernel_rfl) (by kernel_rfl) (by kernel_rfl) ?hq11 (Or.inl ⟨?hw11, ?hy11⟩) (by assumption) ?rest11
    case hi11 => simp only [List.getElem?_toArray, List.getElem?_cons_succ, List.getElem?_cons_zero]; rfl
    case hq11 => exact fun _ _ _ h => h
    case hw11 => kernel_rfl
    case hy11 => (intro w hSw; (try dsimp only at hSw); go_simp; try with_reducible rfl)
    try simp only [Act.put, List.setIfInBounds_toArray, List.set_cons_zero, List.set_cons_succ]
    refine wpAnyH_take (i := 15) (oi := ?oi12) (v := ?v12) ?hi12 (by kernel_rfl) (by kernel_rfl) (by kernel_rfl) ?hq12 (Or.inl ⟨?hw12, ?hy12⟩) (by assumption) ?rest12
    case hi12 => simp only [List.getElem?_toArray, List.getElem?_cons_succ, List.getElem?_cons_zero]; rfl
    case hq12 => exact fun _ _ _ h => h
    case hw12 => kernel_rfl
    case hy12 => (intro w hSw; (try dsimp only at hSw); go_simp; try with_reducible rfl)
    try simp only [Act.put, List.setIfInBounds_toArray, List.set_cons_zero, List.set_cons_succ]
    refine wpAnyH_ready (rs := [4, 9]) (by kernel_rfl) (by simp) ?_
    refine AllReadyH.cons (o := ?o13) ?ho13 (fun K hK => ?st13) ?more13
    case ho13 => simp only [List.getElem?_toArray, List.getElem?_cons_succ, List.getElem?_cons_zero]; rfl
    case st13 =>
      go_simp
      refine hK.out _ _ ?_ (fun hHeld => ?_)
      · first | with_reducible exact hHeld | with_reducible exact ⟨DD.out.1 _, DD.out.2.1 _, DD.out.2.2.1 _, DD.out.2.2.2.1 _, DD.out.2.2.2.2 _⟩
      clear hK K
      try simp only [Act.put, List.setIfInBounds_toArray, List.set_cons_zero, List.set_cons_succ]
      refine wpAnyH_ready (rs := [9]) (by kernel_rfl) (by simp) ?_
      refine AllReadyH.cons (o := ?o14) ?ho14 (fun K hK => ?st14) AllReadyH.nil
      case ho14 => simp only [List.getElem?_toArray, List.getElem?_cons_succ, List.getElem?_cons_zero]; rfl
      go_simp
      (go_at_call 52; refine (ireg_any _ T b s gr kr vg _ (by repeat (first | exact HS2.out | apply StoAt.drew | apply StoAt.drewN)) m _ HM.out (by first | exact HB.out | exact HC.out)).mono ?_; rintro e w3 ⟨rfl, n9, rfl⟩)
      try go_simp
      refine hK.out _ _ ?_ (fun hHeld => ?_)
      · with_reducible exact ⟨DD.out.1 _, DD.out.2.1 _, DD.out.2.2.1 _, DD.out.2.2.2.1 _, DD.out.2.2.2.2 _⟩
      clear hK K
      try simp only [Act.put, List.setIfInBounds_toArray, List.set_cons_zero, List.set_cons_succ]
      refine wpAnyH_take (i := 10) (oi := ?oi15) (v := ?v15) ?hi15 (by kernel_rfl) (by kernel_rfl) (by kernel_rfl) ?hq15 (Or.inl ⟨?hw15, ?hy15⟩) (by assumption) ?rest15
      case hi15 => simp only [List.getElem?_toArray, List.getElem?_cons_succ, List.getElem?_cons_zero]; rfl
      case hq15 => exact fun _ _ _ h => h
      case hw15 => kernel_rfl
      case hy15 => (intro w hSw; (try dsimp only at hSw); go_simp; try with_reducible rfl)
      try simp only [Act.put, List.setIfInBounds_toArray, List.set_cons_zero, List.set_cons_succ]
      refine wpAnyH_take (i := 11) (oi := ?oi16) (v := ?v16) ?hi16 (by kernel_rfl) (by kernel_rfl) (by kernel_rfl) ?hq16 (Or.inl ⟨?hw16, ?hy16⟩) (by assumption) ?rest16
      case hi16 => simp only [List.getElem?_toArray, List.getElem?_cons_succ, List.getElem?_cons_zero]; rfl
      case hq16 => exact fun _ _ _ h => h
      case hw16 => kernel_rfl
      case hy16 => (intro w hSw; (try dsimp only at hSw); go_simp; try with_reducible rfl)
      try simp only [Act.put, List.setIfInBounds_toArray, List.set_cons_zero, List.set_cons_succ]
      refine wpAnyH_ready (rs := [16]) (by kernel_rfl) (by simp) ?_
      refine AllReadyH.cons (o := ?o17) ?ho17 (fun K hK => ?st17) AllReadyH.nil
      case ho17 => simp only [List.getElem?_toArray, List.getElem?_cons_succ, List.getElem?_cons_zero]; rfl
      go_simp
      (go_at_call 52; refine (ireg_any _ T b s gr kr vg _ (by repeat (first | exact HS2.out | apply StoAt.drew | apply StoAt.drewN)) m _ HM.out (by first | exact HB.out | exact HC.out)).mono ?_; rintro e w3 ⟨rfl, n16, rfl⟩)
      try go_simp
      refine hK.out _ _ ?_ (fun hHeld => ?_)
      · with_reducible exact ⟨DD.out.1 _, DD.out.2.1 _, DD.out.2.2.1 _, DD.out.2.2.2.1 _, DD.out.2.2.2.2 _⟩
      clear hK K
      try simp only [Act.put, List.setIfInBounds_toArray, List.set_cons_zero, List.set_cons_succ]
      refine wpAnyH_take (i := 17) (oi := ?oi18) (v := ?v18) ?hi18 (by kernel_rfl) (by kernel_rfl) (by kernel_rfl) ?hq18 (Or.inl ⟨?hw18, ?hy18⟩) (by assumption) ?rest18
      case hi18 => simp only [List.getElem?_toArray, List.getElem?_cons_succ, List.getElem?_cons_zero]; rfl
      case hq18 => exact fun _ _ _ h => h
      case hw18 => kernel_rfl
      case hy18 => (intro w hSw; (try dsimp only at hSw); go_simp; try with_reducible rfl)
      try simp only [Act.put, List.setIfInBounds_toArray, List.set_cons_zero, List.set_cons_succ]
      refine wpAnyH_take (i := 18) (oi := ?oi19) (v := ?v19) ?hi19 (by kernel_rfl) (by kernel_rfl) (by kernel_rfl) ?hq19 (Or.inl ⟨?hw19, ?hy19⟩) (by assumption) ?rest19
      case hi19 => simp only [List.getElem?_toArray, List.getElem?_cons_succ, List.getElem?_cons_zero]; rfl
      case hq19 => exact fun _ _ _ h => h
      case hw19 => kernel_rfl
      case hy19 => (intro w hSw; (try dsimp only at hSw); go_simp; try with_reducible rfl)
      try simp only [Act.put, List.setIfInBounds_toArray, List.set_cons_zero, List.set_cons_succ]
      refine wpAnyH_take (i := 19) (oi := ?oi20) (v := ?v20) ?hi20 (by kernel_rfl) (by kernel_rfl) (by kernel_rfl) ?hq20 (Or.inl ⟨?hw20, ?hy20⟩) (by assumption) ?rest20
      case hi20 => simp only [List.getElem?_toArray, List.getElem?_cons_succ, List.getElem?_cons_zero]; rfl
      case hq20 => exact fun _ _ _ h => h
      case hw20 => kernel_rfl
      case hy20 => (intro w hSw; (try dsimp only at hSw); go_simp; try with_reducible rfl)
      try simp only [Act.put, List.setIfInBounds_toArray, List.set_cons_zero, List.set_cons_succ]
      refine wpAnyH_take (i := 20) (oi := ?oi21) (v := ?v21) ?hi21 (by kernel_rfl) (by kernel_rfl) (by kernel_rfl) ?hq21 (Or.inl ⟨?hw21, ?hy21⟩) (by assumption) ?rest21
      case hi21 => simp only [List.getElem?_toArray, List.getElem?_cons_succ, List.getElem?_cons_zero]; rfl
      case hq21 => exact fun _ _ _ h => h
      case hw21 => kernel_rfl
      case hy21 => (intro w hSw; (try dsimp only at hSw); go_simp; try with_reducible rfl)
      try simp only [Act.put, List.setIfInBounds_toArray, List.set_cons_zero, List.set_cons_succ]
      refine wpAnyH_ready (rs := [21]) (by kernel_rfl) (by simp) ?_
      refine AllReadyH.cons (o := ?o22) ?ho22 (fun K hK => ?st22) AllReadyH.nil
      case ho22 => simp only [List.getElem?_toArray, List.getElem?_cons_succ, List.getElem?_cons_zero]; rfl
      go_simp
      refine hK.out _ _ ?_ (fun hHeld => ?_)
      · with_reducible exact ⟨(World.cell?_alloc_lt _ _ _ (ZN.out _)).trans (DD.out.1 _), (World.cell?_alloc_lt _ _ _ (ZN.out _)).trans (DD.out.2.1 _), (World.cell?_alloc_lt _ _ _ (ZN.out _)).trans (DD.out.2.2.1 _), (World.cell?_alloc_lt _ _ _ (GN.out _)).trans (DD.out.2.2.2.1 _), (World.cell?_alloc_lt _ _ _ (GN.out _)).trans (DD.out.2.2.2.2 _)⟩
      clear hK K
      try simp only [Act.put, List.setIfInBounds_toArray, List.set_cons_zero, List.set_cons_succ]
      clear hHeld
      generalize 1 + n9 + n16 = N
      exact tail N
    refine AllReadyH.cons (o := ?o23) ?ho23 (fun K hK => ?st23) AllReadyH.nil
    case ho23 => simp only [List.getElem?_toArray, List.getElem?_cons_succ, List.getElem?_cons_zero]; rfl
    go_simp
    (go_at_call 52; refine (ireg_any _ T b s gr kr vg _ (by repeat (first | exact HS2.out | apply StoAt.drew | apply StoAt.drewN)) m _ HM.out (by first | exact HB.out | exact HC.out)).mono ?_; rintro e w3 ⟨rfl, n9, rfl⟩)
    try go_simp
    refine hK.out _ _ ?_ (fun hHeld => ?_)
    · with_reducible exact ⟨DD.out.1 _, DD.out.2.1 _, DD.out.2.2.1 _, DD.out.2.2.2.1 _, DD.out.2.2.2.2 _⟩
    clear hK K
    try simp only [Act.put, List.setIfInBounds_toArray, List.set_cons_zero, List.set_cons_succ]
    refine wpAnyH_take (i := 10) (oi := ?oi24) (v := ?v24) ?hi24 (by kernel_rfl) (by kernel_rfl) (by kernel_rfl) ?hq24 (Or.inl ⟨?hw24, ?hy24⟩) (by assumption) ?rest24
    case hi24 => simp only [List.getElem?_toArray, List.getElem?_cons_succ, List.getElem?_cons_zero]; rfl
    case hq24 => exact fun _ _ _ h => h
    case hw24 => kernel_rfl
    case hy24 => (intro w hSw; (try dsimp only at hSw); go_simp; try with_reducible rfl)
    try simp only [Act.put, List.setIfInBounds_toArray, List.set_cons_zero, List.set_cons_succ]
    refine wpAnyH_take (i := 11) (oi := ?oi25) (v := ?v25) ?hi25 (by kernel_rfl) (by kernel_rfl) (by kernel_rfl) ?hq25 (Or.inl ⟨?hw25, ?hy25⟩) (by assumption) ?rest25
    case hi25 => simp only [List.getElem?_toArray, List.getElem?_cons_succ, List.getElem?_cons_zero]; rfl
    case hq25 => exact fun _ _ _ h => h
    case hw25 => kernel_rfl
    case hy25 => (intro w hSw; (try dsimp only at hSw); go_simp; try with_reducible rfl)
    try simp only [Act.put, List.setIfInBounds_toArray, List.set_cons_zero, List.set_cons_succ]
    refine wpAnyH_ready (rs := [4, 16]) (by kernel_rfl) (by simp) ?_
    refine AllReadyH.cons (o := ?o26) ?ho26 (fun K hK => ?st26) ?more26
    case ho26 => simp only [List.getElem?_toArray, List.getElem?_cons_succ, List.getElem?_cons_zero]; rfl
    case st26 =>
      go_simp
      refine hK.out _ _ ?_ (fun hHeld => ?_)
      · first | with_reducible exact hHeld | with_reducible exact ⟨DD.out.1 _, DD.out.2.1 _, DD.out.2.2.1 _, DD.out.2.2.2.1 _, DD.out.2.2.2.2 _⟩
      clear hK K
      try simp only [Act.put, List.setIfInBounds_toArray, List.set_cons_zero, List.set_cons_succ]
      refine wpAnyH_ready (rs := [16]) (by kernel_rfl) (by simp) ?_
      refine AllReadyH.cons (o := ?o27) ?ho27 (fun K hK => ?st27) AllReadyH.nil
      case ho27 => simp only [List.getElem?_toArray, List.getElem?_cons_succ, List.getElem?_cons_zero]; rfl
      go_simp
      (go_at_call 52; refine (ireg_any _ T b s gr kr vg _ (by repeat (first | exact HS2.out | apply StoAt.drew | apply StoAt.drewN)) m _ HM.out (by first | exact HB.out | exact HC.out)).mono ?_; rintro e w3 ⟨rfl, n16, rfl⟩)
      try go_simp
      refine hK.out _ _ ?_ (fun hHeld => ?_)
      · with_reducible exact ⟨DD.out.1 _, DD.out.2.1 _, DD.out.2.2.1 _, DD.out.2.2.2.1 _, DD.out.2.2.2.2 _⟩
      clear hK K
      try simp only [Act.put, List.setIfInBounds_toArray, List.set_cons_zero, List.set_cons_succ]
      refine wpAnyH_take (i := 17) (oi := ?oi28) (v := ?v28) ?hi28 (by kernel_rfl) (by kernel_rfl) (by kernel_rfl) ?hq28 (Or.inl ⟨?hw28, ?hy28⟩) (by assumption) ?rest28
      case hi28 => simp only [List.getElem?_toArray, List.getElem?_cons_succ, List.getElem?_cons_zero]; rfl
      case hq28 => exact fun _ _ _ h => h
      case hw28 => kernel_rfl
      case hy28 => (intro w hSw; (try dsimp only at hSw); go_simp; try with_reducible rfl)
      try simp only [Act.put, List.setIfInBounds_toArray, List.set_cons_zero, List.set_cons_succ]
      refine wpAnyH_take (i := 18) (oi := ?oi29) (v := ?v29) ?hi29 (by kernel_rfl) (by kernel_rfl) (by kernel_rfl) ?hq29 (Or.inl ⟨?hw29, ?hy29⟩) (by assumption) ?rest29
      case hi29 => simp only [List.getElem?_toArray, List.getElem?_cons_succ, List.getElem?_cons_zero]; rfl
      case hq29 => exact fun _ _ _ h => h
      case hw29 => kernel_rfl
      case hy29 => (intro w hSw; (try dsimp only at hSw); go_simp; try with_reducible rfl)
      try simp only [Act.put, List.setIfInBounds_toArray, List.set_cons_zero, List.set_cons_succ]
      refine wpAnyH_take (i := 19) (oi := ?oi30) (v := ?v30) ?hi30 (by kernel_rfl) (by kernel_rfl) (by kernel_rfl) ?hq30 (Or.inl ⟨?hw30, ?hy30⟩) (by assumption) ?rest30
      case hi30 => simp only [List.getElem?_toArray, List.getElem?_cons_succ, List.getElem?_cons_zero]; rfl
      case hq30 => exact fun _ _ _ h => h
      case hw30 => kernel_rfl
      case hy30 => (intro w hSw; (try dsimp only at hSw); go_simp; try with_reducible rfl)
      try simp only [Act.put, List.setIfInBounds_toArray, List.set_cons_zero, List.set_cons_succ]
      refine wpAnyH_take (i := 20) (oi := ?oi31) (v := ?v31) ?hi31 (by kernel_rfl) (by kernel_rfl) (by kernel_rfl) ?hq31 (Or.inl ⟨?hw31, ?hy31⟩) (by assumption) ?rest31
      case hi31 => simp only [List.getElem?_toArray, List.getElem?_cons_succ, List.getElem?_cons_zero]; rfl
      case hq31 => exact fun _ _ _ h => h
      case hw31 => kernel_rfl
      case hy31 => (intro w hSw; (try dsimp only at hSw); go_simp; try with_reducible rfl)
      try simp only [Act.put, List.setIfInBounds_toArray, List.set_cons_zero, List.set_cons_succ]
      refine wpAnyH_ready (rs := [21]) (by kernel_rfl) (by simp) ?_
      refine AllReadyH.cons (o := ?o32) ?ho32 (fun K hK => ?st32) AllReadyH.nil
      case ho32 => simp only [List.getElem?_toArray, List.getElem?_cons_succ, List.getElem?_cons_zero]; rfl
      go_simp
      refine hK.out _ _ ?_ (fun hHeld => ?_)
      · with_reducible exact ⟨(World.cell?_alloc_lt _ _ _ (ZN.out _)).trans (DD.out.1 _), (World.cell?_alloc_lt _ _ _ (ZN.out _)).trans (DD.out.2.1 _), (World.cell?_alloc_lt _ _ _ (ZN.out _)).trans (DD.out.2.2.1 _), (World.cell?_alloc_lt _ _ _ (GN.out _)).trans (DD.out.2.2.2.1 _), (World.cell?_alloc_lt _ _ _ (GN.out _)).trans (DD.out.2.2.2.2 _)⟩
      clear hK K
      try simp only [Act.put, List.setIfInBounds_toArray, List.set_cons_zero, List.set_cons_succ]
      clear hHeld
      generalize 1 + n9 + n16 = N
      exact tail N
    refine AllReadyH.cons (o := ?o33) ?ho33 (fun K hK => ?st33) AllReadyH.nil
    case ho33 => simp only [List.getElem?_toArray, List.getElem?_cons_succ, List.getElem?_cons_zero]; rfl
    go_simp
    (go_at_call 52; refine (ireg_any _ T b s gr kr vg _ (by repeat (first | exact HS2.out | apply StoAt.drew | apply StoAt.drewN)) m _ HM.out (by first | exact HB.out | exact HC.out)).mono ?_; rintro e w3 ⟨rfl, n16, rfl⟩)
    try go_simp
    refine hK.out _ _ ?_ (fun hHeld => ?_)
    · with_reducible exact ⟨DD.out.1 _, DD.out.2.1 _, DD.out.2.2.1 _, DD.out.2.2.2.1 _, DD.out.2.2.2.2 _⟩
    clear hK K
    try simp only [Act.put, List.setIfInBounds_toArray, List.set_cons_zero, List.set_cons_succ]
    refine wpAnyH_take (i := 17) (oi := ?oi34) (v := ?v34) ?hi34 (by kernel_rfl) (by kernel_rfl) (by kernel_rfl) ?hq34 (Or.inl ⟨?hw34, ?hy34⟩) (by assumption) ?rest34
    case hi34 => simp only [List.getElem?_toArray, List.getElem?_cons_succ, List.getElem?_cons_zero]; rfl
    case hq34 => exact fun _ _ _ h => h
    case hw34 => kernel_rfl
    case hy34 => (intro w hSw; (try dsimp only at hSw); go_simp; try with_reducible rfl)
    try simp only [Act.put, List.setIfInBounds_toArray, List.set_cons_zero, List.set_cons_succ]
    refine wpAnyH_take (i := 18) (oi := ?oi35) (v := ?v35) ?hi35 (by kernel_rfl) (by kernel_rfl) (by kernel_rfl) ?hq35 (Or.inl ⟨?hw35, ?hy35⟩) (by assumption) ?rest35
    case hi35 => simp only [List.getElem?_toArray, List.getElem?_cons_succ, List.getElem?_cons_zero]; rfl
    case hq35 => exact fun _ _ _ h => h
    case hw35 => kernel_rfl
    case hy35 => (intro w hSw; (try dsimp only at hSw); go_simp; try with_reducible rfl)
    try simp only [Act.put, List.setIfInBounds_toArray, List.set_cons_zero, List.set_cons_succ]
    refine wpAnyH_take (i := 19) (oi := ?oi36) (v := ?v36) ?hi36 (by kernel_rfl) (by kernel_rfl) (by kernel_rfl) ?hq36 (Or.inl ⟨?hw36, ?hy36⟩) (by assumption) ?rest36
    case hi36 => simp only [List.getElem?_toArray, List.getElem?_cons_succ, List.getElem?_cons_zero]; rfl
    case hq36 => exact fun _ _ _ h => h
    case hw36 => kernel_rfl
    case hy36 => (intro w hSw; (try dsimp only at hSw); go_simp; try with_reducible rfl)
    try simp only [Act.put, List.setIfInBounds_toArray, List.set_cons_zero, List.set_cons_succ]
    refine wpAnyH_take (i := 20) (oi := ?oi37) (v := ?v37) ?hi37 (by kernel_rfl) (by kernel_rfl) (by kernel_rfl) ?hq37 (Or.inl ⟨?hw37, ?hy37⟩) (by assumption) ?rest37
    case hi37 => simp only [List.getElem?_toArray, List.getElem?_cons_succ, List.getElem?_cons_zero]; rfl
    case hq37 => exact fun _ _ _ h => h
    case hw37 => kernel_rfl
    case hy37 => (intro w hSw; (try dsimp only at hSw); go_simp; try with_reducible rfl)
    try simp only [Act.put, List.setIfInBounds_toArray, List.set_cons_zero, List.set_cons_succ]
    refine wpAnyH_ready (rs := [4, 21]) (by kernel_rfl) (by simp) ?_
    refine AllReadyH.cons (o := ?o38) ?ho38 (fun K hK => ?st38) ?more38
    case ho38 => simp only [List.getElem?_toArray, List.getElem?_cons_succ, List.getElem?_cons_zero]; rfl
    case st38 =>
      go_simp
      refine hK.out _ _ ?_ (fun hHeld => ?_)
      · first | with_reducible exact hHeld | with_reducible exact ⟨DD.out.1 _, DD.out.2.1 _, DD.out.2.2.1 _, DD.out.2.2.2.1 _, DD.out.2.2.2.2 _⟩
      clear hK K
      try simp only [Act.put, List.setIfInBounds_toArray, List.set_cons_zero, List.set_cons_succ]
      refine wpAnyH_ready (rs := [21]) (by kernel_rfl) (by simp) ?_
      refine AllReadyH.cons (o := ?o39) ?ho39 (fun K hK => ?st39) AllReadyH.nil
      case ho39 => simp only [List.getElem?_toArray, List.getElem?_cons_succ, List.getElem?_cons_zero]; rfl
      go_simp
      refine hK.out _ _ ?_ (fun hHeld => ?_)
      · with_reducible exact ⟨(World.cell?_alloc_lt _ _ _ (ZN.out _)).trans (DD.out.1 _), (World.cell?_alloc_lt _ _ _ (ZN.out _)).trans (DD.out.2.1 _), (World.cell?_alloc_lt _ _ _ (ZN.out _)).trans (DD.out.2.2.1 _), (World.cell?_alloc_lt _ _ _ (GN.out _)).trans (DD.out.2.2.2.1 _), (World.cell?_alloc_lt _ _ _ (GN.out _)).trans (DD.out.2.2.2.2 _)⟩
      clear hK K
      try simp only [Act.put, List.setIfInBounds_toArray, List.set_cons_zero, List.set_cons_succ]
      clear hHeld
      generalize 1 + n9 + n16 = N
      exact tail N
    refine AllReadyH.cons (o := ?o40) ?ho40 (fun K hK => ?st40) AllReadyH.nil
    case ho40 => simp only [List.getElem?_toArray, List.getElem?_cons_succ, List.getElem?_cons_zero]; rfl
    go_simp
    refine hK.out _ _ ?_ (fun hHeld => ?_)
    · with_reducible exact ⟨(World.cell?_alloc_lt _ _ _ (ZN.out _)).trans (DD.out.1 _), (World.cell?_alloc_lt _ _ _ (ZN.out _)).trans (DD.out.2.1 _), (World.cell?_alloc_lt _ _ _ (ZN.out _)).trans (DD.out.2.2.1 _), (World.cell?_alloc_lt _ _ _ (GN.out _)).trans (DD.out.2.2.2.1 _), (World.cell?_alloc_lt _ _ _ (GN.out _)).trans (DD.out.2.2.2.2 _)⟩
    clear hK K
    try simp only [Act.put, List.setIfInBounds_toArray, List.set_cons_zero, List.set_cons_succ]
    refine wpAnyH_ready (rs := [4]) (by kernel_rfl) (by simp) ?_
    refine AllReadyH.cons (o := ?o41) ?ho41 (fun K hK => ?st41) AllReadyH.nil
    case ho41 => simp only [List.getElem?_toArray, List.getElem?_cons_succ, List.getElem?_cons_zero]; rfl
    go_simp
    refine hK.out _ _ ?_ (fun hHeld => ?_)
    · first | with_reducible exact hHeld | with_reducible exact ⟨DD.out.1 _, DD.out.2.1 _, DD.out.2.2.1 _, DD.out.2.2.2.1 _, DD.out.2.2.2.2 _⟩
    clear hK K
    try simp only [Act.put, List.setIfInBounds_toArray, List.set_cons_zero, List.set_cons_succ]
    clear hHeld
    generalize 1 + n9 + n16 = N
    exact tail N
  case tl =>
    intro N
    have hHeld := DDA.out N
    refine wpAnyH_ready (rs := [22]) (by kernel_rfl) (by simp) ?_
    refine AllReadyH.cons (o := ?o42) ?ho42 (fun K hK => ?st42) AllReadyH.nil
    case ho42 => simp only [List.getElem?_toArray, List.getElem?_cons_succ, List.getElem?_cons_zero]; rfl
    refine step_append_cell (vc := vc) rfl (.tmp 70) (.tmp 87) rfl _ (by repeat (first | exact HS2.out | apply StoAt.drew | apply StoAt.drewN)) _ _ HW.out hfew rfl rfl ?_
    intro g cap w' hkp c6 f6 HWK HST
    refine hK.out _ _ ?_ (fun hHeld => ?_)
    · with_reducible exact ⟨(hkp _ (ZN.out _) HVN.out).trans (DD.out.1 _), (hkp _ (ZN.out _) HVN.out).trans (DD.out.2.1 _), (hkp _ (ZN.out _) HVN.out).trans (DD.out.2.2.1 _), (hkp _ (GN.out _) HS2.out.rc).trans (DD.out.2.2.2.1 _), (hkp _ (GN.out _) HS2.out.rc).trans (DD.out.2.2.2.2 _)⟩
    clear hK K
    try simp only [Act.put, List.setIfInBounds_toArray, List.set_cons_zero, List.set_cons_succ]
    refine wpAnyH_take (i := 23) (oi := ?oi43) (v := ?v43) ?hi43 (by kernel_rfl) (by kernel_rfl) (by kernel_rfl) ?hq43 (Or.inl ⟨?hw43, ?hy43⟩) (by assumption) ?rest43
    case hi43 => simp only [List.getElem?_toArray, List.getElem?_cons_succ, List.getElem?_cons_zero]; rfl
    case hq43 => exact fun _ _ _ h => h
    case hw43 => kernel_rfl
    case hy43 => (intro w hSw; (try dsimp only at hSw); go_simp; try with_reducible rfl)
    try simp only [Act.put, List.setIfInBounds_toArray, List.set_cons_zero, List.set_cons_succ]
    refine wpAnyH_take (i := 24) (oi := ?oi44) (v := ?v44) ?hi44 (by kernel_rfl) (by kernel_rfl) (by kernel_rfl) ?hq44 (Or.inl ⟨?hw44, ?hy44⟩) (by assumption) ?rest44
    case hi44 => simp only [List.getElem?_toArray, List.getElem?_cons_succ, List.getElem?_cons_zero]; rfl
    case hq44 => exact fun _ _ _ h => h
    case hw44 => kernel_rfl
    case hy44 => (intro w hSw; (try dsimp only at hSw); go_simp; try with_reducible rfl)
    try simp only [Act.put, List.setIfInBounds_toArray, List.set_cons_zero, List.set_cons_succ]
    refine wpAnyH_ready (rs := [25]) (by kernel_rfl) (by simp) ?_
    refine AllReadyH.cons (o := ?o45) ?ho45 (fun K hK => ?st45) AllReadyH.nil
    case ho45 => simp only [List.getElem?_toArray, List.getElem?_cons_succ, List.getElem?_cons_zero]; rfl
    go_simp
    skip
    refine hK.out _ _ ?_ (fun hHeld => ?_)
    · with_reducible exact ⟨(World.cell?_setCell_far _ _ _ _ HNB.out).trans hHeld.1, (World.cell?_setCell_far _ _ _ _ HNB.out).trans hHeld.2.1, (World.cell?_setCell_far _ _ _ _ HNB.out).trans hHeld.2.2.1, (World.cell?_setCell_far _ _ _ _ HBR.out).trans hHeld.2.2.2.1, (World.cell?_setCell_far _ _ _ _ HBR.out).trans hHeld.2.2.2.2⟩
    clear hK K
    try simp only [Act.put, List.setIfInBounds_toArray, List.set_cons_zero, List.set_cons_succ]
    refine wpAnyH_done (by kernel_rfl) ?_ _
    obtain ⟨y1, _, _, _, _⟩ := hHeld
    have HST0 := Lib.hid HST.out.hc
    have z6 := HST0.out.2.2.2.2.2.2.1
    obtain ⟨c3, f3⟩ := HST.out.rcell HM.out HA.out
    have HRB : Hid (gr ≠ b) := HS2.out.br
    have HV' : Hid (Wd (s.push (s.reg m x.b, s.reg m x.c)).cs.length (s.cs.length * 2 + 1)) := by unfold Hid; simpa [Sto.push] using HV.out
    have s1 : IntKind.i64.wrap ((s.cs.length : Int) + 1 - 1) = (s.cs.length : Int) := by rw [Int.add_sub_cancel]; exact IntWalk.i64_in _ (by omega)
    have s3 : IntKind.i64.wrap (s.cs.length : Int) = (s.cs.length : Int) := IntWalk.i64_in _ (by omega)
    have s2 : IntKind.u64.wrap (s.cs.length : Int) = (s.cs.length : Int) := by rw [IntKind.wrap_u64]; omega
    have s4 : IntKind.u64.wrap ((s.cs.length : Int) * 2) = (s.cs.length : Int) * 2 := by rw [IntKind.wrap_u64]; omega
    have e1 := or_one (s.cs.length : Int) (by omega) (by omega)
    clear K6 k6 c0 c1 c2 x0 x1 x2 x3 hkp c6 f6
    go_wp2_with fail
    go_region_held3 (fun w' => w'.cell? ⟨w.heap.size, 1, none⟩ = some (.int .i64 x.a) ∧ w'.cell? ⟨b, 6, none⟩ = some (.slice (some ⟨g, 0, none⟩) (s.cs.length + 1) cap))
      (first
        | exact ⟨y1, z6⟩
        | exact ⟨(World.cell?_setCell_far _ _ _ _ HNE.out).trans y1, (World.cell?_setCell_far _ _ _ _ HRB.out).trans z6⟩)
      (first
        | (go_at_call 52; refine (ireg_any _ _ b (s.push (s.reg m x.b, s.reg m x.c)) gr kr vg _ (by repeat (first | exact HST.out | apply StoAt.drew | apply StoAt.drewN)) m _ HM.out (by first | exact HA.out)).mono ?_; rintro e w3 ⟨rfl, n, rfl⟩))
    all_goals
      go_wp2_with fail
      go_ret
      exact ⟨rfl, ⟨gr, kr, vg, _, ((HST.out.drewN _).setReg m x.a HM.out HA.out HV'.out).wide (fun y hy => by
        rcases hy with hy | hy
        · exact Or.inl hy
        · refine Or.inr ⟨Nat.le_trans (Nat.le_of_lt (ZN.out N)) hy.1, ?_⟩
          have h2 := hy.2
          simpa [World.setCell] using h2)⟩, ((((((do_keep HB2.out).drewN N).trans HWK.out.2).setCell (p := ⟨b, 6, none⟩) (Or.inl HKT.out.2) _).drewN _).setCell (Or.inl HKT.out.1) _)⟩
end Go.Proofs.Ytoapbfglpcebmaa

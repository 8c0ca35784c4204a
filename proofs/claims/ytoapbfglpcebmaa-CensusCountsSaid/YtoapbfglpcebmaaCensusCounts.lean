/- The walk of the law CensusCounts. -/
import Derived.Test.YtoapbfglpcebmaaCensusOpen
import Derived.Test.YtoapbfglpcebmaaRef32Of
import Derived.Great.BuildSlice
import Derived.Great.FillDense
namespace Go.Proofs.Ytoapbfglpcebmaa
open Go Go.RowKit Go.Op
set_option linter.unusedSimpArgs false
set_option linter.unusedVariables false

theorem ntsAt {w w' : World} {A : Option Addr} {l : List Nt} (h : Nts w w.heap.size A l) (hb : Below w.heap.size w w') : Nts w' w'.heap.size A l := (h.below hb).mono hb.size
abbrev xval (f : Nat → Int) : Value := .agg #[.int .i64 (f 0), .int .i64 (f 1), .int .i64 (f 2), .int .i64 (f 3), .int .i64 (f 4), .int .i64 (f 5), .int .i64 (f 6), .int .i64 (f 7), .int .i64 (f 8), .int .i64 (f 9), .int .i64 (f 10), .int .i64 (f 11), .int .i64 (f 12), .int .i64 (f 13), .int .i64 (f 14), .int .i64 (f 15), .int .i64 (f 16), .int .i64 (f 17), .int .i64 (f 18), .int .i64 (f 19), .int .i64 (f 20), .int .i64 (f 21), .int .i64 (f 22), .int .i64 (f 23)]
theorem xval_eq (f : Nat → Int) : xval f = cval f := rfl
theorem cells24 {w : World} {b : Nat} {f : Nat → Int} (h : w.rangeAt b 0 (cl f)) : w.cell? ⟨b, 0, none⟩ = some (.int .i64 (f 0)) ∧ w.cell? ⟨b, 1, none⟩ = some (.int .i64 (f 1)) ∧ w.cell? ⟨b, 2, none⟩ = some (.int .i64 (f 2)) ∧ w.cell? ⟨b, 3, none⟩ = some (.int .i64 (f 3)) ∧ w.cell? ⟨b, 4, none⟩ = some (.int .i64 (f 4)) ∧ w.cell? ⟨b, 5, none⟩ = some (.int .i64 (f 5)) ∧ w.cell? ⟨b, 6, none⟩ = some (.int .i64 (f 6)) ∧ w.cell? ⟨b, 7, none⟩ = some (.int .i64 (f 7)) ∧ w.cell? ⟨b, 8, none⟩ = some (.int .i64 (f 8)) ∧ w.cell? ⟨b, 9, none⟩ = some (.int .i64 (f 9)) ∧ w.cell? ⟨b, 10, none⟩ = some (.int .i64 (f 10)) ∧ w.cell? ⟨b, 11, none⟩ = some (.int .i64 (f 11)) ∧ w.cell? ⟨b, 12, none⟩ = some (.int .i64 (f 12)) ∧ w.cell? ⟨b, 13, none⟩ = some (.int .i64 (f 13)) ∧ w.cell? ⟨b, 14, none⟩ = some (.int .i64 (f 14)) ∧ w.cell? ⟨b, 15, none⟩ = some (.int .i64 (f 15)) ∧ w.cell? ⟨b, 16, none⟩ = some (.int .i64 (f 16)) ∧ w.cell? ⟨b, 17, none⟩ = some (.int .i64 (f 17)) ∧ w.cell? ⟨b, 18, none⟩ = some (.int .i64 (f 18)) ∧ w.cell? ⟨b, 19, none⟩ = some (.int .i64 (f 19)) ∧ w.cell? ⟨b, 20, none⟩ = some (.int .i64 (f 20)) ∧ w.cell? ⟨b, 21, none⟩ = some (.int .i64 (f 21)) ∧ w.cell? ⟨b, 22, none⟩ = some (.int .i64 (f 22)) ∧ w.cell? ⟨b, 23, none⟩ = some (.int .i64 (f 23)) := by
  have hc : ∀ i, i < 24 → w.cell? ⟨b, i, none⟩ = some (.int .i64 (f i)) := fun i hi => by
    have := h i _ (cl_at f i hi)
    rwa [Nat.zero_add] at this
  exact ⟨hc 0 (by omega), hc 1 (by omega), hc 2 (by omega), hc 3 (by omega), hc 4 (by omega), hc 5 (by omega), hc 6 (by omega), hc 7 (by omega), hc 8 (by omega), hc 9 (by omega), hc 10 (by omega), hc 11 (by omega), hc 12 (by omega), hc 13 (by omega), hc 14 (by omega), hc 15 (by omega), hc 16 (by omega), hc 17 (by omega), hc 18 (by omega), hc 19 (by omega), hc 20 (by omega), hc 21 (by omega), hc 22 (by omega), hc 23 (by omega)⟩
theorem guard_census (w : World) (op : BinOp) (x y : Operand) (f g : Nat → Int) : (eqGuard op 38 x y (cval f) (cval g)).run Try.prog w = .ok () w :=
  run_eqGuard_agg w op 38 x y _ _ (by kernel_rfl)
theorem range_below {w w' : World} {b : Nat} {f : Nat → Int} (h : w.rangeAt b 0 (cl f)) (k : Below w.heap.size w w') : w'.rangeAt b 0 (cl f) := fun j v hv => by
  have := h j v hv
  exact (k.cell (p := ⟨b, 0 + j, none⟩) (World.block_lt_of_cell? w _ this)).trans this
theorem sum_cen (l : List Nt) : sumF (l.map (fun t => cen [t])) = cen l := by
  funext i
  induction l with
  | nil => rfl
  | cons t r ih =>
    have e : sumF ((t :: r).map (fun t => cen [t])) i = cen [t] i + sumF (r.map (fun t => cen [t])) i := by simp [sumF]
    rw [e, ih]
    unfold cen
    rw [List.countP_cons, List.countP_cons, List.countP_nil]
    split <;> simp <;> omega
theorem info_census : (Try.prog.info? 38).map (fun i => (i.zero, i.size, i.bytes)) = some (some (.agg (cl (fun _ => 0)).toArray), 24, 192) := by kernel_rfl
theorem info_census' : ∃ i, Try.prog.info? 38 = some i ∧ i.zero = some (.agg (cl (fun _ => 0)).toArray) ∧ i.size = 24 ∧ i.bytes = 192 := by
  have := info_census
  cases hh : Try.prog.info? 38 with
  | none => rw [hh] at this; cases this
  | some i =>
    rw [hh] at this
    simp at this
    exact ⟨i, rfl, by simpa using this.1, this.2⟩
theorem fill_census (f : Nat → Int) : Instr.fill (fun i => some (i * 24, 24)) ((Array.range (1 * 24)).map ((Value.agg (cl (fun _ => 0)).toArray).cells[· % (Value.agg (cl (fun _ => 0)).toArray).cells.size]!)) [(0, Value.agg (cl f).toArray)] = some (cl f).toArray := by
  have := Go.Great.fill_whole (s := 24) (by omega) [Value.agg (cl f).toArray] ((Array.range (1 * 24)).map ((Value.agg (cl (fun _ => 0)).toArray).cells[· % (Value.agg (cl (fun _ => 0)).toArray).cells.size]!)) (by intro v hv; simp at hv; subst hv; simp [Value.cells, cl_len]) (by simp)
  simpa [Value.cells] using this
theorem reads_cens (W : World) (E : TypeId) (f : Nat → Int) : Reads (W.alloc (.cells (cl f).toArray E)) (W.heap.size + 1) 24 (some ⟨W.heap.size, 0, none⟩) 1 (cflat [f]) := by
  refine ⟨by simp [cflat, cl_len], fun _ => ⟨_, rfl, by simp, fun j u hu => ?_⟩⟩
  rw [add_zero_off, cell_of_block (heap_alloc_new W _), List.getElem?_toArray]
  simpa [cflat] using hu
theorem ownsRow_keepC {w w' : World} {S : Nat → Prop} {base size n : Nat} {e : TypeId} {v : Value} {xs : List Value} (h : w.ownsRow base e size v n xs) (hk : Keep S w w') (hs : ∀ g, v.ownBlock = some g → ¬ S g) : w'.ownsRow base e size v n xs := by
  obtain ⟨h1, h2⟩ := h
  refine ⟨h1, ?_⟩
  rcases h2 with h0 | ⟨g, cap, cur, rfl, hb, hg, r⟩
  · exact .inl h0
  · exact .inr ⟨g, cap, cur, rfl, hb, hk.at_ hg (hs g (by simp [Value.ownBlock])), r⟩
theorem Cens.drew {w : World} {A : Option Addr} {fs : List (Nat → Int)} (h : Cens w A fs) : Cens w.drew A fs := ⟨fun hp => h.at_ hp⟩
theorem nts_one (w : World) (t : Nt) : Nts (w.alloc t.obj) (w.alloc t.obj).heap.size (some ⟨w.heap.size, 0, none⟩) [t] := nts_block (heap_alloc_new w t.obj) (by simp)
set_option maxRecDepth 100000 in
theorem counts_long (w : World) (A : Option Addr) (c : Nat) (l : List Nt) (m : Int) (hl : 100 < l.length) :
    Calls Try.prog 4 #[.slice A l.length c, .int .i64 m] w fun e w' => e = .returned (.bool true) ∧ Below w.heap.size w w' := by
  have dl : decide (100 < (l.length : Int)) = true := by simp; omega
  clear hl
  go_enter Try.func4, Try.ntmps4
  go_wp2_with fail
  refine (cawake_any _).mono ?_
  rintro e w0 ⟨rfl, hb⟩
  have HB := Lib.hid hb
  clear hb
  go_wp2_with fail
  go_ret
  exact ⟨rfl, HB.out⟩
set_option maxHeartbeats 40000000 in
set_option maxRecDepth 100000 in
theorem counts_walk (w : World) (A : Option Addr) (c : Nat) (l : List Nt) (m : Int) (h : Nts w w.heap.size A l) :
    Calls Try.prog 4 #[.slice A l.length c, .int .i64 m] w fun e w' => e = .returned (.bool true) ∧ Below w.heap.size w w' := by
  by_cases hl : 100 < l.length
  · exact counts_long w A c l m hl
  have dl : decide (100 < (l.length : Int)) = false := by simp; omega
  have HL : Hid (l.length ≤ 100) := by unfold Hid; omega
  have HL1 : Hid (l.length ≤ 100000) := by unfold Hid; omega
  have HLF : Hid ((l.filter (fun t => decide (t.proc = m))).length ≤ 100000) := by
    have h1 := List.length_filter_le (fun t : Nt => decide (t.proc = m)) l
    unfold Hid
    omega
  have HN := Lib.hid h
  clear h hl
  go_enter Try.func4, Try.ntmps4
  go_wp2_with fail
  refine (cawake_any _).mono ?_
  rintro e w0 ⟨rfl, hb⟩
  have HB0 := Lib.hid hb
  clear hb
  go_wp2_with fail
  refine (cof_any _ _ A c l (ntsAt HN.out HB0.out) (Nat.le_refl _) HL1.out).mono ?_
  rintro e w1 ⟨rfl, hb⟩
  have HB1 : Hid (Below w.heap.size w w1) := HB0.out.trans (hb.mono HB0.out.size)
  rw [show cval (cen l) = .agg (cl (cen l)).toArray from rfl]
  have hc0 := cat_new w1
  have hst := store_cl hc0 (cen l)
  have hlen := cl_len (cen l)
  have hc2 := hc0.sets (cen l)
  obtain ⟨W2, hW2⟩ : ∃ W2, W2 = (w1.alloc czero).setCells w1.heap.size 0 (cl (cen l)) := ⟨_, rfl⟩
  have HWC : Hid (Below w.heap.size w W2) := by
    rw [hW2]
    exact (HB1.out.alloc HB1.out.size czero).trans ((Keep.setCells (S := fun y => y = w1.heap.size) rfl _ _ _ (Keep.refl _ _)).below (by have := HB1.out.size; simp; omega) (fun y e => by have := HB1.out.size; omega))
  rw [← hW2] at hst hc2
  have HRG := Lib.hid hc2.at_
  have HBZ := Lib.hid hc2.lt
  obtain ⟨bx, hbx⟩ : ∃ bx, bx = w1.heap.size := ⟨_, rfl⟩
  rw [← hbx] at HRG HBZ
  have HBX := Lib.hid hbx
  clear hb hc0 hc2 hW2 hbx
  go_wp2_with (first | (guard_target =~ wpList _ _ _ (Oper.mk _ (Op.load 38 _) _ _ _ _ :: _) _ _; exact False.elim (by assumption)))
  rw [← HBX.out]
  have hg1 : ∀ (w : World) (op : BinOp) (x y : Operand), (eqGuard op 38 x y (.agg (cl (cen l)).toArray) (cval (cen l))).run Try.prog w = .ok () w := fun w op x y => guard_census w op x y (cen l) (cen l)
  have hg2 : ∀ (w : World) (op : BinOp) (x y : Operand) (f : Nat → Int), (eqGuard op 38 x y (cval f) (cval f)).run Try.prog w = .ok () w := fun w op x y f => guard_census w op x y f f
  have hg3 : ∀ (w : World) (op : BinOp) (x y : Operand), (eqGuard op 38 x y (cval (cen l)) (.agg (cl (cen l)).toArray)).run Try.prog w = .ok () w := fun w op x y => guard_census w op x y (cen l) (cen l)
  have hne1 : ∀ w : World, (binOp .neq 38 (.agg (cl (cen l)).toArray) (cval (cen l))).run Try.prog w = .ok (.bool false) w := fun w => neq_census w (cen l)
  have hne2 : ∀ (w : World) (f : Nat → Int), (binOp .neq 38 (cval f) (cval f)).run Try.prog w = .ok (.bool false) w := fun w f => neq_census w f
  have heq3 : ∀ w : World, (binOp .eql 38 (cval (cen l)) (.agg (cl (cen l)).toArray)).run Try.prog w = .ok (.bool true) w := fun w => eql_census w (cen l)
  refine wp_region_held_drew (S := fun w' => w'.rangeAt bx 0 (cl (cen l))) (by kernel_rfl) ?_ (fun hHeld => ?_)
  · exact (World.rangeAt_drew _ _ _ _).2 HRG.out
  refine wpAnyH_take (i := 0) (oi := ?oi1) (v := ?v1) ?hi1 (by kernel_rfl) (by kernel_rfl) (by kernel_rfl) ?hq1 ?hy1 (by assumption) ?rest1
  case hi1 => simp only [List.getElem?_toArray, List.getElem?_cons_succ, List.getElem?_cons_zero]; rfl
  case hq1 => exact fun _ _ _ h => h
  case hy1 => (refine yieldsIf_load_mid ?_ 38 (.tmp 5) ?_ bx 0 ?_ (cl (cen l)) _ (fun w h => h) Try.underlying38 rfl (census_size _) <;> first | kernel_rfl | rfl)
  try simp only [Act.put, List.setIfInBounds_toArray, List.set_cons_zero, List.set_cons_succ]
  refine wpAnyH_take (i := 1) (oi := ?oi2) (v := ?v2) ?hi2 (by kernel_rfl) (by kernel_rfl) (by kernel_rfl) ?hq2 (Or.inl ⟨?hw2, ?hy2⟩) (by assumption) ?rest2
  case hi2 => simp only [List.getElem?_toArray, List.getElem?_cons_succ, List.getElem?_cons_zero]; rfl
  case hq2 => exact fun _ _ _ h => h
  case hw2 => kernel_rfl
  case hy2 => (intro w hSw; (try dsimp only at hSw); go_simp; try with_reducible rfl)
  try simp only [Act.put, List.setIfInBounds_toArray, List.set_cons_zero, List.set_cons_succ]
  refine wpAnyH_ready (rs := [2]) (by kernel_rfl) (by simp) ?_
  refine AllReadyH.cons (o := ?o3) ?ho3 (fun K hK => ?st3) AllReadyH.nil
  case ho3 => simp only [List.getElem?_toArray, List.getElem?_cons_succ, List.getElem?_cons_zero]; rfl
  go_simp
  (go_at_call 17; refine (rof_any _ _ A c l (ntsAt HN.out (by first | exact HWC.out | exact HWC.out.drew)) (Nat.le_refl _) HL1.out).mono ?_; rintro e w3 ⟨rfl, hb⟩; have hr' := range_below (w := _) (by first | exact HRG.out | exact (World.rangeAt_drew _ _ _ _).2 HRG.out) hb; have hw' := Below.trans (by first | exact HWC.out | exact HWC.out.drew) (hb.mono (by first | exact HWC.out.size | exact HWC.out.drew.size)); clear HRG HWC; have HRG := Lib.hid hr'; have HWC := Lib.hid hw'; clear hr' hw' hb)
  try go_simp
  refine hK.out _ _ ?_ (fun hHeld => ?_)
  · exact HRG.out
  clear hK K
  try simp only [Act.put, List.setIfInBounds_toArray, List.set_cons_zero, List.set_cons_succ]
  refine wpAnyH_take (i := 3) (oi := ?oi4) (v := ?v4) ?hi4 (by kernel_rfl) (by kernel_rfl) (by kernel_rfl) ?hq4 (Or.inl ⟨?hw4, ?hy4⟩) (by assumption) ?rest4
  case hi4 => simp only [List.getElem?_toArray, List.getElem?_cons_succ, List.getElem?_cons_zero]; rfl
  case hq4 => exact fun _ _ _ h => h
  case hw4 => kernel_rfl
  case hy4 => (intro w hSw; (try dsimp only at hSw); go_simp; try with_reducible rfl)
  try simp only [Act.put, List.setIfInBounds_toArray, List.set_cons_zero, List.set_cons_succ]
  refine wpAnyH_take (i := 4) (oi := ?oi5) (v := ?v5) ?hi5 (by kernel_rfl) (by kernel_rfl) (by kernel_rfl) ?hq5 (Or.inl ⟨?hw5, ?hy5⟩) (by assumption) ?rest5
  case hi5 => simp only [List.getElem?_toArray, List.getElem?_cons_succ, List.getElem?_cons_zero]; rfl
  case hq5 => exact fun _ _ _ h => h
  case hw5 => kernel_rfl
  case hy5 => (intro w hSw; (try dsimp only at hSw); go_simp; try with_reducible rfl)
  try simp only [Act.put, List.setIfInBounds_toArray, List.set_cons_zero, List.set_cons_succ]
  refine wpAnyH_take (i := 5) (oi := ?oi6) (v := ?v6) ?hi6 (by kernel_rfl) (by kernel_rfl) (by kernel_rfl) ?hq6 (Or.inl ⟨?hw6, ?hy6⟩) (by assumption) ?rest6
  case hi6 => simp only [List.getElem?_toArray, List.getElem?_cons_succ, List.getElem?_cons_zero]; rfl
  case hq6 => exact fun _ _ _ h => h
  case hw6 => kernel_rfl
  case hy6 => (intro w hSw; (try dsimp only at hSw); go_simp; try with_reducible rfl)
  try simp only [Act.put, List.setIfInBounds_toArray, List.set_cons_zero, List.set_cons_succ]
  refine wpAnyH_take (i := 6) (oi := ?oi7) (v := ?v7) ?hi7 (by kernel_rfl) (by kernel_rfl) (by kernel_rfl) ?hq7 (Or.inl ⟨?hw7, ?hy7⟩) (by assumption) ?rest7
  case hi7 => simp only [List.getElem?_toArray, List.getElem?_cons_succ, List.getElem?_cons_zero]; rfl
  case hq7 => exact fun _ _ _ h => h
  case hw7 => kernel_rfl
  case hy7 => (intro w hSw; (try dsimp only at hSw); go_simp; try with_reducible rfl)
  try simp only [Act.put, List.setIfInBounds_toArray, List.set_cons_zero, List.set_cons_succ]
  refine wpAnyH_take (i := 8) (oi := ?oi8) (v := ?v8) ?hi8 (by kernel_rfl) (by kernel_rfl) (by kernel_rfl) ?hq8 (Or.inl ⟨?hw8, ?hy8⟩) (by assumption) ?rest8
  case hi8 => simp only [List.getElem?_toArray, List.getElem?_cons_succ, List.getElem?_cons_zero]; rfl
  case hq8 => exact fun _ _ _ h => h
  case hw8 => kernel_rfl
  case hy8 => (intro w hSw; (try dsimp only at hSw); go_simp; try with_reducible rfl)
  try simp only [Act.put, List.setIfInBounds_toArray, List.set_cons_zero, List.set_cons_succ]
  refine wpAnyH_take (i := 9) (oi := ?oi9) (v := ?v9) ?hi9 (by kernel_rfl) (by kernel_rfl) (by kernel_rfl) ?hq9 (Or.inl ⟨?hw9, ?hy9⟩) (by assumption) ?rest9
  case hi9 => simp only [List.getElem?_toArray, List.getElem?_cons_succ, List.getElem?_cons_zero]; rfl
  case hq9 => exact fun _ _ _ h => h
  case hw9 => kernel_rfl
  case hy9 => (intro w hSw; (try dsimp only at hSw); go_simp; try with_reducible rfl)
  try simp only [Act.put, List.setIfInBounds_toArray, List.set_cons_zero, List.set_cons_succ]
  refine wpAnyH_ready (rs := [7]) (by kernel_rfl) (by simp) ?_
  refine AllReadyH.cons (o := ?o10) ?ho10 (fun K hK => ?st10) AllReadyH.nil
  case ho10 => simp only [List.getElem?_toArray, List.getElem?_cons_succ, List.getElem?_cons_zero]; rfl
  go_simp
  (go_at_call 18; refine (cby_any _ _ m A c l (ntsAt HN.out HWC.out) (Nat.le_refl _) HL1.out).mono ?_; rintro e w4 ⟨rfl, hb⟩; have hr' := range_below HRG.out hb; have hw' := HWC.out.trans (hb.mono HWC.out.size); clear HRG HWC; have HRG := Lib.hid hr'; have HWC := Lib.hid hw'; clear hr' hw' hb)
  try go_simp
  refine hK.out _ _ ?_ (fun hHeld => ?_)
  · exact HRG.out
  clear hK K
  try simp only [Act.put, List.setIfInBounds_toArray, List.set_cons_zero, List.set_cons_succ]
  refine wpAnyH_ready (rs := [10]) (by kernel_rfl) (by simp) ?_
  refine AllReadyH.cons (o := ?o11) ?ho11 (fun K hK => ?st11) AllReadyH.nil
  case ho11 => simp only [List.getElem?_toArray, List.getElem?_cons_succ, List.getElem?_cons_zero]; rfl
  go_simp
  (go_at_call 19; refine (rby_any _ _ m A c l (ntsAt HN.out HWC.out) (Nat.le_refl _) HL1.out).mono ?_; rintro e w5 ⟨v5, rfl, ho, hb⟩; obtain ⟨A5, c5, rfl, hn5⟩ := nts_of_own ho HLF.out; have HNB := Lib.hid hn5; have hr' := range_below HRG.out hb; have hw' := HWC.out.trans (hb.mono HWC.out.size); clear HRG HWC; have HRG := Lib.hid hr'; have HWC := Lib.hid hw'; clear hr' hw' hb; clear ho hn5)
  try go_simp
  refine hK.out _ _ ?_ (fun hHeld => ?_)
  · exact HRG.out
  clear hK K
  try simp only [Act.put, List.setIfInBounds_toArray, List.set_cons_zero, List.set_cons_succ]
  refine wpAnyH_ready (rs := [11]) (by kernel_rfl) (by simp) ?_
  refine AllReadyH.cons (o := ?o12) ?ho12 (fun K hK => ?st12) AllReadyH.nil
  case ho12 => simp only [List.getElem?_toArray, List.getElem?_cons_succ, List.getElem?_cons_zero]; rfl
  go_simp
  (go_at_call 17; refine (rof_any _ _ A5 c5 _ HNB.out (Nat.le_refl _) HLF.out).mono ?_; rintro e w6 ⟨rfl, hb⟩; have hr' := range_below HRG.out hb; have hw' := HWC.out.trans (hb.mono HWC.out.size); clear HRG HWC; have HRG := Lib.hid hr'; have HWC := Lib.hid hw'; clear hr' hw' hb)
  try go_simp
  refine hK.out _ _ ?_ (fun hHeld => ?_)
  · exact HRG.out
  clear hK K
  try simp only [Act.put, List.setIfInBounds_toArray, List.set_cons_zero, List.set_cons_succ]
  refine wpAnyH_take (i := 12) (oi := ?oi13) (v := ?v13) ?hi13 (by kernel_rfl) (by kernel_rfl) (by kernel_rfl) ?hq13 (Or.inl ⟨?hw13, ?hy13⟩) (by assumption) ?rest13
  case hi13 => simp only [List.getElem?_toArray, List.getElem?_cons_succ, List.getElem?_cons_zero]; rfl
  case hq13 => exact fun _ _ _ h => h
  case hw13 => kernel_rfl
  case hy13 => (intro w hSw; (try dsimp only at hSw); go_simp; try with_reducible rfl)
  try simp only [Act.put, List.setIfInBounds_toArray, List.set_cons_zero, List.set_cons_succ]
  refine wpAnyH_take (i := 13) (oi := ?oi14) (v := ?v14) ?hi14 (by kernel_rfl) (by kernel_rfl) (by kernel_rfl) ?hq14 (Or.inl ⟨?hw14, ?hy14⟩) (by assumption) ?rest14
  case hi14 => simp only [List.getElem?_toArray, List.getElem?_cons_succ, List.getElem?_cons_zero]; rfl
  case hq14 => exact fun _ _ _ h => h
  case hw14 => kernel_rfl
  case hy14 => (intro w hSw; (try dsimp only at hSw); go_simp; try with_reducible rfl)
  try simp only [Act.put, List.setIfInBounds_toArray, List.set_cons_zero, List.set_cons_succ]
  refine wpAnyH_done (by kernel_rfl) ?_ _
  clear hg1 hne1 hne2 hg2
  go_wp2_with fail
  have HR0 := HRG
  have HW0 := HWC
  clear HRG HWC HNB
  obtain ⟨W6, hW6⟩ : ∃ W6, W6 = w6 := ⟨_, rfl⟩
  rw [← hW6] at HR0 HW0 ⊢
  have HBL : Hid (bx < W6.heap.size) := World.block_lt_of_cell? W6 ⟨bx, 0 + 0, none⟩ (HR0.out 0 _ (cl_at (cen l) 0 (by omega)))
  have HW6z := Lib.hid HW0.out.size
  clear hW6
  obtain ⟨i0, hi0, hz0, hz1, hz2⟩ := info_census'
  go_loopw [6, 7] (fun v i wr => ∃ k : Nat, k ≤ l.length ∧ i = .int .i64 k ∧ Hid (wr.ownsRow W6.heap.size 38 24 v ((l.take k).map (fun t => cen [t])).length (cflat ((l.take k).map (fun t => cen [t])))) ∧ Hid (wr.rangeAt bx 0 (cl (cen l))) ∧ Hid (Below w.heap.size w wr) ∧ W6.heap.size ≤ wr.heap.size) (fun _ i _ => l.length - (intOf i).toNat)
  case atStart => exact ⟨0, Nat.zero_le _, rfl, ⟨rfl, Or.inl ⟨rfl, rfl⟩⟩, HR0, HW0, Nat.le_refl _⟩
  case round =>
    obtain ⟨k, hk, rfl, HO, HRG, HWC, hz⟩ := hrel
    clear HR0 HW0
    by_cases hlt : k < l.length
    · obtain ⟨t, ht⟩ : ∃ t, l[k]? = some t := ⟨_, List.getElem?_eq_getElem hlt⟩
      obtain ⟨ad, rfl, hadB, hc⟩ := HN.out.cell HWC.out ht
      obtain ⟨q0, q1, q2, q3, q4, q5, q6⟩ := hc
      have HT : Hid ((l.take (k + 1)).map (fun t => cen [t]) = (l.take k).map (fun t => cen [t]) ++ [cen [t]]) := by
        unfold Hid
        rw [List.take_add_one, ht]
        simp
      have hkl : ((l.take k).map (fun t => cen [t])).length ≤ 100 := by
        have := HL.out
        simp
        omega
      have sk : IntKind.i64.wrap ((k : Int) + 1) = (k : Int) + 1 := IntWalk.i64_in _ (by have := HL.out; omega)
      have HZ := Lib.hid hz
      generalize (l.take k).map (fun t => cen [t]) = fs at HO HT hkl
      have HWA : Hid (Below w.heap.size w (wr.alloc t.obj)) := HWC.out.alloc HWC.out.size _
      clear hadB ht hz
      go_wp2_with fail
      refine (cof_any _ _ (some ⟨wr.heap.size, 0, none⟩) 1 [t] (nts_one wr t) (Nat.le_refl _) (by simp)).mono ?_
      rintro e w3 ⟨rfl, hb⟩
      have HW3 : Hid (Below w.heap.size w w3) := HWA.out.trans (hb.mono HWA.out.size)
      have HK3 : Below wr.heap.size wr w3 := ((Below.refl _ wr).alloc (Nat.le_refl _) t.obj).trans (hb.mono (by simp))
      have HR3 := Lib.hid (range_below HRG.out HK3)
      have HO3 := Lib.hid (ownsRow_keepC HO.out (Keep.of_below HK3 (fun _ => False)) (fun _ _ => id))
      have HZ3 : Hid (W6.heap.size ≤ w3.heap.size) := Nat.le_trans HZ.out HK3.size
      obtain ⟨g, hg⟩ : ∃ g, g = cen [t] := ⟨_, rfl⟩
      rw [← hg] at HT ⊢
      rw [show cval g = .agg (cl g).toArray from rfl]
      have HWB : Hid (Below w.heap.size w (w3.alloc (.cells (cl g).toArray 38))) := HW3.out.alloc HW3.out.size _
      have HRB : Hid ((w3.alloc (.cells (cl g).toArray 38)).rangeAt bx 0 (cl (cen l))) := World.rangeAt_alloc HR3.out _
      have HOB : Hid ((w3.alloc (.cells (cl g).toArray 38)).ownsRow W6.heap.size 38 24 u6 fs.length (cflat fs)) := HO3.out.alloc _
      have HFI : Hid (Instr.fill (fun i => some (i * i0.size, i0.size)) ((Array.range (1 * i0.size)).map ((Value.agg (cl (fun _ => 0)).toArray).cells[· % (Value.agg (cl (fun _ => 0)).toArray).cells.size]!)) [(0, Value.agg (cl g).toArray)] = some (cl g).toArray) := by
        unfold Hid
        rw [hz1]
        exact fill_census g
      clear hb HK3 hg HO HRG HO3 HR3 HWA HWC
      go_wp2_with (first
        | (guard_target =~ wpList _ _ _ (Oper.mk _ (Op.buildSlice 43 _ _) _ _ _ _ :: _) _ _; refine wpList_buildSlice rfl 43 38 1 _ rfl (cl g).toArray i0 _ Try.underlying43 hi0 hz0 (by rw [hz1]; omega) (by rw [hz1]; omega) (by simpa [Act.eval] using HFI.out) ?_)
        | (at_builtin
           refine wpList_append_any _ rfl (.tmp 35) (.tmp 42) _ rfl W6.heap.size 38 i0 _ 24 192 Try.underlying43 hi0 hz0 hz1 hz2 (by simp [Value.cells, cl_len]) (by omega) u6 fs.length (cflat fs) rfl
             HOB.out _ _ 1 1 _ rfl (reads_cens _ _ _) (cflat_one _) (by unfold maxLen; omega) (by omega) (by have := HZ3.out; simp; omega) ?_
           intro v1 w1' hown1 hg1 hat1
           have HB1 : Hid (Below w.heap.size w w1') := HWB.out.grown hg1 HWB.out.size (fun k hk => Nat.le_trans HW6z.out (HOB.out.lt k hk).1)
           have HK1 : Keep (fun y => u6.ownBlock = some y) _ w1' := Keep.of_grown hg1 (fun _ h => h)
           have HR1 : Hid (w1'.rangeAt bx 0 (cl (cen l))) := fun j v hv => by
             have h1 := HRB.out j v hv
             exact (HK1.cell (p := ⟨bx, 0 + j, none⟩) (World.block_lt_of_cell? _ _ h1) (fun e => by have h3 : W6.heap.size ≤ bx := (HOB.out.lt bx e).1; have := HBL.out; omega)).trans h1
           have HZ1 : Hid (W6.heap.size ≤ w1'.heap.size) := Nat.le_trans HZ3.out (Nat.le_trans (by simp) HK1.size)
           have HO1 : Hid (w1'.ownsRow W6.heap.size 38 24 v1 ((l.take (k + 1)).map (fun t => cen [t])).length (cflat ((l.take (k + 1)).map (fun t => cen [t])))) := by
             unfold Hid
             rw [HT.out, cflat_append, List.length_append]
             exact hown1
           clear hown1 hg1 hat1 HK1))
      go_roundw
      case rel => exact ⟨k + 1, by omega, by go_num, HO1, HR1, HB1, HZ1.out⟩
      case measure => (simp [intOf] <;> omega)
    have hfs : (l.take k).map (fun t => cen [t]) = l.map (fun t => cen [t]) := by rw [List.take_of_length_le (by omega)]
    rw [hfs] at HO
    obtain ⟨FS, hFS⟩ : ∃ FS, FS = l.map (fun t => cen [t]) := ⟨_, rfl⟩
    rw [← hFS] at HO
    have HSUM : Hid (sumF FS = cen l) := by unfold Hid; rw [hFS, sum_cen]
    obtain ⟨A7, c7, hv7, hc7⟩ := cens_of_own HO.out
    subst hv7
    have HC7 := Lib.hid hc7
    have HFB : Hid (∀ f ∈ FS, ∀ i, 0 ≤ f i ∧ f i ≤ 1) := fun f hf i => by
      rw [hFS] at hf
      obtain ⟨t, _, rfl⟩ := List.mem_map.1 hf
      have := cen_bound [t] i
      simpa using this
    have HFL : Hid (FS.length ≤ 100000) := by unfold Hid; rw [hFS, List.length_map]; exact HL1.out
    clear hFS
    clear hfs hc7 HO
    go_wp2_with fail
    refine wp_region_held_drew (S := fun w' => w'.rangeAt bx 0 (cl (cen l))) (by kernel_rfl) ?_ (fun hHeld => ?_)
    · exact (World.rangeAt_drew _ _ _ _).2 HRG.out
    refine wpAnyH_take (i := 0) (oi := ?oi15) (v := ?v15) ?hi15 (by kernel_rfl) (by kernel_rfl) (by kernel_rfl) ?hq15 (Or.inl ⟨?hw15, ?hy15⟩) (by assumption) ?rest15
    case hi15 => simp only [List.getElem?_toArray, List.getElem?_cons_succ, List.getElem?_cons_zero]; rfl
    case hq15 => exact fun _ _ _ h => h
    case hw15 => kernel_rfl
    case hy15 => (intro w hSw; (try dsimp only at hSw); go_simp; try with_reducible rfl)
    try simp only [Act.put, List.setIfInBounds_toArray, List.set_cons_zero, List.set_cons_succ]
    refine wpAnyH_take (i := 2) (oi := ?oi16) (v := ?v16) ?hi16 (by kernel_rfl) (by kernel_rfl) (by kernel_rfl) ?hq16 ?hy16 (by assumption) ?rest16
    case hi16 => simp only [List.getElem?_toArray, List.getElem?_cons_succ, List.getElem?_cons_zero]; rfl
    case hq16 => exact fun _ _ _ h => h
    case hy16 => (refine yieldsIf_load_mid ?_ 38 (.tmp 5) ?_ bx 0 ?_ (cl (cen l)) _ (fun w h => h) Try.underlying38 rfl (census_size _) <;> first | kernel_rfl | rfl)
    try simp only [Act.put, List.setIfInBounds_toArray, List.set_cons_zero, List.set_cons_succ]
    refine wpAnyH_ready (rs := [1]) (by kernel_rfl) (by simp) ?_
    refine AllReadyH.cons (o := ?o17) ?ho17 (fun K hK => ?st17) AllReadyH.nil
    case ho17 => simp only [List.getElem?_toArray, List.getElem?_cons_succ, List.getElem?_cons_zero]; rfl
    go_simp
    (go_at_call 20; refine (join_any _ A7 c7 FS (by first | exact HC7.out.drew | exact HC7.out) HFB.out HFL.out).mono ?_; rintro e w8 ⟨rfl, hb⟩; rw [HSUM.out]; have hr' := range_below (w := _) (by first | exact HRG.out | exact (World.rangeAt_drew _ _ _ _).2 HRG.out) hb; have hw' := Below.trans (by first | exact HWC.out | exact HWC.out.drew) (hb.mono (by first | exact HWC.out.size | exact HWC.out.drew.size)); clear HRG HWC; have HRG := Lib.hid hr'; have HWC := Lib.hid hw'; clear hr' hw' hb)
    try go_simp
    refine hK.out _ _ ?_ (fun hHeld => ?_)
    · exact HRG.out
    clear hK K
    try simp only [Act.put, List.setIfInBounds_toArray, List.set_cons_zero, List.set_cons_succ]
    refine wpAnyH_take (i := 3) (oi := ?oi18) (v := ?v18) ?hi18 (by kernel_rfl) (by kernel_rfl) (by kernel_rfl) ?hq18 (Or.inl ⟨?hw18, ?hy18⟩) (by assumption) ?rest18
    case hi18 => simp only [List.getElem?_toArray, List.getElem?_cons_succ, List.getElem?_cons_zero]; rfl
    case hq18 => exact fun _ _ _ h => h
    case hw18 => kernel_rfl
    case hy18 => (intro w hSw; (try dsimp only at hSw); go_simp; try with_reducible rfl)
    try simp only [Act.put, List.setIfInBounds_toArray, List.set_cons_zero, List.set_cons_succ]
    refine wpAnyH_take (i := 4) (oi := ?oi19) (v := ?v19) ?hi19 (by kernel_rfl) (by kernel_rfl) (by kernel_rfl) ?hq19 (Or.inl ⟨?hw19, ?hy19⟩) (by assumption) ?rest19
    case hi19 => simp only [List.getElem?_toArray, List.getElem?_cons_succ, List.getElem?_cons_zero]; rfl
    case hq19 => exact fun _ _ _ h => h
    case hw19 => kernel_rfl
    case hy19 => (intro w hSw; (try dsimp only at hSw); go_simp; try with_reducible rfl)
    try simp only [Act.put, List.setIfInBounds_toArray, List.set_cons_zero, List.set_cons_succ]
    refine wpAnyH_done (by kernel_rfl) ?_ _
    go_wp2_with fail
    go_ret
    exact ⟨rfl, HWC.out⟩
end Go.Proofs.Ytoapbfglpcebmaa

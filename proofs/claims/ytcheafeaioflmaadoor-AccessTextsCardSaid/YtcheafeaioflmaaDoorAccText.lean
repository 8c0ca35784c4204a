/- access.Text: the text of any access. -/
import Derived.Test.YtcheafeaioflmaaDoorAccRight
import Derived.Test.YtcheafeaioflmaaDoorAppStr
import Derived.Test.YtcheafeaioflmaaDoorWordTotal
namespace Go.Proofs.YtcheafeaioflmaaDoor
open Go Go.RowKit
set_option linter.unusedSimpArgs false
set_option linter.unusedVariables false

set_option maxHeartbeats 8000000 in
set_option maxRecDepth 100000 in
theorem atext_1 (w : World) (c : Cfg) (a : Acc) (hf : a.Fits) (ht : Tens w) (hr : a.right c) (hk : a.kind = 1) :
    Calls Tryd.prog 17 #[c.v, a.v] w fun e w' => e = .returned (.string (a.text c)) ∧ Below w.heap.size w w' := by
  have HB0 : Hid (Below w.heap.size w ((w.alloc c.mobj).alloc a.obj)) := ((Below.refl _ _).alloc (Nat.le_refl _) _).alloc (by simp) _
  obtain ⟨g0, g1⟩ := two_new w c.mobj a.obj
  have HC0 := Lib.hid g0
  have HX0 := Lib.hid g1
  have HT : Hid (Tens w) := ht
  have HR : Hid (decide (a.right c) = true) := decide_eq_true hr
  have HRT := Lib.hid (aright_any ((w.alloc c.mobj).alloc a.obj) c a (ht.below (Nat.le_refl _) HB0.out))
  rw [HR.out] at HRT
  have HN : Hid (∀ W, Tens W → Calls Tryd.prog 57 #[c.v, .int .i64 a.at_] W fun e w' => e = .returned (.string (c.name a.at_)) ∧ Below W.heap.size W w') := fun W hW => pname_any W c a.at_ hW
  have HTX : Hid (a.text c = ⟨(jbytes spB (accWord a.kind :: c.name a.at_ :: (a.args ++ [wasB, wtext a.old]))).toArray⟩) := by unfold Hid Acc.text; rw [if_pos hr]; rfl
  have HSZ : Hid ((c.name a.at_).size ≤ 1000) := acc_name_size hr
  have HAR : Hid (a.args = []) := by unfold Hid Acc.args; rw [if_pos hk]
  obtain ⟨c0, c1, c2, c3⟩ := Cfg.mcells_at g0
  obtain ⟨x0, x1, x2, x3, x4, _⟩ := acc_cells g1
  have HF := Lib.hid hf
  clear hr ht g0 g1 hf
  obtain ⟨nm, hnm⟩ : ∃ nm, nm = c.name a.at_ := ⟨_, rfl⟩
  rw [← hnm] at HN HTX HSZ
  have k1 : (a.kind == 1) = true := by simpa using hk
  have k2 : (a.kind == 2) = false := by simp; omega
  have k3 : (a.kind == 3) = false := by simp; omega
  have k4 : (a.kind == 4) = false := by simp; omega
  have hkw : IntKind.i64.wrap (a.kind - 1) = 0 := by rw [IntWalk.i64_in _ (by omega)]; omega
  have HJ : Hid (∀ (W : World) (b : Nat), W.heap[b]? = some (.cells #[.string ⟨#[108, 111, 97, 100]⟩, .string ⟨#[115, 116, 111, 114, 101]⟩, .string ⟨#[99, 97, 115]⟩, .string ⟨#[97, 100, 100]⟩] 9) → W.cell? ⟨b, 0, none⟩ = some (.string (accWord a.kind))) := by
    intro W b hW
    rw [cell_of_block hW 0, hk]
    rfl
  have HK := Lib.hid hk
  rw [show accWord a.kind = (⟨#[108, 111, 97, 100]⟩ : ByteArray) by rw [hk]; rfl] at HJ HTX
  clear hnm hk
  go_enter Tryd.func17, Tryd.ntmps17
  go_wp2_with fail
  refine HRT.out.mono ?_
  clear HRT
  rintro e w1 ⟨rfl, hb⟩
  clear c0 c1 c2 c3 x0 x1 x2 x3 x4
  have HB1 : Hid (Below w.heap.size w w1) := HB0.out.trans (hb.mono HB0.out.size)
  have hs1 : w.heap.size + 1 < w1.heap.size := by have := hb.size; simp at this; omega
  have hs0 : w.heap.size < w1.heap.size := by omega
  have hs2 : w.heap.size ≤ w1.heap.size := by omega
  have HC1 := Lib.hid ((hb.block w.heap.size (by simp; omega)).trans HC0.out)
  have HX1 := Lib.hid ((hb.block (w.heap.size + 1) (by simp)).trans HX0.out)
  clear hb
  have HS : Hid (∀ w', Below w1.heap.size w1 w' → w'.cell? ⟨w.heap.size, 0, none⟩ = some (.int .i64 c.cells) ∧ w'.cell? ⟨w.heap.size, 1, none⟩ = some (.int .i64 c.muts) ∧ w'.cell? ⟨w.heap.size, 2, none⟩ = some (.int .i64 c.regs) ∧ w'.cell? ⟨w.heap.size, 3, none⟩ = some (.int .i64 c.globs) ∧ w'.cell? ⟨w.heap.size + 1, 0, none⟩ = some (.int .i64 a.kind) ∧ w'.cell? ⟨w.heap.size + 1, 1, none⟩ = some (.int .i64 a.at_) ∧ Below w1.heap.size w1 w') := fun w' hb => by
    obtain ⟨e0, e1, e2, e3⟩ := Cfg.mcells_at ((hb.block w.heap.size hs0).trans HC1.out)
    obtain ⟨f0, f1, _⟩ := acc_cells ((hb.block (w.heap.size + 1) hs1).trans HX1.out)
    exact ⟨e0, e1, e2, e3, f0, f1, hb⟩
  have HXA : Hid (∀ w', Below w1.heap.size w1 w' → w'.heap[w.heap.size + 1]? = some a.obj) := fun w' hb => (hb.block _ hs1).trans HX1.out
  have HTA : Hid (∀ w', Below w1.heap.size w1 w' → Tens w') := fun w' hb => HT.out.below (Nat.le_refl _) (HB1.out.trans (hb.mono hs2))
  obtain ⟨y0, y1, y2, y3, y4, y5, _⟩ := HS.out w1 (Below.refl _ _)
  obtain ⟨c0, c1, c2, c3, x0, x1⟩ : w1.cell? ⟨w.heap.size, 0, none⟩ = some (.int .i64 c.cells) ∧ w1.cell? ⟨w.heap.size, 1, none⟩ = some (.int .i64 c.muts) ∧ w1.cell? ⟨w.heap.size, 2, none⟩ = some (.int .i64 c.regs) ∧ w1.cell? ⟨w.heap.size, 3, none⟩ = some (.int .i64 c.globs) ∧ w1.cell? ⟨w.heap.size + 1, 0, none⟩ = some (.int .i64 a.kind) ∧ w1.cell? ⟨w.heap.size + 1, 1, none⟩ = some (.int .i64 a.at_) := ⟨y0, y1, y2, y3, y4, y5⟩
  clear y0 y1 y2 y3 y4 y5
  have hc1 := HJ.out _ _ (heap_alloc_new w1.drew _)
  go_wp2_with fail
  refine wp_region_held_drew (S := fun w' => w'.cell? ⟨w.heap.size, 0, none⟩ = some (.int .i64 c.cells) ∧ w'.cell? ⟨w.heap.size, 1, none⟩ = some (.int .i64 c.muts) ∧ w'.cell? ⟨w.heap.size, 2, none⟩ = some (.int .i64 c.regs) ∧ w'.cell? ⟨w.heap.size, 3, none⟩ = some (.int .i64 c.globs) ∧ w'.cell? ⟨w.heap.size + 1, 0, none⟩ = some (.int .i64 a.kind) ∧ w'.cell? ⟨w.heap.size + 1, 1, none⟩ = some (.int .i64 a.at_) ∧ Below w1.heap.size w1 w') (by kernel_rfl) ?_ (fun hHeld => ?_)
  · exact HS.out _ ((Below.refl _ _).drew)
  clear c0 c1 c2 c3 x0 x1
  refine wpAnyH_take (i := 1) (oi := ?oi1) (v := ?v1) ?hi1 (by kernel_rfl) (by kernel_rfl) (by kernel_rfl) ?hq1 (Or.inl ⟨?hw1, ?hy1⟩) (by assumption) ?rest1
  case hi1 => simp only [List.getElem?_toArray, List.getElem?_cons_succ, List.getElem?_cons_zero]; rfl
  case hq1 => exact fun _ _ _ h => h
  case hw1 => kernel_rfl
  case hy1 => (intro w hSw; (try dsimp only at hSw); go_simp; try with_reducible rfl)
  try simp only [Act.put, List.setIfInBounds_toArray, List.set_cons_zero, List.set_cons_succ]
  refine wpAnyH_take (i := 2) (oi := ?oi2) (v := ?v2) ?hi2 (by kernel_rfl) (by kernel_rfl) (by kernel_rfl) ?hq2 (Or.inl ⟨?hw2, ?hy2⟩) (by assumption) ?rest2
  case hi2 => simp only [List.getElem?_toArray, List.getElem?_cons_succ, List.getElem?_cons_zero]; rfl
  case hq2 => exact fun _ _ _ h => h
  case hw2 => kernel_rfl
  case hy2 => (intro w hSw; (try dsimp only at hSw); go_simp; try with_reducible rfl)
  try simp only [Act.put, List.setIfInBounds_toArray, List.set_cons_zero, List.set_cons_succ]
  refine wpAnyH_take (i := 3) (oi := ?oi3) (v := ?v3) ?hi3 (by kernel_rfl) (by kernel_rfl) (by kernel_rfl) ?hq3 (Or.inl ⟨?hw3, ?hy3⟩) (by assumption) ?rest3
  case hi3 => simp only [List.getElem?_toArray, List.getElem?_cons_succ, List.getElem?_cons_zero]; rfl
  case hq3 => exact fun _ _ _ h => h
  case hw3 => kernel_rfl
  case hy3 => (intro w hSw; (try dsimp only at hSw); go_simp; try with_reducible rfl)
  try simp only [Act.put, List.setIfInBounds_toArray, List.set_cons_zero, List.set_cons_succ]
  refine wpAnyH_take (i := 6) (oi := ?oi4) (v := ?v4) ?hi4 (by kernel_rfl) (by kernel_rfl) (by kernel_rfl) ?hq4 (Or.inl ⟨?hw4, ?hy4⟩) (by assumption) ?rest4
  case hi4 => simp only [List.getElem?_toArray, List.getElem?_cons_succ, List.getElem?_cons_zero]; rfl
  case hq4 => exact fun _ _ _ h => h
  case hw4 => kernel_rfl
  case hy4 => (intro w hSw; (try dsimp only at hSw); go_simp; try with_reducible rfl)
  try simp only [Act.put, List.setIfInBounds_toArray, List.set_cons_zero, List.set_cons_succ]
  refine wpAnyH_take (i := 7) (oi := ?oi5) (v := ?v5) ?hi5 (by kernel_rfl) (by kernel_rfl) (by kernel_rfl) ?hq5 (Or.inl ⟨?hw5, ?hy5⟩) (by assumption) ?rest5
  case hi5 => simp only [List.getElem?_toArray, List.getElem?_cons_succ, List.getElem?_cons_zero]; rfl
  case hq5 => exact fun _ _ _ h => h
  case hw5 => kernel_rfl
  case hy5 => (intro w hSw; (try dsimp only at hSw); go_simp; try with_reducible rfl)
  try simp only [Act.put, List.setIfInBounds_toArray, List.set_cons_zero, List.set_cons_succ]
  refine wpAnyH_take (i := 8) (oi := ?oi6) (v := ?v6) ?hi6 (by kernel_rfl) (by kernel_rfl) (by kernel_rfl) ?hq6 (Or.inl ⟨?hw6, ?hy6⟩) (by assumption) ?rest6
  case hi6 => simp only [List.getElem?_toArray, List.getElem?_cons_succ, List.getElem?_cons_zero]; rfl
  case hq6 => exact fun _ _ _ h => h
  case hw6 => kernel_rfl
  case hy6 => (intro w hSw; (try dsimp only at hSw); go_simp; try with_reducible rfl)
  try simp only [Act.put, List.setIfInBounds_toArray, List.set_cons_zero, List.set_cons_succ]
  refine wpAnyH_ready (rs := [0, 9]) (by kernel_rfl) (by simp) ?_
  refine AllReadyH.cons (o := ?o7) ?ho7 (fun K hK => ?st7) ?more7
  case ho7 => simp only [List.getElem?_toArray, List.getElem?_cons_succ, List.getElem?_cons_zero]; rfl
  case st7 =>
    go_simp
    refine hK.out _ _ ?_ (fun hHeld => ?_)
    · exact HS.out _ (hHeld.2.2.2.2.2.2.alloc hHeld.2.2.2.2.2.2.size _)
    clear hK K
    try simp only [Act.put, List.setIfInBounds_toArray, List.set_cons_zero, List.set_cons_succ]
    refine wpAnyH_take (i := 4) (oi := ?oi8) (v := ?v8) ?hi8 (by kernel_rfl) (by kernel_rfl) (by kernel_rfl) ?hq8 (Or.inl ⟨?hw8, ?hy8⟩) (by assumption) ?rest8
    case hi8 => simp only [List.getElem?_toArray, List.getElem?_cons_succ, List.getElem?_cons_zero]; rfl
    case hq8 => exact fun _ _ _ h => h
    case hw8 => kernel_rfl
    case hy8 => (intro w hSw; (try dsimp only at hSw); go_simp; try with_reducible rfl)
    try simp only [Act.put, List.setIfInBounds_toArray, List.set_cons_zero, List.set_cons_succ]
    refine wpAnyH_ready (rs := [5, 9]) (by kernel_rfl) (by simp) ?_
    refine AllReadyH.cons (o := ?o9) ?ho9 (fun K hK => ?st9) ?more9
    case ho9 => simp only [List.getElem?_toArray, List.getElem?_cons_succ, List.getElem?_cons_zero]; rfl
    case st9 =>
      go_simp
      refine hK.out _ _ ?_ (fun hHeld => ?_)
      · exact hHeld
      clear hK K
      try simp only [Act.put, List.setIfInBounds_toArray, List.set_cons_zero, List.set_cons_succ]
      refine wpAnyH_ready (rs := [9]) (by kernel_rfl) (by simp) ?_
      refine AllReadyH.cons (o := ?o10) ?ho10 (fun K hK => ?st10) AllReadyH.nil
      case ho10 => simp only [List.getElem?_toArray, List.getElem?_cons_succ, List.getElem?_cons_zero]; rfl
      go_simp
      go_at_call 57
      refine (HN.out _ (HT.out.below (Nat.le_refl _) (HB1.out.trans (hHeld.2.2.2.2.2.2.mono hs2)))).mono ?_
      rintro e wq ⟨rfl, hb2⟩
      have hc2 := HJ.out _ _ (heap_alloc_new wq _)
      try (have hc3 : wq.cell? ⟨w1.heap.size, 0, none⟩ = some (.string (⟨#[108, 111, 97, 100]⟩ : ByteArray)) := HJ.out _ _ ((hb2.block _ (by simp)).trans (heap_alloc_new w1.drew _)))
      have HBQ := Lib.hid (hHeld.2.2.2.2.2.2.trans (hb2.mono hHeld.2.2.2.2.2.2.size))
      clear hb2
      try go_simp
      refine hK.out _ _ ?_ (fun hHeld => ?_)
      · exact HS.out _ HBQ.out
      clear hK K
      try simp only [Act.put, List.setIfInBounds_toArray, List.set_cons_zero, List.set_cons_succ]
      refine wpAnyH_ready (rs := [10]) (by kernel_rfl) (by simp) ?_
      refine AllReadyH.cons (o := ?o11) ?ho11 (fun K hK => ?st11) AllReadyH.nil
      case ho11 => simp only [List.getElem?_toArray, List.getElem?_cons_succ, List.getElem?_cons_zero]; rfl
      go_simp
      refine hK.out _ _ ?_ (fun hHeld => ?_)
      · exact HS.out _ (hHeld.2.2.2.2.2.2.alloc hHeld.2.2.2.2.2.2.size _)
      clear hK K
      try simp only [Act.put, List.setIfInBounds_toArray, List.set_cons_zero, List.set_cons_succ]
      refine wpAnyH_take (i := 11) (oi := ?oi12) (v := ?v12) ?hi12 (by kernel_rfl) (by kernel_rfl) (by kernel_rfl) ?hq12 (Or.inl ⟨?hw12, ?hy12⟩) (by assumption) ?rest12
      case hi12 => simp only [List.getElem?_toArray, List.getElem?_cons_succ, List.getElem?_cons_zero]; rfl
      case hq12 => exact fun _ _ _ h => h
      case hw12 => kernel_rfl
      case hy12 => (intro w hSw; (try dsimp only at hSw); go_simp; try with_reducible rfl)
      try simp only [Act.put, List.setIfInBounds_toArray, List.set_cons_zero, List.set_cons_succ]
      refine wpAnyH_done (by kernel_rfl) ?_ _
      obtain ⟨W5, hW5⟩ : ∃ W5, W5 = wq.alloc (.cells #[.string (⟨#[108, 111, 97, 100]⟩ : ByteArray), .string nm] 9) := ⟨_, rfl⟩
      have HG : Hid (W5.heap[wq.heap.size]? = some (.cells #[.string (⟨#[108, 111, 97, 100]⟩ : ByteArray), .string nm] 9)) := by rw [hW5]; exact heap_alloc_new _ _
      rw [← hW5] at hHeld ⊢
      clear hW5
      have HB5 : Hid (Below w1.heap.size w1 W5) := hHeld.2.2.2.2.2.2
      have HR5 := Lib.hid (own_two (B := w1.heap.size) HG.out (by have := HBQ.out.size; omega))
      have hz5 := block_lt HG.out
      have hb5 := HB5.out.size
      clear hHeld
      have hx5 := HXA.out _ HB5.out; have hs5 := block_lt hx5; obtain ⟨x0, x1, x2, x3, x4, _⟩ := acc_cells hx5; clear hx5
      go_wp2_with (first | (at_builtin; refine app_strs rfl (.tmp 41) (.tmp 42) rfl w1.heap.size _ [(⟨#[108, 111, 97, 100]⟩ : ByteArray), nm] [] rfl HR5.out 0 none 0 0 [] rfl (reads_none _ _) rfl rfl (by simp) (by omega) ?_; intro v6 W6 hown6 hb6; have HB6 := Lib.hid (HB5.out.trans hb6); have HR6 := Lib.hid hown6; clear hown6 hb6 x0 x1 x2 x3 x4; have hx6 := HXA.out _ HB6.out; have hs6 := block_lt hx6; obtain ⟨x0, x1, x2, x3, x4, _⟩ := acc_cells hx6; clear hx6))
      refine (text_any _ a.old HF.out.o.1 HF.out.o.2 (HTA.out _ HB6.out)).mono ?_
      rintro e W7 ⟨rfl, hb⟩
      have HB7 := Lib.hid (HB6.out.trans (hb.mono HB6.out.size))
      have HR7 := Lib.hid (ownsRow_belowT HR6.out hb)
      obtain ⟨tw, htw⟩ : ∃ tw, tw = wtext a.old := ⟨_, rfl⟩
      have HTS : Hid (tw.size ≤ 21) := by unfold Hid; rw [htw]; exact awt_size _ HF.out.o.1 HF.out.o.2
      rw [← htw] at HTX ⊢
      clear hb htw x0 x1 x2 x3 x4
      go_wp2_with (first | (at_builtin; refine app_strs rfl (.tmp 44) (.tmp 48) rfl w1.heap.size _ ([(⟨#[108, 111, 97, 100]⟩ : ByteArray), nm] ++ []) [wasB, tw] rfl (HR7.out.alloc _) _ _ 2 2 [.string wasB, .string tw] rfl (reads_two _ _ _ _) rfl rfl (by simp) (by have := HB7.out.size; simp; omega) ?_; intro v8 W8 hown8 hb8; have HB8 := Lib.hid ((HB7.out.alloc HB7.out.size _).trans hb8); obtain ⟨A8, cp8, hv8, hcap8, hst8⟩ := strs_of_own hown8; subst hv8; have HCAP := Lib.hid hcap8; have HST := Lib.hid hst8; clear hown8 hb8 hcap8 hst8))
      refine (join_any _ A8 cp8 [(⟨#[108, 111, 97, 100]⟩ : ByteArray), nm, wasB, tw] ⟨#[32]⟩ HST.out HCAP.out (by simp) (by have h1 := HTS.out; have h2 := HSZ.out; have h3 : ((⟨#[108, 111, 97, 100]⟩ : ByteArray)).size ≤ 5 := (by decide); have h4 : wasB.size = 3 := rfl; simp only [jlen, List.map_cons, List.map_nil, List.sum_cons, List.sum_nil]; omega) (by decide)).mono ?_
      rintro e W9 ⟨rfl, hb⟩
      have HB9 := Lib.hid (HB8.out.trans (hb.mono HB8.out.size))
      clear hb
      go_wp2_with fail
      go_ret
      exact ⟨by rw [HTX.out, HAR.out]; rfl, HB1.out.trans (HB9.out.mono hs2)⟩
    refine AllReadyH.cons (o := ?o13) ?ho13 (fun K hK => ?st13) AllReadyH.nil
    case ho13 => simp only [List.getElem?_toArray, List.getElem?_cons_succ, List.getElem?_cons_zero]; rfl
    go_simp
    go_at_call 57
    refine (HN.out _ (HT.out.below (Nat.le_refl _) (HB1.out.trans (hHeld.2.2.2.2.2.2.mono hs2)))).mono ?_
    rintro e wq ⟨rfl, hb2⟩
    have hc2 := HJ.out _ _ (heap_alloc_new wq _)
    try (have hc3 : wq.cell? ⟨w1.heap.size, 0, none⟩ = some (.string (⟨#[108, 111, 97, 100]⟩ : ByteArray)) := HJ.out _ _ ((hb2.block _ (by simp)).trans (heap_alloc_new w1.drew _)))
    have HBQ := Lib.hid (hHeld.2.2.2.2.2.2.trans (hb2.mono hHeld.2.2.2.2.2.2.size))
    clear hb2
    try go_simp
    refine hK.out _ _ ?_ (fun hHeld => ?_)
    · exact HS.out _ HBQ.out
    clear hK K
    try simp only [Act.put, List.setIfInBounds_toArray, List.set_cons_zero, List.set_cons_succ]
    refine wpAnyH_ready (rs := [5]) (by kernel_rfl) (by simp) ?_
    refine AllReadyH.cons (o := ?o14) ?ho14 (fun K hK => ?st14) AllReadyH.nil
    case ho14 => simp only [List.getElem?_toArray, List.getElem?_cons_succ, List.getElem?_cons_zero]; rfl
    go_simp
    refine hK.out _ _ ?_ (fun hHeld => ?_)
    · exact hHeld
    clear hK K
    try simp only [Act.put, List.setIfInBounds_toArray, List.set_cons_zero, List.set_cons_succ]
    refine wpAnyH_ready (rs := [10]) (by kernel_rfl) (by simp) ?_
    refine AllReadyH.cons (o := ?o15) ?ho15 (fun K hK => ?st15) AllReadyH.nil
    case ho15 => simp only [List.getElem?_toArray, List.getElem?_cons_succ, List.getElem?_cons_zero]; rfl
    go_simp
    refine hK.out _ _ ?_ (fun hHeld => ?_)
    · exact HS.out _ (hHeld.2.2.2.2.2.2.alloc hHeld.2.2.2.2.2.2.size _)
    clear hK K
    try simp only [Act.put, List.setIfInBounds_toArray, List.set_cons_zero, List.set_cons_succ]
    refine wpAnyH_take (i := 11) (oi := ?oi16) (v := ?v16) ?hi16 (by kernel_rfl) (by kernel_rfl) (by kernel_rfl) ?hq16 (Or.inl ⟨?hw16, ?hy16⟩) (by assumption) ?rest16
    case hi16 => simp only [List.getElem?_toArray, List.getElem?_cons_succ, List.getElem?_cons_zero]; rfl
    case hq16 => exact fun _ _ _ h => h
    case hw16 => kernel_rfl
    case hy16 => (intro w hSw; (try dsimp only at hSw); go_simp; try with_reducible rfl)
    try simp only [Act.put, List.setIfInBounds_toArray, List.set_cons_zero, List.set_cons_succ]
    refine wpAnyH_done (by kernel_rfl) ?_ _
    obtain ⟨W5, hW5⟩ : ∃ W5, W5 = wq.alloc (.cells #[.string (⟨#[108, 111, 97, 100]⟩ : ByteArray), .string nm] 9) := ⟨_, rfl⟩
    have HG : Hid (W5.heap[wq.heap.size]? = some (.cells #[.string (⟨#[108, 111, 97, 100]⟩ : ByteArray), .string nm] 9)) := by rw [hW5]; exact heap_alloc_new _ _
    rw [← hW5] at hHeld ⊢
    clear hW5
    have HB5 : Hid (Below w1.heap.size w1 W5) := hHeld.2.2.2.2.2.2
    have HR5 := Lib.hid (own_two (B := w1.heap.size) HG.out (by have := HBQ.out.size; omega))
    have hz5 := block_lt HG.out
    have hb5 := HB5.out.size
    clear hHeld
    have hx5 := HXA.out _ HB5.out; have hs5 := block_lt hx5; obtain ⟨x0, x1, x2, x3, x4, _⟩ := acc_cells hx5; clear hx5
    go_wp2_with (first | (at_builtin; refine app_strs rfl (.tmp 41) (.tmp 42) rfl w1.heap.size _ [(⟨#[108, 111, 97, 100]⟩ : ByteArray), nm] [] rfl HR5.out 0 none 0 0 [] rfl (reads_none _ _) rfl rfl (by simp) (by omega) ?_; intro v6 W6 hown6 hb6; have HB6 := Lib.hid (HB5.out.trans hb6); have HR6 := Lib.hid hown6; clear hown6 hb6 x0 x1 x2 x3 x4; have hx6 := HXA.out _ HB6.out; have hs6 := block_lt hx6; obtain ⟨x0, x1, x2, x3, x4, _⟩ := acc_cells hx6; clear hx6))
    refine (text_any _ a.old HF.out.o.1 HF.out.o.2 (HTA.out _ HB6.out)).mono ?_
    rintro e W7 ⟨rfl, hb⟩
    have HB7 := Lib.hid (HB6.out.trans (hb.mono HB6.out.size))
    have HR7 := Lib.hid (ownsRow_belowT HR6.out hb)
    obtain ⟨tw, htw⟩ : ∃ tw, tw = wtext a.old := ⟨_, rfl⟩
    have HTS : Hid (tw.size ≤ 21) := by unfold Hid; rw [htw]; exact awt_size _ HF.out.o.1 HF.out.o.2
    rw [← htw] at HTX ⊢
    clear hb htw x0 x1 x2 x3 x4
    go_wp2_with (first | (at_builtin; refine app_strs rfl (.tmp 44) (.tmp 48) rfl w1.heap.size _ ([(⟨#[108, 111, 97, 100]⟩ : ByteArray), nm] ++ []) [wasB, tw] rfl (HR7.out.alloc _) _ _ 2 2 [.string wasB, .string tw] rfl (reads_two _ _ _ _) rfl rfl (by simp) (by have := HB7.out.size; simp; omega) ?_; intro v8 W8 hown8 hb8; have HB8 := Lib.hid ((HB7.out.alloc HB7.out.size _).trans hb8); obtain ⟨A8, cp8, hv8, hcap8, hst8⟩ := strs_of_own hown8; subst hv8; have HCAP := Lib.hid hcap8; have HST := Lib.hid hst8; clear hown8 hb8 hcap8 hst8))
    refine (join_any _ A8 cp8 [(⟨#[108, 111, 97, 100]⟩ : ByteArray), nm, wasB, tw] ⟨#[32]⟩ HST.out HCAP.out (by simp) (by have h1 := HTS.out; have h2 := HSZ.out; have h3 : ((⟨#[108, 111, 97, 100]⟩ : ByteArray)).size ≤ 5 := (by decide); have h4 : wasB.size = 3 := rfl; simp only [jlen, List.map_cons, List.map_nil, List.sum_cons, List.sum_nil]; omega) (by decide)).mono ?_
    rintro e W9 ⟨rfl, hb⟩
    have HB9 := Lib.hid (HB8.out.trans (hb.mono HB8.out.size))
    clear hb
    go_wp2_with fail
    go_ret
    exact ⟨by rw [HTX.out, HAR.out]; rfl, HB1.out.trans (HB9.out.mono hs2)⟩
  refine AllReadyH.cons (o := ?o17) ?ho17 (fun K hK => ?st17) AllReadyH.nil
  case ho17 => simp only [List.getElem?_toArray, List.getElem?_cons_succ, List.getElem?_cons_zero]; rfl
  go_simp
  go_at_call 57
  refine (HN.out _ (HT.out.below (Nat.le_refl _) (HB1.out.trans (hHeld.2.2.2.2.2.2.mono hs2)))).mono ?_
  rintro e wq ⟨rfl, hb2⟩
  have hc2 := HJ.out _ _ (heap_alloc_new wq _)
  try (have hc3 : wq.cell? ⟨w1.heap.size, 0, none⟩ = some (.string (⟨#[108, 111, 97, 100]⟩ : ByteArray)) := HJ.out _ _ ((hb2.block _ (by simp)).trans (heap_alloc_new w1.drew _)))
  have HBQ := Lib.hid (hHeld.2.2.2.2.2.2.trans (hb2.mono hHeld.2.2.2.2.2.2.size))
  clear hb2
  try go_simp
  refine hK.out _ _ ?_ (fun hHeld => ?_)
  · exact HS.out _ HBQ.out
  clear hK K
  try simp only [Act.put, List.setIfInBounds_toArray, List.set_cons_zero, List.set_cons_succ]
  refine wpAnyH_ready (rs := [0]) (by kernel_rfl) (by simp) ?_
  refine AllReadyH.cons (o := ?o18) ?ho18 (fun K hK => ?st18) AllReadyH.nil
  case ho18 => simp only [List.getElem?_toArray, List.getElem?_cons_succ, List.getElem?_cons_zero]; rfl
  go_simp
  refine hK.out _ _ ?_ (fun hHeld => ?_)
  · exact HS.out _ (hHeld.2.2.2.2.2.2.alloc hHeld.2.2.2.2.2.2.size _)
  clear hK K
  try simp only [Act.put, List.setIfInBounds_toArray, List.set_cons_zero, List.set_cons_succ]
  refine wpAnyH_take (i := 4) (oi := ?oi19) (v := ?v19) ?hi19 (by kernel_rfl) (by kernel_rfl) (by kernel_rfl) ?hq19 (Or.inl ⟨?hw19, ?hy19⟩) (by assumption) ?rest19
  case hi19 => simp only [List.getElem?_toArray, List.getElem?_cons_succ, List.getElem?_cons_zero]; rfl
  case hq19 => exact fun _ _ _ h => h
  case hw19 => kernel_rfl
  case hy19 => (intro w hSw; (try dsimp only at hSw); go_simp; try with_reducible rfl)
  try simp only [Act.put, List.setIfInBounds_toArray, List.set_cons_zero, List.set_cons_succ]
  refine wpAnyH_ready (rs := [5]) (by kernel_rfl) (by simp) ?_
  refine AllReadyH.cons (o := ?o20) ?ho20 (fun K hK => ?st20) AllReadyH.nil
  case ho20 => simp only [List.getElem?_toArray, List.getElem?_cons_succ, List.getElem?_cons_zero]; rfl
  go_simp
  refine hK.out _ _ ?_ (fun hHeld => ?_)
  · exact hHeld
  clear hK K
  try simp only [Act.put, List.setIfInBounds_toArray, List.set_cons_zero, List.set_cons_succ]
  refine wpAnyH_ready (rs := [10]) (by kernel_rfl) (by simp) ?_
  refine AllReadyH.cons (o := ?o21) ?ho21 (fun K hK => ?st21) AllReadyH.nil
  case ho21 => simp only [List.getElem?_toArray, List.getElem?_cons_succ, List.getElem?_cons_zero]; rfl
  go_simp
  refine hK.out _ _ ?_ (fun hHeld => ?_)
  · exact HS.out _ (hHeld.2.2.2.2.2.2.alloc hHeld.2.2.2.2.2.2.size _)
  clear hK K
  try simp only [Act.put, List.setIfInBounds_toArray, List.set_cons_zero, List.set_cons_succ]
  refine wpAnyH_take (i := 11) (oi := ?oi22) (v := ?v22) ?hi22 (by kernel_rfl) (by kernel_rfl) (by kernel_rfl) ?hq22 (Or.inl ⟨?hw22, ?hy22⟩) (by assumption) ?rest22
  case hi22 => simp only [List.getElem?_toArray, List.getElem?_cons_succ, List.getElem?_cons_zero]; rfl
  case hq22 => exact fun _ _ _ h => h
  case hw22 => kernel_rfl
  case hy22 => (intro w hSw; (try dsimp only at hSw); go_simp; try with_reducible rfl)
  try simp only [Act.put, List.setIfInBounds_toArray, List.set_cons_zero, List.set_cons_succ]
  refine wpAnyH_done (by kernel_rfl) ?_ _
  obtain ⟨W5, hW5⟩ : ∃ W5, W5 = (wq.alloc (.cells #[.string ⟨#[108, 111, 97, 100]⟩, .string ⟨#[115, 116, 111, 114, 101]⟩, .string ⟨#[99, 97, 115]⟩, .string ⟨#[97, 100, 100]⟩] 9)).alloc (.cells #[.string (⟨#[108, 111, 97, 100]⟩ : ByteArray), .string nm] 9) := ⟨_, rfl⟩
  have HG : Hid (W5.heap[wq.heap.size + 1]? = some (.cells #[.string (⟨#[108, 111, 97, 100]⟩ : ByteArray), .string nm] 9)) := by rw [hW5]; exact heap_new2 wq _ _
  rw [← hW5] at hHeld ⊢
  clear hW5
  have HB5 : Hid (Below w1.heap.size w1 W5) := hHeld.2.2.2.2.2.2
  have HR5 := Lib.hid (own_two (B := w1.heap.size) HG.out (by have := HBQ.out.size; omega))
  have hz5 := block_lt HG.out
  have hb5 := HB5.out.size
  clear hHeld
  have hx5 := HXA.out _ HB5.out; have hs5 := block_lt hx5; obtain ⟨x0, x1, x2, x3, x4, _⟩ := acc_cells hx5; clear hx5
  go_wp2_with (first | (at_builtin; refine app_strs rfl (.tmp 41) (.tmp 42) rfl w1.heap.size _ [(⟨#[108, 111, 97, 100]⟩ : ByteArray), nm] [] rfl HR5.out 0 none 0 0 [] rfl (reads_none _ _) rfl rfl (by simp) (by omega) ?_; intro v6 W6 hown6 hb6; have HB6 := Lib.hid (HB5.out.trans hb6); have HR6 := Lib.hid hown6; clear hown6 hb6 x0 x1 x2 x3 x4; have hx6 := HXA.out _ HB6.out; have hs6 := block_lt hx6; obtain ⟨x0, x1, x2, x3, x4, _⟩ := acc_cells hx6; clear hx6))
  refine (text_any _ a.old HF.out.o.1 HF.out.o.2 (HTA.out _ HB6.out)).mono ?_
  rintro e W7 ⟨rfl, hb⟩
  have HB7 := Lib.hid (HB6.out.trans (hb.mono HB6.out.size))
  have HR7 := Lib.hid (ownsRow_belowT HR6.out hb)
  obtain ⟨tw, htw⟩ : ∃ tw, tw = wtext a.old := ⟨_, rfl⟩
  have HTS : Hid (tw.size ≤ 21) := by unfold Hid; rw [htw]; exact awt_size _ HF.out.o.1 HF.out.o.2
  rw [← htw] at HTX ⊢
  clear hb htw x0 x1 x2 x3 x4
  go_wp2_with (first | (at_builtin; refine app_strs rfl (.tmp 44) (.tmp 48) rfl w1.heap.size _ ([(⟨#[108, 111, 97, 100]⟩ : ByteArray), nm] ++ []) [wasB, tw] rfl (HR7.out.alloc _) _ _ 2 2 [.string wasB, .string tw] rfl (reads_two _ _ _ _) rfl rfl (by simp) (by have := HB7.out.size; simp; omega) ?_; intro v8 W8 hown8 hb8; have HB8 := Lib.hid ((HB7.out.alloc HB7.out.size _).trans hb8); obtain ⟨A8, cp8, hv8, hcap8, hst8⟩ := strs_of_own hown8; subst hv8; have HCAP := Lib.hid hcap8; have HST := Lib.hid hst8; clear hown8 hb8 hcap8 hst8))
  refine (join_any _ A8 cp8 [(⟨#[108, 111, 97, 100]⟩ : ByteArray), nm, wasB, tw] ⟨#[32]⟩ HST.out HCAP.out (by simp) (by have h1 := HTS.out; have h2 := HSZ.out; have h3 : ((⟨#[108, 111, 97, 100]⟩ : ByteArray)).size ≤ 5 := (by decide); have h4 : wasB.size = 3 := rfl; simp only [jlen, List.map_cons, List.map_nil, List.sum_cons, List.sum_nil]; omega) (by decide)).mono ?_
  rintro e W9 ⟨rfl, hb⟩
  have HB9 := Lib.hid (HB8.out.trans (hb.mono HB8.out.size))
  clear hb
  go_wp2_with fail
  go_ret
  exact ⟨by rw [HTX.out, HAR.out]; rfl, HB1.out.trans (HB9.out.mono hs2)⟩
end Go.Proofs.YtcheafeaioflmaaDoor

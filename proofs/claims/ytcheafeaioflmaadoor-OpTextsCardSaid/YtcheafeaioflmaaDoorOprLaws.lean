/- The walks of the laws OpReads and OpTexts. -/
import Derived.Test.YtcheafeaioflmaaDoorOprParse
import Derived.Test.YtcheafeaioflmaaDoorRef8Parse
import Derived.Deep.RegionHeld3
namespace Go.Proofs.YtcheafeaioflmaaDoor
open Go Go.RowKit
set_option linter.unusedSimpArgs false
set_option linter.unusedVariables false

theorem op_awake (w : World) (ht : Tens w) : Calls Tryd.prog 36 #[] w fun e w' => e = .returned (.bool true) ∧ Below w.heap.size w w' := by
  have HT : Hid (otext ⟨3, 0, 1, 2⟩ = ⟨#[99, 111, 110, 115, 32, 48, 32, 49, 32, 50]⟩) := by unfold Hid; decide +kernel
  have HC := Lib.hid (otext_any w ⟨3, 0, 1, 2⟩ (by unfold Opr.fits; decide) ht)
  clear ht
  go_enter Tryd.func36, Tryd.ntmps36
  go_wp2_with fail
  refine HC.out.mono ?_
  rintro e w2 ⟨rfl, hb⟩
  have HB := Lib.hid hb
  clear hb
  rw [HT.out]
  go_wp2_with fail
  go_ret
  exact ⟨rfl, HB.out⟩
theorem oread_cases (s : ByteArray) : (∃ x : Opr, x.Right ∧ otext x = s ∧ oread s = (x, 0)) ∨ oread s = (⟨0, 0, 0, 0⟩, 3) := by
  by_cases h : ∃ x : Opr, x.Right ∧ otext x = s
  · obtain ⟨x, hx, ht⟩ := h
    exact .inl ⟨x, hx, ht, oread_yes hx ht⟩
  · exact .inr (oread_no fun x hx ht => h ⟨x, hx, ht⟩)
theorem otext_size {x : Opr} (hf : x.fits) : (otext x).size ≤ 1000 := by
  by_cases hg : x.Good
  · have h := otext_tail hg
    have h1 := bytes_len (otext x)
    have h2 : (fnames.getD x.kind.toNat []).length ≤ 10 := by
      have := fname_size x.kind
      have e : (fname x.kind).size = (fnames.getD x.kind.toNat []).length := by show (fnames.getD x.kind.toNat []).toArray.size = _; rw [List.size_toArray]
      omega
    have h3 : ∀ ns : List Int, (∀ n ∈ ns, n < 9223372036854775808) → (tailD ns).length ≤ 21 * ns.length := by
      intro ns
      induction ns with
      | nil => intro _; simp [tailD]
      | cons n ns ih =>
        intro hn
        have e : tailD (n :: ns) = 32 :: (Lib.decDigits n.toNat ++ tailD ns) := by simp [tailD]
        have i1 := ih (fun m hm => hn m (by simp [hm]))
        have i2 := hn n (by simp)
        have i3 := nd8_le 18 n.toNat (by omega)
        rw [← Lib.decDigits_length] at i3
        rw [e]
        simp only [List.length_cons, List.length_append]
        omega
    have h4 := h3 (nums8 x) (fun n hn => by
      obtain ⟨i, hi, rfl⟩ := List.mem_map.1 hn
      have := Opr.num_bd hf i
      omega)
    have h5 : (nums8 x).length ≤ 3 := by
      have := (fpart_one _ hg.k).2
      simpa [nums8] using this
    rw [h] at h1
    simp only [List.length_append] at h1
    omega
  · rw [otext_not hg]
    decide
set_option maxHeartbeats 4000000 in
set_option maxRecDepth 100000 in
theorem oreads_walk (w : World) (s : ByteArray) (ht : Tens w) (he : Errs w) (hm : MaxL w) :
    Calls Tryd.prog 10 #[.string s] w fun e w' => e = .returned (.bool true) ∧ Below w.heap.size w w' := by
  have HT := Lib.hid ht
  have HE := Lib.hid he
  have HM := Lib.hid hm
  clear ht he hm
  go_enter Tryd.func10, Tryd.ntmps10
  go_wp2_with fail
  refine (op_awake _ HT.out).mono ?_
  rintro e w1 ⟨rfl, hb⟩
  have HB1 := Lib.hid hb
  clear hb
  by_cases h1 : 100 < s.size
  · have d1 : decide ((100 : Int) < (s.size : Int)) = true := by simp; omega
    clear h1
    go_wp2_with fail
    go_ret
    exact ⟨rfl, HB1.out⟩
  have d1 : decide ((100 : Int) < (s.size : Int)) = false := by simp; omega
  have HP : Hid (∀ W, Tens W → Errs W → MaxL W → Calls Tryd.prog 38 #[.string s] W fun e w' => e = .returned (.tuple #[(oread s).1.v, .int .i64 (oread s).2]) ∧ Below W.heap.size W w') := fun W a b d => oparse_any W s (by omega) a b d
  have HQ : Hid (∀ W, Calls Tryd.prog 41 #[.string s] W fun e w' => e = .returned (.tuple #[(oread s).1.v, .int .i64 (oread s).2]) ∧ Below W.heap.size W w') := fun W => r8parse_any W s (by omega)
  clear h1
  rcases oread_cases s with ⟨x, hx, hxt, hr⟩ | hr
  · rw [hr] at HP HQ
    have HTX : Hid (∀ W, Tens W → Calls Tryd.prog 37 #[x.v] W fun e w' => e = .returned (.string s) ∧ Below W.heap.size W w') := fun W h => by have := otext_any W x hx.fits h; rw [hxt] at this; exact this
    have q1 : (s.toList == s.toList) = true := strT rfl
    have heq : ∀ W : World, (binOp .eql 56 (.agg #[.int .i64 x.kind, .int .i64 x.a, .int .i64 x.b, .int .i64 x.c]) (.agg #[.int .i64 x.kind, .int .i64 x.a, .int .i64 x.b, .int .i64 x.c])).run Tryd.prog W = .ok (.bool true) W := fun W => by
      have h := opr_eql W x x
      rw [decide_eq_true rfl] at h
      exact h
    clear hx hxt hr
    go_wp2_with fail
    refine (HP.out _ (HT.out.below (Nat.le_refl _) HB1.out) (HE.out.below (Nat.le_refl _) HB1.out) (HM.out.below (Nat.le_refl _) HB1.out)).mono ?_
    rintro e w2 ⟨rfl, hb⟩
    have HB2 : Hid (Below w.heap.size w w2) := HB1.out.trans (hb.mono HB1.out.size)
    have HX2 := Lib.hid (heap_alloc_new w2 x.obj)
    have HBA : Hid (Below w.heap.size w (w2.alloc x.obj)) := HB2.out.alloc HB2.out.size _
    clear hb
    go_wp2_with fail
    refine (HQ.out _).mono ?_
    rintro e w3 ⟨rfl, hb⟩
    have HB3 : Hid (Below w.heap.size w w3) := HBA.out.trans (hb.mono HBA.out.size)
    have HX3 : Hid (w3.heap[w2.heap.size]? = some x.obj) := (hb.block _ (by simp)).trans HX2.out
    clear hb
    obtain ⟨k0, k1, k2, k3⟩ := opr_cells HX3.out
    have hs3 := block_lt HX3.out
    have HXB : Hid (Below w.heap.size w (w3.alloc x.obj)) := HB3.out.alloc HB3.out.size _
    go_wp2_with fail
    refine (HTX.out _ (HT.out.below (Nat.le_refl _) HXB.out)).mono ?_
    rintro e w4 ⟨rfl, hb⟩
    have HB4 : Hid (Below w.heap.size w w4) := HXB.out.trans (hb.mono HXB.out.size)
    clear hb
    go_wp2_with fail
    go_ret
    exact ⟨by simp, HB4.out⟩
  · rw [hr] at HP HQ
    have heq : ∀ W : World, (binOp .eql 56 (.agg #[.int .i64 0, .int .i64 0, .int .i64 0, .int .i64 0]) (.agg #[.int .i64 0, .int .i64 0, .int .i64 0, .int .i64 0])).run Tryd.prog W = .ok (.bool true) W := fun W => by
      have h := opr_eql W ⟨0, 0, 0, 0⟩ ⟨0, 0, 0, 0⟩
      rw [decide_eq_true rfl] at h
      exact h
    clear hr
    go_wp2_with fail
    refine (HP.out _ (HT.out.below (Nat.le_refl _) HB1.out) (HE.out.below (Nat.le_refl _) HB1.out) (HM.out.below (Nat.le_refl _) HB1.out)).mono ?_
    rintro e w2 ⟨rfl, hb⟩
    have HB2 : Hid (Below w.heap.size w w2) := HB1.out.trans (hb.mono HB1.out.size)
    have HX2 := Lib.hid (heap_alloc_new w2 (⟨0, 0, 0, 0⟩ : Opr).obj)
    have HBA : Hid (Below w.heap.size w (w2.alloc (⟨0, 0, 0, 0⟩ : Opr).obj)) := HB2.out.alloc HB2.out.size _
    clear hb
    go_wp2_with fail
    refine (HQ.out _).mono ?_
    rintro e w3 ⟨rfl, hb⟩
    have HB3 : Hid (Below w.heap.size w w3) := HBA.out.trans (hb.mono HBA.out.size)
    have HX3 : Hid (w3.heap[w2.heap.size]? = some (⟨0, 0, 0, 0⟩ : Opr).obj) := (hb.block _ (by simp)).trans HX2.out
    clear hb
    obtain ⟨k0, k1, k2, k3⟩ := opr_cells HX3.out
    have hs3 := block_lt HX3.out
    go_wp2_with fail
    go_ret
    exact ⟨by simp, by first | exact HB3.out | exact HB3.out.alloc HB3.out.size _⟩
set_option maxHeartbeats 4000000 in
set_option maxRecDepth 100000 in
theorem otexts_walk (w : World) (x : Opr) (hf : x.fits) (ht : Tens w) (he : Errs w) (hm : MaxL w) :
    Calls Tryd.prog 9 #[x.v] w fun e w' => e = .returned (.bool true) ∧ Below w.heap.size w w' := by
  have HT := Lib.hid ht
  have HE := Lib.hid he
  have HM := Lib.hid hm
  have HB0 : Hid (Below w.heap.size w (w.alloc x.obj)) := (Below.refl _ _).alloc (Nat.le_refl _) _
  have HX0 := Lib.hid (heap_alloc_new w x.obj)
  clear ht he hm
  go_enter Tryd.func9, Tryd.ntmps9
  have HF := Lib.hid hf
  have HTX := Lib.hid (fun W h => otext_any W x hf h)
  have HRT := Lib.hid (fun W => ref8text_any W x hf)
  have HPA : Hid (∀ W, Tens W → Errs W → MaxL W → Calls Tryd.prog 38 #[.string (otext x)] W fun e w' => e = .returned (.tuple #[(oread (otext x)).1.v, .int .i64 (oread (otext x)).2]) ∧ Below W.heap.size W w') := fun W a b d => oparse_any W (otext x) (otext_size hf) a b d
  have HPL := Lib.hid (fun W => plain_any W x)
  have q1 : ((otext x).toList == (otext x).toList) = true := strT rfl
  clear hf
  go_wp2_with fail
  refine (op_awake _ (HT.out.below (Nat.le_refl _) HB0.out)).mono ?_
  rintro e w1 ⟨rfl, hb⟩
  have HB1 : Hid (Below w.heap.size w w1) := HB0.out.trans (hb.mono HB0.out.size)
  have HX1 : Hid (w1.heap[w.heap.size]? = some x.obj) := (hb.block _ (by simp)).trans HX0.out
  clear hb
  obtain ⟨k0, k1, k2, k3⟩ := opr_cells HX1.out
  have hs1 := block_lt HX1.out
  go_wp2_with fail
  refine (HTX.out _ (HT.out.below (Nat.le_refl _) HB1.out)).mono ?_
  rintro e w2 ⟨rfl, hb⟩
  have HB2 : Hid (Below w.heap.size w w2) := HB1.out.trans (hb.mono HB1.out.size)
  have HX2 : Hid (w2.heap[w.heap.size]? = some x.obj) := (hb.block _ hs1).trans HX1.out
  clear hb k0 k1 k2 k3
  by_cases hg : x.Good
  · rw [(oread_text x HF.out).1 hg] at HPA
    have e1 := empF (otext_ne hg)
    have e2 := strF (otext_ne hg)
    have heq : ∀ W : World, (binOp .eql 56 (.agg #[.int .i64 (mask x 0).kind, .int .i64 (mask x 0).a, .int .i64 (mask x 0).b, .int .i64 (mask x 0).c]) (.agg #[.int .i64 (mask x 0).kind, .int .i64 (mask x 0).a, .int .i64 (mask x 0).b, .int .i64 (mask x 0).c])).run Tryd.prog W = .ok (.bool true) W := fun W => by
      have h := opr_eql W (mask x 0) (mask x 0)
      rw [decide_eq_true rfl] at h
      exact h
    clear hg
    generalize otext x = tx at *
    generalize mask x 0 = y at *
    go_wp2_with fail
    refine (HPA.out _ (HT.out.below (Nat.le_refl _) HB2.out) (HE.out.below (Nat.le_refl _) HB2.out) (HM.out.below (Nat.le_refl _) HB2.out)).mono ?_
    rintro e w3 ⟨rfl, hb⟩
    have HB3 : Hid (Below w.heap.size w w3) := HB2.out.trans (hb.mono HB2.out.size)
    have HX3 : Hid (w3.heap[w.heap.size]? = some x.obj) := (hb.block _ (block_lt HX2.out)).trans HX2.out
    clear hb
    have HYA := Lib.hid (heap_alloc_new w3 y.obj)
    have HXA : Hid ((w3.alloc y.obj).heap[w.heap.size]? = some x.obj) := (Below.heap_alloc _ _ _ (block_lt HX3.out)).trans HX3.out
    have HBA : Hid (Below w.heap.size w (w3.alloc y.obj)) := HB3.out.alloc HB3.out.size _
    obtain ⟨k0, k1, k2, k3⟩ := opr_cells HX3.out
    have hs3 := block_lt HX3.out
    go_wp2_with fail
    refine (HRT.out _).mono ?_
    rintro e w4 ⟨rfl, hb⟩
    have HB4 : Hid (Below w.heap.size w w4) := HBA.out.trans (hb.mono HBA.out.size)
    have HX4 : Hid (w4.heap[w.heap.size]? = some x.obj) := (hb.block _ (block_lt HXA.out)).trans HXA.out
    have HY4 : Hid (w4.heap[w3.heap.size]? = some y.obj) := (hb.block _ (block_lt HYA.out)).trans HYA.out
    clear hb k0 k1 k2 k3
    obtain ⟨k0, k1, k2, k3⟩ := opr_cells HX4.out
    obtain ⟨y0, y1, y2, y3⟩ := opr_cells HY4.out
    have hs4 := block_lt HX4.out
    have hs5 := block_lt HY4.out
    have HALL : Hid (∀ W, Below w4.heap.size w4 W → W.cell? ⟨w.heap.size, 0, none⟩ = some (.int .i64 x.kind) ∧ W.cell? ⟨w.heap.size, 1, none⟩ = some (.int .i64 x.a) ∧ W.cell? ⟨w.heap.size, 2, none⟩ = some (.int .i64 x.b) ∧ W.cell? ⟨w.heap.size, 3, none⟩ = some (.int .i64 x.c) ∧ W.cell? ⟨w3.heap.size, 0, none⟩ = some (.int .i64 y.kind) ∧ W.cell? ⟨w3.heap.size, 1, none⟩ = some (.int .i64 y.a) ∧ W.cell? ⟨w3.heap.size, 2, none⟩ = some (.int .i64 y.b) ∧ W.cell? ⟨w3.heap.size, 3, none⟩ = some (.int .i64 y.c) ∧ Below w4.heap.size w4 W) := fun W hB => by
      obtain ⟨f0, f1, f2, f3⟩ := opr_cells ((hB.block _ (block_lt HX4.out)).trans HX4.out)
      obtain ⟨g0, g1, g2, g3⟩ := opr_cells ((hB.block _ (block_lt HY4.out)).trans HY4.out)
      exact ⟨f0, f1, f2, f3, g0, g1, g2, g3, hB⟩
    go_wp2_with fail
    go_region_held3 (fun W => W.cell? ⟨w.heap.size, 0, none⟩ = some (.int .i64 x.kind) ∧ W.cell? ⟨w.heap.size, 1, none⟩ = some (.int .i64 x.a) ∧ W.cell? ⟨w.heap.size, 2, none⟩ = some (.int .i64 x.b) ∧ W.cell? ⟨w.heap.size, 3, none⟩ = some (.int .i64 x.c) ∧ W.cell? ⟨w3.heap.size, 0, none⟩ = some (.int .i64 y.kind) ∧ W.cell? ⟨w3.heap.size, 1, none⟩ = some (.int .i64 y.a) ∧ W.cell? ⟨w3.heap.size, 2, none⟩ = some (.int .i64 y.b) ∧ W.cell? ⟨w3.heap.size, 3, none⟩ = some (.int .i64 y.c) ∧ Below w4.heap.size w4 W)
      (first | exact HALL.out _ (Below.refl _ _) | exact HALL.out _ (Below.refl _ _).drew | (go_split_ands; exact HALL.out _ (Below.trans (by assumption) (hb2.mono (Below.size (by assumption))))) | fail)
      (first | (go_at_call_of 40 (Value.int IntKind.i64 x.kind); refine (HPL.out _).mono ?_; rintro e wq ⟨rfl, hb2⟩) | fail)
    all_goals
     go_split_ands
     go_wp2_with fail
     go_ret
     exact ⟨by first | rfl | (simp; done), HB4.out.trans (Below.mono (by assumption) HB4.out.size)⟩
  · rw [(oread_text x HF.out).2 hg] at HPA
    have e1 := empT (otext_not hg)
    have e2 := strT (otext_not hg)
    clear hg
    generalize otext x = tx at *
    go_wp2_with fail
    refine (HPA.out _ (HT.out.below (Nat.le_refl _) HB2.out) (HE.out.below (Nat.le_refl _) HB2.out) (HM.out.below (Nat.le_refl _) HB2.out)).mono ?_
    rintro e w3 ⟨rfl, hb⟩
    have HB3 : Hid (Below w.heap.size w w3) := HB2.out.trans (hb.mono HB2.out.size)
    have HX3 : Hid (w3.heap[w.heap.size]? = some x.obj) := (hb.block _ (block_lt HX2.out)).trans HX2.out
    clear hb
    have HBA : Hid (Below w.heap.size w (w3.alloc (⟨0, 0, 0, 0⟩ : Opr).obj)) := HB3.out.alloc HB3.out.size _
    obtain ⟨k0, k1, k2, k3⟩ := opr_cells HX3.out
    have hs3 := block_lt HX3.out
    go_wp2_with fail
    refine (HRT.out _).mono ?_
    rintro e w4 ⟨rfl, hb⟩
    have HB4 : Hid (Below w.heap.size w w4) := HBA.out.trans (hb.mono HBA.out.size)
    clear hb
    go_wp2_with fail
    go_ret
    exact ⟨by simp, HB4.out⟩
end Go.Proofs.YtcheafeaioflmaaDoor

/- The document's text of an operation, and the operation without the numbers that it hasn't. -/
import Derived.Test.YtcheafeaioflmaaDoorOprParts
import Derived.Test.YtcheafeaioflmaaDoorDigits
import Derived.Test.YtcheafeaioflmaaDoorStrEq
namespace Go.Proofs.YtcheafeaioflmaaDoor
open Go Go.RowKit
set_option linter.unusedSimpArgs false
set_option linter.unusedVariables false

/-- the word, and the first k numbers -/
def ptx (x : Opr) (k : Nat) : ByteArray := ⟨(jbytes sp (otexts (fname x.kind) x k)).toArray⟩
theorem ptx_zero (x : Opr) : ptx x 0 = fname x.kind := by
  refine bytes_ext ?_
  simp [ptx, otexts, jbytes, jrest]
theorem ptx_next (x : Opr) (k : Nat) (h : 0 ≤ x.num k) : ptx x (k + 1) = ptx x k ++ ⟨#[32]⟩ ++ dec (x.num k).toNat := by
  refine bytes_ext ?_
  have e : (otx (x.num k)).data.toList = (dec (x.num k).toNat).data.toList := by
    show (Lib.itoa (x.num k)).toArray.toList = (Lib.decDigits (x.num k).toNat).toArray.toList
    rw [List.toList_toArray, List.toList_toArray]
    unfold Lib.itoa
    rw [if_neg (by omega)]
  unfold ptx
  rw [otexts_next]
  simp only [ByteArray.data_append, Array.toList_append, List.toList_toArray, ← e]
  simp [otexts, jbytes, jrest, sp]
theorem ptx_end {x : Opr} (hk : 1 ≤ x.kind ∧ x.kind ≤ 11) (hn : ∀ j, j < (fpart x.kind).size → 0 ≤ x.num j) : otext x = ptx x (fpart x.kind).size := by
  unfold otext otextOf
  rw [if_pos hk, if_pos hn]
  rfl
theorem otext_neg {x : Opr} (j : Nat) (hj : j < (fpart x.kind).size) (hn : x.num j < 0) : otext x = ⟨#[]⟩ := by
  refine otext_not fun h => ?_
  have := h.n j hj
  omega
theorem size_app (a b : ByteArray) : (a ++ b).size = a.size + b.size := ByteArray.size_append
set_option maxHeartbeats 4000000 in
set_option maxRecDepth 100000 in
theorem ref8text_any (w : World) (x : Opr) (hf : x.fits) :
    Calls Tryd.prog 39 #[x.v] w fun e w' => e = .returned (.string (otext x)) ∧ Below w.heap.size w w' := by
  have HF := Lib.hid hf
  have HB0 : Hid (Below w.heap.size w (w.alloc x.obj)) := (Below.refl _ _).alloc (Nat.le_refl _) _
  have HX0 := Lib.hid (heap_alloc_new w x.obj)
  obtain ⟨x0, x1, x2, x3⟩ := opr_cells HX0.out
  by_cases hk : 1 ≤ x.kind ∧ x.kind ≤ 11
  · have HK := Lib.hid hk
    have HSZ := Lib.hid (fpart_one _ hk)
    have HP0 : Hid (fname x.kind = ptx x 0) := (ptx_zero x).symm
    have HS0 : Hid ((ptx x 0).size ≤ 10 ∧ 1 ≤ (ptx x 0).size) := by
      rw [ptx_zero]
      refine ⟨fname_size _, ?_⟩
      have h1 := fname_some x.kind hk
      rw [Go.ByteArray.toList_eq] at h1
      have h2 := bytes_len (fname x.kind)
      cases h3 : (fname x.kind).data.toList with
      | nil => rw [h3] at h1; simp at h1
      | cons a r => rw [h3] at h2; simp at h2; omega
    clear hf
    go_enter Tryd.func39, Tryd.ntmps39
    go_wp2_with fail
    refine (refname_any _ x.kind).mono ?_
    rintro e w1 ⟨rfl, rfl⟩
    rw [HP0.out]
    clear hk x0 x1 x2 x3
    go_wp2_with fail
    go_loopw [3, 4] (fun sv i wr => ∃ k : Nat, k ≤ 3 ∧ i = .int .i64 k ∧ sv = .string (ptx x (min k (fpart x.kind).size)) ∧ Hid ((ptx x (min k (fpart x.kind).size)).size ≤ 10 + 21 * k ∧ 1 ≤ (ptx x (min k (fpart x.kind).size)).size) ∧ Hid (∀ j, j < min k (fpart x.kind).size → 0 ≤ x.num j) ∧ Hid (wr.heap[w.heap.size]? = some x.obj) ∧ Hid (Below w.heap.size w wr)) (fun _ i _ => 3 - (intOf i).toNat)
    case atStart => exact ⟨0, by omega, rfl, by rw [Nat.zero_min], by rw [Nat.zero_min]; exact HS0.out, fun j hj => by rw [Nat.zero_min] at hj; omega, HX0.out, HB0.out⟩
    case round =>
      obtain ⟨k, hk, rfl, rfl, HS, HN, HX, HB⟩ := hrel
      obtain ⟨x0, x1, x2, x3⟩ := opr_cells HX.out
      have hs1 := block_lt HX.out
      by_cases hlt : k < 3
      · have i1 : ((k : Nat) : Int) < 3 := by omega
        have HRN := Lib.hid (rp_not x k hlt HK.out)
        have HNX := Lib.hid (fun h => ptx_next x k h)
        have HLT := Lib.hid hlt
        have hne : ¬ ptx x (min k (fpart x.kind).size) = ⟨#[]⟩ := fun e => by have := HS.out.2; rw [e] at this; exact absurd this (by decide)
        have e1 := empF hne
        have e2 := strF hne
        clear hne
        have HMK : Hid (k < (fpart x.kind).size → min k (fpart x.kind).size = k) := fun h => by omega
        by_cases hr : rp x k = 0
        · have er : (rp x k == 0) = true := by rw [hr]; rfl
          have HME : Hid (min (k + 1) (fpart x.kind).size = min k (fpart x.kind).size) := by have := HRN.out.1 hr; unfold Hid; omega
          generalize hp : ptx x (min k (fpart x.kind).size) = p at *
          have HPP := Lib.hid hp
          clear hp
          have HRP := Lib.hid (fun W => refpart_all W x k hlt)
          clear hr
          generalize rp x k = r at *
          go_wp2_with fail
          refine (HRP.out _).mono ?_
          rintro e w2 ⟨rfl, rfl⟩
          go_wp2_with fail
          go_roundw
          case rel => exact ⟨k + 1, by have := HLT.out; omega, by go_num, by rw [HME.out, HPP.out], by rw [HME.out, HPP.out]; exact ⟨by have := HS.out.1; omega, HS.out.2⟩, by rw [HME.out]; exact HN.out, HX.out, HB.out⟩
          case measure => have := HLT.out; simp [intOf]; omega
        · have er : (rp x k == 0) = false := by rw [beq_eq_false_iff_ne]; exact hr
          have hksz : k < (fpart x.kind).size := Nat.lt_of_not_le fun h => hr (HRN.out.2 (by omega))
          have HKS := Lib.hid hksz
          have HRP := Lib.hid (fun W => refpart_all W x k hlt)
          have HNU := Lib.hid (fun W => refnumber_any W x k hlt)
          have hbd := Opr.num_bd HF.out k
          have HM1 : Hid (min (k + 1) (fpart x.kind).size = k + 1) := by unfold Hid; omega
          have hm0 : min k (fpart x.kind).size = k := by omega
          rw [hm0] at HS HN e1 e2 ⊢
          clear hr hm0 hksz
          generalize rp x k = r at *
          by_cases hneg : x.num k < 0
          · have g1 : decide (x.num k < 0) = true := by simpa using hneg
            have HE := Lib.hid (otext_neg k HKS.out hneg)
            generalize ptx x k = p at *
            go_wp2_with fail
            refine (HRP.out _).mono ?_
            rintro e w2 ⟨rfl, rfl⟩
            go_wp2_with fail
            refine (HNU.out _).mono ?_
            rintro e w3 ⟨rfl, hb⟩
            have HB3 : Hid (Below w.heap.size w w3) := HB.out.trans (hb.mono HB.out.size)
            clear hb
            go_wp2_with fail
            go_ret
            exact ⟨by rw [HE.out]; rfl, HB3.out⟩
          · have g1 : decide (x.num k < 0) = false := by simpa using hneg
            have HPX := Lib.hid (HNX.out (by omega))
            have HDG := Lib.hid (fun W => refDigits_any W (x.num k) (by omega) (by omega))
            have hds := (dec_size (x.num k).toNat (by omega)).2
            have HNN : Hid (0 ≤ x.num k) := by unfold Hid; omega
            generalize hd : dec (x.num k).toNat = d at *
            generalize hp : ptx x k = p at *
            have hps := HS.out.1
            have hz1 : ¬ 9223372036854775807 < p.size + 1 := by omega
            have hz2 : ¬ 9223372036854775807 < p.size + 1 + d.size := by omega
            clear hd hp
            go_wp2_with fail
            refine (HRP.out _).mono ?_
            rintro e w2 ⟨rfl, rfl⟩
            go_wp2_with fail
            refine (HNU.out _).mono ?_
            rintro e w3 ⟨rfl, hb⟩
            have HB3 : Hid (Below w.heap.size w w3) := HB.out.trans (hb.mono HB.out.size)
            have HX3 : Hid (w3.heap[w.heap.size]? = some x.obj) := (hb.block _ hs1).trans HX.out
            have hs3 := block_lt HX3.out
            clear hb x0 x1 x2 x3
            obtain ⟨x0, x1, x2, x3⟩ := opr_cells HX3.out
            go_wp2_with fail
            refine (HNU.out _).mono ?_
            rintro e w4 ⟨rfl, hb⟩
            have HB4 : Hid (Below w.heap.size w w4) := HB3.out.trans (hb.mono HB3.out.size)
            have HX4 : Hid (w4.heap[w.heap.size]? = some x.obj) := (hb.block _ hs3).trans HX3.out
            clear hb
            go_wp2_with fail
            refine (HDG.out _).mono ?_
            rintro e w5 ⟨rfl, hb⟩
            have HB5 : Hid (Below w.heap.size w w5) := HB4.out.trans (hb.mono HB4.out.size)
            have HX5 : Hid (w5.heap[w.heap.size]? = some x.obj) := (hb.block _ (block_lt HX4.out)).trans HX4.out
            clear hb
            go_wp2_with fail
            go_roundw
            case rel => exact ⟨k + 1, by have := HLT.out; omega, by go_num, by rw [HM1.out, HPX.out], by rw [HM1.out, HPX.out]; exact ⟨by rw [size_app, size_app]; have : (⟨#[32]⟩ : ByteArray).size = 1 := rfl; omega, by rw [size_app, size_app]; have := HS.out.2; omega⟩, by rw [HM1.out]; exact fun j hj => (by
              by_cases e : j = k
              · rw [e]; exact HNN.out
              · exact HN.out j (by omega)), HX5.out, HB5.out⟩
            case measure => have := HLT.out; simp [intOf]; omega
      · obtain rfl : k = 3 := by omega
        have hm : min 3 (fpart x.kind).size = (fpart x.kind).size := by have := HSZ.out; omega
        have HE := Lib.hid (ptx_end HK.out (by rw [hm] at HN; exact HN.out))
        rw [hm, ← HE.out]
        clear hlt hk hm
        go_wp2_with fail
        go_ret
        exact ⟨rfl, HB.out⟩
  · have HE : Hid (otext x = ⟨#[]⟩) := otext_not fun h => hk h.k
    have hfn := fname_none x.kind hk
    have e1 : (⟨#[]⟩ : ByteArray).toList.isEmpty = true := empT rfl
    have e2 : ((⟨#[]⟩ : ByteArray).toList == (⟨#[]⟩ : ByteArray).toList) = true := strT rfl
    have HRNM : Hid (∀ W, Calls Tryd.prog 84 #[.int .i64 x.kind] W fun e w' => e = .returned (.string ⟨#[]⟩) ∧ w' = W) := fun W => by have h := refname_any W x.kind; rw [hfn] at h; exact h
    clear hf hfn hk
    go_enter Tryd.func39, Tryd.ntmps39
    go_wp2_with fail
    refine (HRNM.out _).mono ?_
    rintro e w1 ⟨rfl, rfl⟩
    go_wp2_with fail
    go_loop [3, 4] (fun sv i => sv = .string ⟨#[]⟩ ∧ i = .int .i64 0) (fun _ _ => 0)
    case atStart => exact ⟨rfl, rfl⟩
    case round =>
      obtain ⟨rfl, rfl⟩ := hrel
      go_wp2_with fail
      go_ret
      exact ⟨by rw [HE.out]; rfl, HB0.out⟩
set_option maxHeartbeats 4000000 in
set_option maxRecDepth 100000 in
theorem plain_any (w : World) (x : Opr) :
    Calls Tryd.prog 40 #[x.v] w fun e w' => e = .returned (mask x 0).v ∧ Below w.heap.size w w' := by
  obtain ⟨W0, hW0⟩ : ∃ W, W = (w.alloc x.obj).alloc (⟨0, 0, 0, 0⟩ : Opr).obj := ⟨_, rfl⟩
  have HB0 : Hid (Below w.heap.size w W0) := by rw [hW0]; exact ((Below.refl _ _).alloc (Nat.le_refl _) _).alloc (by simp) _
  have HX0 : Hid (W0.heap[w.heap.size]? = some x.obj) := by rw [hW0]; exact (Below.heap_alloc _ _ _ (by simp)).trans (heap_alloc_new w _)
  have HR0 : Hid (W0.heap[w.heap.size + 1]? = some (⟨0, 0, 0, 0⟩ : Opr).obj) := by
    rw [hW0, show w.heap.size + 1 = (w.alloc x.obj).heap.size by simp]
    exact heap_alloc_new (w.alloc x.obj) _
  have HP1 := Lib.hid (fun W => refpart_all W x 1 (by omega))
  have HP2 := Lib.hid (fun W => refpart_all W x 2 (by omega))
  have HM : Hid (mask x 0 = ⟨x.kind, x.a, if rp x 1 = 0 then 0 else x.b, if rp x 2 = 0 then 0 else x.c⟩) := rfl
  go_enter Tryd.func40, Tryd.ntmps40
  obtain ⟨x0, x1, x2, x3⟩ := opr_cells HX0.out
  obtain ⟨z0, z1, z2, z3⟩ := opr_cells HR0.out
  have f0 := frozen_of_block HR0.out 0
  have f1 := frozen_of_block HR0.out 1
  have f2 := frozen_of_block HR0.out 2
  have f3 := frozen_of_block HR0.out 3
  have g0 := frozen_of_block HX0.out 0
  have g1 := frozen_of_block HX0.out 1
  have g2 := frozen_of_block HX0.out 2
  have g3 := frozen_of_block HX0.out 3
  have hs0 := block_lt HX0.out
  have hs1 := block_lt HR0.out
  have hne : ¬ w.heap.size = w.heap.size + 1 := by omega
  have hne' : ¬ w.heap.size + 1 = w.heap.size := by omega
  go_wp2_with fail
  rw [← hW0]
  clear hW0
  refine (HP1.out _).mono ?_
  rintro e w1 ⟨rfl, rfl⟩
  by_cases r1 : rp x 1 = 0
  · have e1 : (rp x 1 == 0) = true := by rw [r1]; rfl
    by_cases r2 : rp x 2 = 0
    · have e2 : (rp x 2 == 0) = true := by rw [r2]; rfl
      have HMM : Hid (mask x 0 = ⟨x.kind, x.a, 0, 0⟩) := by rw [HM.out, if_pos r1, if_pos r2]; rfl
      clear r1 r2
      generalize rp x 1 = p1 at *
      generalize rp x 2 = p2 at *
      go_wp2_with fail
      refine (HP2.out _).mono ?_
      rintro e w2 ⟨rfl, rfl⟩
      go_wp2_with fail
      exact bodyPost_ret (v := .agg #[.int .i64 x.kind, .int .i64 x.a, .int .i64 0, .int .i64 0]) (by simp [results, Tryd.results40, go_sem, z0, z1, z2, z3]) rfl
        ⟨by rw [HMM.out], by repeat (first | exact HB0.out | refine Below.setCell ?_ (by simp) _)⟩
    · have e2 : (rp x 2 == 0) = false := by rw [beq_eq_false_iff_ne]; exact r2
      have HMM : Hid (mask x 0 = ⟨x.kind, x.a, 0, x.c⟩) := by rw [HM.out, if_pos r1, if_neg r2]; rfl
      clear r1 r2
      generalize rp x 1 = p1 at *
      generalize rp x 2 = p2 at *
      go_wp2_with fail
      refine (HP2.out _).mono ?_
      rintro e w2 ⟨rfl, rfl⟩
      go_wp2_with fail
      exact bodyPost_ret (v := .agg #[.int .i64 x.kind, .int .i64 x.a, .int .i64 0, .int .i64 x.c]) (by simp [results, Tryd.results40, go_sem, z0, z1, z2, z3]) rfl
        ⟨by rw [HMM.out], by repeat (first | exact HB0.out | refine Below.setCell ?_ (by simp) _)⟩
  · have e1 : (rp x 1 == 0) = false := by rw [beq_eq_false_iff_ne]; exact r1
    by_cases r2 : rp x 2 = 0
    · have e2 : (rp x 2 == 0) = true := by rw [r2]; rfl
      have HMM : Hid (mask x 0 = ⟨x.kind, x.a, x.b, 0⟩) := by rw [HM.out, if_neg r1, if_pos r2]; rfl
      clear r1 r2
      generalize rp x 1 = p1 at *
      generalize rp x 2 = p2 at *
      go_wp2_with fail
      refine (HP2.out _).mono ?_
      rintro e w2 ⟨rfl, rfl⟩
      go_wp2_with fail
      exact bodyPost_ret (v := .agg #[.int .i64 x.kind, .int .i64 x.a, .int .i64 x.b, .int .i64 0]) (by simp [results, Tryd.results40, go_sem, z0, z1, z2, z3]) rfl
        ⟨by rw [HMM.out], by repeat (first | exact HB0.out | refine Below.setCell ?_ (by simp) _)⟩
    · have e2 : (rp x 2 == 0) = false := by rw [beq_eq_false_iff_ne]; exact r2
      have HMM : Hid (mask x 0 = ⟨x.kind, x.a, x.b, x.c⟩) := by rw [HM.out, if_neg r1, if_neg r2]; rfl
      clear r1 r2
      generalize rp x 1 = p1 at *
      generalize rp x 2 = p2 at *
      go_wp2_with fail
      refine (HP2.out _).mono ?_
      rintro e w2 ⟨rfl, rfl⟩
      go_wp2_with fail
      exact bodyPost_ret (v := .agg #[.int .i64 x.kind, .int .i64 x.a, .int .i64 x.b, .int .i64 x.c]) (by simp [results, Tryd.results40, go_sem, z0, z1, z2, z3]) rfl
        ⟨by rw [HMM.out], by repeat (first | exact HB0.out | refine Below.setCell ?_ (by simp) _)⟩
end Go.Proofs.YtcheafeaioflmaaDoor

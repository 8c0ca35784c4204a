/- access.Rows: the texts of the right ones among any accesses. -/
import Derived.Test.YtcheafeaioflmaaDoorAccAll
namespace Go.Proofs.YtcheafeaioflmaaDoor
open Go Go.RowKit
set_option linter.unusedSimpArgs false
set_option linter.unusedVariables false

structure Accs (w : World) (B : Nat) (A : Option Addr) (l : List Acc) : Prop where
  len : l.length ≤ maxLen
  at_ : 0 < l.length → ∃ ad, A = some ad ∧ ad.block < B ∧ ∀ j (hj : j < l.length), w.cell? (ad.add (j * 5)) = some (.int .i64 l[j].kind) ∧ w.cell? ⟨(ad.add (j * 5)).block, (ad.add (j * 5)).off + 1, none⟩ = some (.int .i64 l[j].at_) ∧
    w.cell? ⟨(ad.add (j * 5)).block, (ad.add (j * 5)).off + 2, none⟩ = some (.int .u64 l[j].x) ∧ w.cell? ⟨(ad.add (j * 5)).block, (ad.add (j * 5)).off + 3, none⟩ = some (.int .u64 l[j].y) ∧ w.cell? ⟨(ad.add (j * 5)).block, (ad.add (j * 5)).off + 4, none⟩ = some (.int .u64 l[j].old)
theorem Accs.cell {w w' : World} {B : Nat} {A : Option Addr} {l : List Acc} (h : Accs w B A l) (hb : Below B w w') {j : Nat} (hj : j < l.length) :
    ∃ ad, A = some ad ∧ ad.block < B ∧ w'.cell? (ad.add (j * 5)) = some (.int .i64 l[j].kind) ∧ w'.cell? ⟨(ad.add (j * 5)).block, (ad.add (j * 5)).off + 1, none⟩ = some (.int .i64 l[j].at_) ∧
    w'.cell? ⟨(ad.add (j * 5)).block, (ad.add (j * 5)).off + 2, none⟩ = some (.int .u64 l[j].x) ∧ w'.cell? ⟨(ad.add (j * 5)).block, (ad.add (j * 5)).off + 3, none⟩ = some (.int .u64 l[j].y) ∧ w'.cell? ⟨(ad.add (j * 5)).block, (ad.add (j * 5)).off + 4, none⟩ = some (.int .u64 l[j].old) := by
  obtain ⟨ad, e, hB, hc⟩ := h.at_ (by omega)
  obtain ⟨c0, c1, c2, c3, c4⟩ := hc j hj
  have k0 : ∀ n, w'.cell? (ad.add n) = w.cell? (ad.add n) := fun n => hb.cell (by rw [block_of_add]; exact hB)
  have k : ∀ n o, w'.cell? ⟨(ad.add n).block, o, none⟩ = w.cell? ⟨(ad.add n).block, o, none⟩ := fun n o => hb.cell (by show (ad.add n).block < B; rw [block_of_add]; exact hB)
  exact ⟨ad, e, hB, by rw [k0]; exact c0, by rw [k]; exact c1, by rw [k]; exact c2, by rw [k]; exact c3, by rw [k]; exact c4⟩

/-- the texts of the right ones -/
def arows (c : Cfg) (l : List Acc) : List ByteArray := (l.map fun a => a.text c).filter fun s => decide (s ≠ ⟨#[]⟩)
theorem arows_len (c : Cfg) (l : List Acc) : (arows c l).length ≤ l.length := by
  unfold arows
  exact Nat.le_trans (List.length_filter_le _ _) (by simp)
theorem arows_yes (c : Cfg) (l : List Acc) (k : Nat) (h : k < l.length) (hn : l[k].text c ≠ ⟨#[]⟩) : arows c (l.take (k + 1)) = arows c (l.take k) ++ [l[k].text c] := by
  unfold arows
  rw [List.take_succ_eq_append_getElem h, List.map_append, List.filter_append]
  simp [hn]
theorem arows_no (c : Cfg) (l : List Acc) (k : Nat) (h : k < l.length) (hn : l[k].text c = ⟨#[]⟩) : arows c (l.take (k + 1)) = arows c (l.take k) := by
  unfold arows
  rw [List.take_succ_eq_append_getElem h, List.map_append, List.filter_append]
  simp [hn]
set_option maxHeartbeats 8000000 in
set_option maxRecDepth 100000 in
theorem arows_any (w : World) (c : Cfg) (A : Option Addr) (cc : Nat) (l : List Acc) (hl : Accs w w.heap.size A l) (hm : l.length ≤ 40) (hf : ∀ a ∈ l, a.Fits) (ht : Tens w) :
    Calls Tryd.prog 20 #[c.v, .slice A l.length cc] w fun e w' => ∃ A' c', e = .returned (.slice A' (arows c l).length c') ∧ Strs w' w'.heap.size A' (arows c l) ∧ Below w.heap.size w w' := by
  have HT := Lib.hid ht
  have HL := Lib.hid hl
  have HF := Lib.hid hf
  have HC0 := Lib.hid (heap_alloc_new w c.mobj)
  have HB0 : Hid (Below w.heap.size w (w.alloc c.mobj)) := (Below.refl _ _).alloc (Nat.le_refl _) _
  clear ht hl hf
  go_enter Tryd.func20, Tryd.ntmps20
  go_wp2_with fail
  go_loopw [5, 7, 8, 11] (fun v _ _ i wr => ∃ k : Nat, k ≤ l.length ∧ i = .int .i64 k ∧ Hid (wr.ownsRow (w.heap.size + 1) 9 1 v (arows c (l.take k)).length ((arows c (l.take k)).map Value.string)) ∧ Hid (wr.heap[w.heap.size]? = some c.mobj) ∧ Hid (Below w.heap.size w wr)) (fun _ _ _ i _ => l.length - (intOf i).toNat)
  case atStart => exact ⟨0, Nat.zero_le _, rfl, own_nil _ _, HC0.out, HB0.out⟩
  case round =>
    obtain ⟨k, hk, rfl, HO, HC, HB⟩ := hrel
    have hsz := block_lt HC.out
    by_cases hlt : k < l.length
    · obtain ⟨ad, rfl, hadB, q0, q1, q2, q3, q4⟩ := HL.out.cell HB.out hlt
      have HFK : Hid (l[k].Fits) := HF.out _ (List.getElem_mem hlt)
      have HY := Lib.hid (arows_yes c l k hlt)
      have HNO := Lib.hid (arows_no c l k hlt)
      have HAL := Lib.hid (arows_len c (l.take k))
      have HLT := Lib.hid hlt
      generalize l[k] = ak at q0 q1 q2 q3 q4 HFK HY HNO
      obtain ⟨k0, k1, k2, k3⟩ := Cfg.mcells_at HC.out
      go_wp2_with fail
      refine (atext_any _ c ak HFK.out (HT.out.below (Nat.le_refl _) (HB.out.alloc HB.out.size _))).mono ?_
      rintro e w4 ⟨rfl, hb⟩
      have HB4 : Hid (Below w.heap.size w w4) := (HB.out.alloc HB.out.size _).trans (hb.mono (by have := HB.out.size; simp; omega))
      have HO4 := Lib.hid (ownsRow_belowT (HO.out.alloc _) hb)
      have HC4 : Hid (w4.heap[w.heap.size]? = some c.mobj) := (hb.block _ (by simp; omega)).trans ((Below.heap_alloc _ _ _ (by omega)).trans HC.out)
      have hs4 := block_lt HC4.out
      clear hb q0 q1 q2 q3 q4 k0 k1 k2 k3
      by_cases he : ak.text c = ⟨#[]⟩
      · have HE := Lib.hid (HNO.out he)
        have e1 := empT he
        have e2 := strT he
        clear he
        generalize ak.text c = s at *
        go_wp2_with fail
        go_roundw
        case rel => exact ⟨k + 1, by have := HLT.out; omega, by go_num, by rw [HE.out]; exact HO4.out, HC4.out, HB4.out⟩
        case measure => have := HLT.out; simp [intOf]; omega
      · have HE := Lib.hid (HY.out he)
        have e1 := empF he
        have e2 := strF he
        clear he
        generalize ak.text c = s at *
        have HLL : Hid ((arows c (l.take k)).length ≤ 40) := by have := HAL.out; unfold Hid; simp at this; omega
        go_wp2_with (first | (at_builtin; refine app_strs rfl (.tmp 20) (.tmp 22) rfl (w.heap.size + 1) _ (arows c (l.take k)) [s] rfl (HO4.out.alloc _) _ _ 1 1 [.string s] rfl (reads_one _ _ _) rfl rfl (by have := HLL.out; simp; omega) (by simp; omega) ?_; intro v6 w6 hown6 hb6; have HC6 : Hid (w6.heap[w.heap.size]? = some c.mobj) := (hb6.block _ (by omega)).trans ((Below.heap_alloc _ _ _ (by omega)).trans HC4.out); have HB6 := Lib.hid ((HB4.out.alloc HB4.out.size _).trans (hb6.mono (by omega))); have HO6 := Lib.hid hown6; clear hown6 hb6))
        go_roundw
        case rel => exact ⟨k + 1, by have := HLT.out; omega, by go_num, by rw [HE.out]; exact HO6.out, HC6.out, HB6.out⟩
        case measure => have := HLT.out; simp [intOf]; omega
    · have hke : l.take k = l := List.take_of_length_le (by omega)
      rw [hke] at HO
      obtain ⟨A2, cp, hv, hcap, hst⟩ := strs_of_own HO.out
      subst hv
      have HST := Lib.hid hst
      clear hst hcap HO hke
      go_wp2_with fail
      go_ret
      exact ⟨A2, cp, rfl, HST.out, HB.out⟩
end Go.Proofs.YtcheafeaioflmaaDoor

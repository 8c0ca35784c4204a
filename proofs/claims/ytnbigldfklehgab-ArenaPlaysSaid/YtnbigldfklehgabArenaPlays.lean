/- The walk of the law ArenaPlays. -/
import Derived.Test.YtnbigldfklehgabArenaAwake
import Derived.Test.YtnbigldfklehgabRef05
namespace Go.Proofs.Ytnbigldfklehgab
open Go Go.RowKit
set_option linter.unusedSimpArgs false
set_option linter.unusedVariables false

/-- a slice of accesses -/
structure Accs (w : World) (B : Nat) (A : Option Addr) (l : List Acc) : Prop where
  len : l.length ≤ maxLen
  at_ : 0 < l.length → ∃ ad, A = some ad ∧ ad.block < B ∧ ∀ j (hj : j < l.length), w.cell? (ad.add (j * 5)) = some (.int .i64 l[j].kind) ∧ w.cell? ⟨(ad.add (j * 5)).block, (ad.add (j * 5)).off + 1, none⟩ = some (.int .i64 l[j].at_) ∧
    w.cell? ⟨(ad.add (j * 5)).block, (ad.add (j * 5)).off + 2, none⟩ = some (.int .u64 l[j].x) ∧ w.cell? ⟨(ad.add (j * 5)).block, (ad.add (j * 5)).off + 3, none⟩ = some (.int .u64 l[j].y) ∧ w.cell? ⟨(ad.add (j * 5)).block, (ad.add (j * 5)).off + 4, none⟩ = some (.int .u64 l[j].old)
theorem Accs.cell {w w' : World} {B : Nat} {A : Option Addr} {l : List Acc} (h : Accs w B A l) (hb : Below B w w') {j : Nat} (hj : j < l.length) :
    ∃ ad, A = some ad ∧ ad.block < B ∧ w'.cell? (ad.add (j * 5)) = some (.int .i64 l[j].kind) ∧ w'.cell? ⟨(ad.add (j * 5)).block, (ad.add (j * 5)).off + 1, none⟩ = some (.int .i64 l[j].at_) ∧
    w'.cell? ⟨(ad.add (j * 5)).block, (ad.add (j * 5)).off + 2, none⟩ = some (.int .u64 l[j].x) ∧ w'.cell? ⟨(ad.add (j * 5)).block, (ad.add (j * 5)).off + 3, none⟩ = some (.int .u64 l[j].y) ∧ w'.cell? ⟨(ad.add (j * 5)).block, (ad.add (j * 5)).off + 4, none⟩ = some (.int .u64 l[j].old) := by
  obtain ⟨ad, e, hB, hc⟩ := h.at_ (by omega)
  obtain ⟨c0, c1, c2, c3, c4⟩ := hc j hj
  have k0 : ∀ n, w'.cell? (ad.add n) = w.cell? (ad.add n) := fun n => hb.cell (by rw [block_of_add]; exact hB)
  have k : ∀ n o, w'.cell? ⟨(ad.add n).block, o, none⟩ = w.cell? ⟨(ad.add n).block, o, none⟩ := fun n o => hb.cell (by show (ad.add n).block < B; rw [block_of_add]; exact hB)
  exact ⟨ad, e, hB, by rw [k0]; exact c0, by rw [k]; exact c1, by rw [k]; exact c2, by rw [k]; exact c3, by rw [k]; exact c4⟩

/-- the words behind the first k accesses -/
def after (xs : List Int) (l : List Acc) : Nat → List Int
  | 0 => xs
  | k + 1 => (l.getD k Acc.zero).left (after xs l k)
theorem left_len (a : Acc) (xs : List Int) : (a.left xs).length = xs.length := by
  unfold Acc.left swap
  split
  · exact st_len _ _ _
  split
  · split
    · exact st_len _ _ _
    · rfl
  split
  · exact st_len _ _ _
  · rfl
theorem after_len (xs : List Int) (l : List Acc) : ∀ k, (after xs l k).length = xs.length
  | 0 => rfl
  | k + 1 => by rw [after, left_len, after_len xs l k]
theorem wf_st {xs : List Int} (h : Wf xs) (i x : Int) (h0 : 0 ≤ x) (h1 : x < 18446744073709551616) : Wf (st xs i x) := by
  intro j hj
  rw [st_len] at hj
  unfold st
  split
  · rename_i hi
    unfold wd
    by_cases hij : i.toNat = j
    · subst hij
      simp [hj]
      exact ⟨h0, h1⟩
    · have := h j hj
      unfold wd at this
      simpa [List.getElem?_set, hij] using this
  · exact h j hj
theorem wf_left {xs : List Int} (h : Wf xs) (a : Acc) (hx : 0 ≤ a.x ∧ a.x < 18446744073709551616) (hy : 0 ≤ a.y ∧ a.y < 18446744073709551616) : Wf (a.left xs) := by
  unfold Acc.left swap
  split
  · exact wf_st h _ _ hx.1 hx.2
  split
  · split
    · exact wf_st h _ _ hy.1 hy.2
    · exact h
  split
  · refine wf_st h _ _ ?_ ?_ <;> (rw [IntKind.wrap_u64]; omega)
  · exact h
theorem wf_after {xs : List Int} (h : Wf xs) (l : List Acc) (hl : ∀ a ∈ l, (0 ≤ a.x ∧ a.x < 18446744073709551616) ∧ (0 ≤ a.y ∧ a.y < 18446744073709551616)) : ∀ k, k ≤ l.length → Wf (after xs l k)
  | 0, _ => h
  | k + 1, hk => by
    have hm : l.getD k Acc.zero ∈ l := by
      have : l.getD k Acc.zero = l[k] := by simp [show k < l.length by omega]
      rw [this]; exact List.getElem_mem _
    exact wf_left (wf_after h l hl k (by omega)) _ (hl _ hm).1 (hl _ hm).2
theorem acc_same (w : World) (a : Acc) : (binOp .neq 47 a.v a.v).run Try.prog w = .ok (.bool false) w := by
  simp [go_sem]

set_option maxHeartbeats 1000000 in
theorem plays_walk (w : World) (A A' : Option Addr) (c c' : Nat) (xs : List Int) (l : List Acc) (hx : Words w w.heap.size A xs) (hl : Accs w w.heap.size A' l) (hwf : Wf xs)
    (hlf : ∀ a ∈ l, (0 ≤ a.x ∧ a.x < 18446744073709551616) ∧ (0 ≤ a.y ∧ a.y < 18446744073709551616)) :
    Calls Try.prog 4 #[.slice A xs.length c, .slice A' l.length c'] w fun e w' => e = .returned (.bool true) ∧ Below w.heap.size w w' := by
  have HX := Lib.hid hx
  have HL := Lib.hid hl
  have HWF := Lib.hid (wf_after hwf l hlf)
  have hm := hl.len
  have hm2 := hx.len
  unfold maxLen at hm hm2
  clear hx hl hwf hlf
  by_cases h60 : 60 < xs.length
  · have d1 : decide ((60 : Int) < (xs.length : Int)) = true := by simp; omega
    go_enter Try.func4, Try.ntmps4
    go_wp2_with fail
    refine (arena_awake w).mono ?_
    rintro e w1 ⟨rfl, hB⟩
    have HB := Lib.hid hB
    clear hB
    go_wp2_with fail
    go_ret
    exact ⟨rfl, HB.out⟩
  have d1 : decide ((60 : Int) < (xs.length : Int)) = false := by simp; omega
  by_cases h61 : 60 < l.length
  · have d2 : decide ((60 : Int) < (l.length : Int)) = true := by simp; omega
    go_enter Try.func4, Try.ntmps4
    go_wp2_with fail
    refine (arena_awake w).mono ?_
    rintro e w1 ⟨rfl, hB⟩
    have HB := Lib.hid hB
    clear hB
    go_wp2_with fail
    go_ret
    exact ⟨rfl, HB.out⟩
  have d2 : decide ((60 : Int) < (l.length : Int)) = false := by simp; omega
  go_enter Try.func4, Try.ntmps4
  go_wp2_with fail
  refine (arena_awake w).mono ?_
  rintro e w1 ⟨rfl, hB⟩
  have HB1 := Lib.hid hB
  have HX1 := Lib.hid ((HX.out.below hB).more hB.size)
  clear hB
  go_wp2_with fail
  refine (new_any _ _ _ _ HX1.out (by omega)).mono ?_
  rintro e w2 ⟨b, g, rfl, ha, hb, hg, hB⟩
  have HA2 := Lib.hid ha
  have hs1 := HB1.out.size
  have hs2 := hB.size
  have hlt2 := ha.lt
  have HB2 : Hid (Below w.heap.size w w2) := HB1.out.trans (hB.mono HB1.out.size)
  have HX2 := Lib.hid ((HX1.out.below hB).more hB.size)
  clear hB ha
  go_wp2_with fail
  refine (refcopy_any _ _ _ _ HX2.out (by omega)).mono ?_
  rintro e w3 ⟨v, rfl, ho, hB⟩
  have HO3 := Lib.hid ho
  have HB3 : Hid (Below w.heap.size w w3) := HB2.out.trans (hB.mono HB2.out.size)
  have HA3 := Lib.hid (HA2.out.keep (Keep.of_below hB (fun _ => False)) id id)
  have hs3 := hB.size
  clear hB ho
  go_wp2_with fail
  go_loopw [7, 8, 9, 10, 11] (fun i _ _ _ _ wr => ∃ k : Nat, k ≤ l.length ∧ i = .int .i64 k ∧ IsArena wr b g (after xs l k) ∧ Own .u64 45 wr w2.heap.size v (after xs l k) ∧ Below w.heap.size w wr) (fun i _ _ _ _ _ => l.length - (intOf i).toNat)
  case atStart => exact ⟨0, Nat.zero_le _, rfl, HA3.out, HO3.out, HB3.out⟩
  case round =>
    obtain ⟨k, hk, rfl, ha, ho, hB⟩ := hrel
    have HA := Lib.hid ha
    have HO := Lib.hid ho
    have HB := Lib.hid hB
    clear ha ho hB
    by_cases hlt : k < l.length
    · obtain ⟨ad, rfl, hadB, q0, q1, q2, q3, q4⟩ := HL.out.cell HB.out hlt
      have hgetD : Hid (l.getD k Acc.zero = l[k]) := by unfold Hid; simp [hlt]
      have hnext : Hid ((l[k]).left (after xs l k) = after xs l (k + 1)) := by rw [after, hgetD.out]; rfl
      have hl1 := Lib.hid (after_len xs l k)
      have hl2 := Lib.hid (after_len xs l (k + 1))
      generalize hak : l[k] = ak at q0 q1 q2 q3 q4 hgetD hnext
      have HAK := Lib.hid hak
      clear hak
      go_wp2_with fail
      refine (do_any _ _ _ _ ak HA.out (HWF.out k hk)).mono ?_
      rintro e w4 ⟨rfl, ha, hkp⟩
      rw [hnext.out] at ha
      have HA4 := Lib.hid ha
      have hs4 := hkp.size
      obtain ⟨A2, c2, rfl, hi2, hbk2⟩ := HO.out.form
      have hg2 := HA2.out.lt
      have hno : ∀ g', (Value.slice A2 (after xs l k).length c2).ownBlock = some g' → ¬ g' = g := fun g' h => by
        have h0 := HO.out.more (base' := w2.heap.size) (Nat.le_refl _)
        obtain ⟨_, _, _, _, hb'⟩ := h0.form
        have := hb' g' h
        omega
      have hno2 : ∀ g', (Value.slice A2 (after xs l k).length c2).ownBlock = some g' → ¬ g' = b := fun g' h => by
        obtain ⟨_, _, _, _, hb'⟩ := HO.out.form
        have := hb' g' h
        omega
      have HNO := Lib.hid hno
      have HNO2 := Lib.hid hno2
      have HO4 := Lib.hid (HO.out.keep hkp hno)
      have HB4 : Hid (Below w.heap.size w w4) := HB.out.trans (hkp.below HB.out.size (fun i hi => by subst hi; omega))
      have HB4a : Hid (Below w.heap.size w (w4.alloc (ak.res (after xs l k)).obj)) := HB4.out.alloc HB4.out.size _
      have HBl := Lib.hid (HL.out.cell HB4a.out hlt)
      have HO4a := Lib.hid (HO4.out.keep ((Keep.refl (fun _ => False) w4).alloc (ak.res (after xs l k)).obj) (fun _ _ h => h))
      clear ha hkp hno hno2 hi2 hbk2 q0 q1 q2 q3 q4
      obtain ⟨ad', hadE, _, q0, q1, q2, q3, q4⟩ := HBl.out
      obtain rfl : ad = ad' := by injection hadE
      clear hadE
      rw [HAK.out] at q0 q1 q2 q3 q4
      go_wp2_with fail
      refine (refdo_any _ _ _ _ _ ak HO4a.out (by rw [hl1.out]; omega)).mono ?_
      rintro e w5 ⟨rfl, ho, hkp⟩
      rw [hnext.out] at ho
      have HO5 := Lib.hid ho
      have hw4 : (w4.alloc (ak.res (after xs l k)).obj).heap.size = w4.heap.size + 1 := by simp
      have hs5 := hkp.size
      rw [hw4] at hs5
      have HA5 : Hid (IsArena w5 b g (after xs l (k + 1))) := (HA4.out.keep ((Keep.refl (fun _ => False) w4).alloc (ak.res (after xs l k)).obj) id id).keep hkp (fun h => HNO2.out _ h rfl) (fun h => HNO.out _ h rfl)
      have HB5 : Hid (Below w.heap.size w w5) := (HB4.out.alloc HB4.out.size (ak.res (after xs l k)).obj).trans (hkp.below (by have := HB4.out.size; rw [hw4]; omega) (fun i hi => by
        obtain ⟨_, _, _, _, hb'⟩ := HO4.out.form
        have := hb' i hi
        omega))
      have hbx : w5.heap[w4.heap.size]? = some (ak.res (after xs l k)).obj := hkp.at_ (heap_alloc_new w4 _) (fun h => by
        obtain ⟨_, _, _, _, hb'⟩ := HO4.out.form
        have := hb' _ h
        omega)
      have hbxa : (w5.alloc (ak.res (after xs l k)).obj).heap[w4.heap.size]? = some (ak.res (after xs l k)).obj := (Below.heap_alloc w5 _ _ (block_lt hbx)).trans hbx
      obtain ⟨x0, x1, x2, x3, x4, _⟩ := acc_cells hbxa
      have HA5a := Lib.hid (HA5.out.keep ((Keep.refl (fun _ => False) w5).alloc (ak.res (after xs l k)).obj) id id)
      have HO5a := Lib.hid (HO5.out.keep ((Keep.refl (fun _ => False) w5).alloc (ak.res (after xs l k)).obj) (fun _ _ h => h))
      have HB5a : Hid (Below w.heap.size w (w5.alloc (ak.res (after xs l k)).obj)) := HB5.out.alloc HB5.out.size _
      have hsz : Hid ((after xs l (k + 1)).length * 8 ≤ 140737488355328) := by unfold Hid; rw [hl2.out]; omega
      clear ho hkp hbx hbxa q0 q1 q2 q3 q4 hw4
      go_wp2_with fail
      refine (all_any _ _ _ _ HA5a.out hsz.out).mono ?_
      rintro e w6 ⟨v6, rfl, ho6, hB6⟩
      obtain ⟨A6, c6, rfl, hi6, _⟩ := ho6.form
      have HI6 := Lib.hid hi6
      have HO6 := Lib.hid (HO5a.out.keep (Keep.of_below hB6 (fun _ => False)) (fun _ _ h => h))
      have HA6 := Lib.hid (HA5a.out.keep (Keep.of_below hB6 (fun _ => False)) id id)
      have HB6 : Hid (Below w.heap.size w w6) := HB5a.out.trans (hB6.mono HB5a.out.size)
      obtain ⟨A7, c7, hv7, hi7, _⟩ := HO6.out.form
      have hlen7 : (after xs l k).length = (after xs l (k + 1)).length := by rw [hl1.out, hl2.out]
      rw [hlen7] at hv7 HO6 ⊢
      simp at hv7
      obtain ⟨rfl, rfl⟩ := hv7
      have HI7 := Lib.hid hi7
      have HLEN := Lib.hid hlen7
      clear ho6 hi6 hi7 hB6 hlen7 x0 x1 x2 x3 x4
      go_wp2_with fail
      refine (refsame_any _ _ _ _ _ _ _ HI6.out HI7.out).mono ?_
      rintro e w7 ⟨rfl, hk7⟩
      rw [show sameB (after xs l (k + 1)) (after xs l (k + 1)) = true by simp [sameB]]
      rw [← HLEN.out]
      have HA7 := Lib.hid (HA6.out.keep hk7 id id)
      have HO7 := Lib.hid (HO6.out.keep hk7 (fun _ _ h => h))
      have HB7 : Hid (Below w.heap.size w w7) := HB6.out.trans (hk7.below HB6.out.size (fun _ h => h.elim))
      clear hk7
      go_wp2_with fail
      go_roundw
      case rel => exact ⟨k + 1, by omega, by go_num, HA7.out, by rw [HLEN.out]; exact HO7.out, HB7.out⟩
      case measure => simp [intOf]; omega
    · obtain rfl : k = l.length := by omega
      have hl1 := after_len xs l l.length
      have HL1 := Lib.hid hl1
      clear hl1
      go_wp2_with fail
      refine (alen_any _ _ _ _ HA.out).mono ?_
      rintro e w4 ⟨rfl, rfl⟩
      rw [HL1.out]
      go_wp2_with fail
      go_ret
      exact ⟨rfl, HB.out⟩
end Go.Proofs.Ytnbigldfklehgab

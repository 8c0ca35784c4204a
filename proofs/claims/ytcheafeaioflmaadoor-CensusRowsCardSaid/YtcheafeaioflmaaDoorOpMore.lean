/- More of operations: op.Name, op.Ret; mudlarkref08 Ret, Regs. -/
import Derived.Test.YtcheafeaioflmaaDoorOpRegs
import Derived.Test.YtcheafeaioflmaaDoorRef08
import Derived.Test.YtcheafeaioflmaaDoorWords
namespace Go.Proofs.YtcheafeaioflmaaDoor
open Go Go.RowKit
set_option linter.unusedSimpArgs false
set_option linter.unusedVariables false

theorem fname_none (k : Int) (h : ¬ (1 ≤ k ∧ k ≤ 11)) : fname k = ⟨#[]⟩ := by
  unfold fname
  by_cases h0 : k ≤ 0
  · rw [show k.toNat = 0 by omega]; rfl
  · rw [List.getD_eq_getElem?_getD, List.getElem?_eq_none (by simp [fnames]; omega)]; rfl
theorem oname_any (w : World) (k : Int) : Calls Tryd.prog 92 #[.int .i64 k] w fun e w' => e = .returned (.string (fname k)) ∧ Below w.heap.size w w' := by
  by_cases h : 1 ≤ k ∧ k ≤ 11
  · have HK := Lib.hid h
    clear h
    go_enter Tryd.func92, Tryd.ntmps92
    go_wp2_with fail
    refine (of_any _ k HK.out.1 HK.out.2).mono ?_
    rintro e w2 ⟨rfl, hb⟩
    have HB := Lib.hid hb
    clear hb
    obtain ⟨nm, hnm⟩ : ∃ nm, nm = fname k := ⟨_, rfl⟩
    rw [← hnm]
    have HNM := Lib.hid hnm
    generalize fpart k = ps
    clear hnm
    go_wp2_with fail
    go_ret
    exact ⟨by rw [← HNM.out]; rfl, HB.out.alloc HB.out.size _⟩
  · have HK := Lib.hid h
    have HN := Lib.hid (fname_none k h)
    clear h
    go_enter Tryd.func92, Tryd.ntmps92
    go_wp2_with fail
    refine (of_out _ k HK.out).mono ?_
    rintro e w2 ⟨rfl, hb⟩
    have HB := Lib.hid hb
    clear hb
    go_wp2_with fail
    go_ret
    exact ⟨by rw [HN.out]; rfl, HB.out.alloc HB.out.size _⟩
def frets : List (List UInt8) := [[], [111, 107], [116, 114, 117, 101], [102, 97, 108, 115, 101], [97, 116, 111, 109], [102, 117, 108, 108], [98, 97, 100]]
def fret (k : Int) : ByteArray := ⟨(frets.getD k.toNat []).toArray⟩
theorem fret_none (k : Int) (h : ¬ (1 ≤ k ∧ k ≤ 6)) : fret k = ⟨#[]⟩ := by
  unfold fret
  by_cases h0 : k ≤ 0
  · rw [show k.toNat = 0 by omega]; rfl
  · rw [List.getD_eq_getElem?_getD, List.getElem?_eq_none (by simp [frets]; omega)]; rfl
theorem refret_any (w : World) (k : Int) : Calls Tryd.prog 89 #[.int .i64 k] w fun e w' => e = .returned (.string (fret k)) ∧ w' = w := by
  by_cases h : 1 ≤ k ∧ k ≤ 6
  · obtain rfl | rfl | rfl | rfl | rfl | rfl : k = 1 ∨ k = 2 ∨ k = 3 ∨ k = 4 ∨ k = 5 ∨ k = 6 := by omega
    all_goals
      clear h
      go_enter Tryd.func89, Tryd.ntmps89
      go_wp2_with fail
      go_ret
      exact ⟨rfl, rfl⟩
  · have hn := Lib.hid (fret_none k h)
    have t1 : (k == 1) = false := by rw [beq_eq_false_iff_ne]; omega
    have t2 : (k == 2) = false := by rw [beq_eq_false_iff_ne]; omega
    have t3 : (k == 3) = false := by rw [beq_eq_false_iff_ne]; omega
    have t4 : (k == 4) = false := by rw [beq_eq_false_iff_ne]; omega
    have t5 : (k == 5) = false := by rw [beq_eq_false_iff_ne]; omega
    have t6 : (k == 6) = false := by rw [beq_eq_false_iff_ne]; omega
    clear h
    go_enter Tryd.func89, Tryd.ntmps89
    go_wp2_with fail
    go_ret
    exact ⟨by rw [hn.out]; rfl, rfl⟩
theorem oret_any (w : World) (k : Int) : Calls Tryd.prog 93 #[.int .i64 k] w fun e w' => e = .returned (.string (fret k)) ∧ Below w.heap.size w w' := by
  by_cases h0 : k < 0
  · have hn := Lib.hid (fret_none k (by omega))
    have d0 : decide (k < 0) = true := by simpa using h0
    clear h0
    go_enter Tryd.func93, Tryd.ntmps93
    go_wp2_with fail
    go_ret
    exact ⟨by rw [hn.out]; rfl, (Below.refl _ _).alloc (Nat.le_refl _) _⟩
  by_cases h7 : 7 ≤ k
  · have hn := Lib.hid (fret_none k (by omega))
    have d0 : decide (k < 0) = false := by simpa using h0
    have d1 : decide (7 ≤ k) = true := by simpa using h7
    clear h0 h7
    go_enter Tryd.func93, Tryd.ntmps93
    go_wp2_with fail
    go_ret
    exact ⟨by rw [hn.out]; rfl, (Below.refl _ _).alloc (Nat.le_refl _) _⟩
  obtain rfl | rfl | rfl | rfl | rfl | rfl | rfl : k = 0 ∨ k = 1 ∨ k = 2 ∨ k = 3 ∨ k = 4 ∨ k = 5 ∨ k = 6 := by omega
  all_goals
    clear h0 h7
    go_enter Tryd.func93, Tryd.ntmps93
    go_wp2_with fail
    go_ret
    exact ⟨rfl, (Below.refl _ _).alloc (Nat.le_refl _) _⟩
theorem refpart_none (w : World) (k : Int) (i : Nat) (h : ¬ (1 ≤ k ∧ k ≤ 11)) : Calls Tryd.prog 85 #[.int .i64 k, .int .i64 i] w fun e w' => e = .returned (.int .i64 0) ∧ w' = w := by
  have HN := Lib.hid (fname_none k h)
  clear h
  go_enter Tryd.func85, Tryd.ntmps85
  go_wp2_with fail
  refine (refname_any _ k).mono ?_
  rintro e w2 ⟨rfl, hw⟩
  obtain rfl := hw.symm
  clear hw
  rw [HN.out]
  go_wp2_with fail
  go_ret
  exact ⟨rfl, rfl⟩
theorem part_letter (k : Int) (h : 1 ≤ k ∧ k ≤ 11) (i : Nat) (hi : i < 3) : (rpart k i = 1 ∧ i < (fpart k).size) ↔ (fpart k).data.toList[i]? = some 114 := by
  obtain rfl | rfl | rfl | rfl | rfl | rfl | rfl | rfl | rfl | rfl | rfl : k = 1 ∨ k = 2 ∨ k = 3 ∨ k = 4 ∨ k = 5 ∨ k = 6 ∨ k = 7 ∨ k = 8 ∨ k = 9 ∨ k = 10 ∨ k = 11 := by omega
  all_goals
    obtain rfl | rfl | rfl : i = 0 ∨ i = 1 ∨ i = 2 := by omega
    all_goals decide
theorem part_letter' (k : Int) (h : 1 ≤ k ∧ k ≤ 11) (i : Nat) (hi : i < 3) : rpart k i = 1 ↔ (fpart k).data.toList[i]? = some 114 := by
  obtain rfl | rfl | rfl | rfl | rfl | rfl | rfl | rfl | rfl | rfl | rfl : k = 1 ∨ k = 2 ∨ k = 3 ∨ k = 4 ∨ k = 5 ∨ k = 6 ∨ k = 7 ∨ k = 8 ∨ k = 9 ∨ k = 10 ∨ k = 11 := by omega
  all_goals
    obtain rfl | rfl | rfl : i = 0 ∨ i = 1 ∨ i = 2 := by omega
    all_goals decide
theorem regsTo_past {ps : ByteArray} {x : Opr} : ∀ d : Nat, regsTo ps x (ps.size + d) = regsTo ps x ps.size
  | 0 => rfl
  | d + 1 => by
    rw [← Nat.add_assoc, regsTo_no, regsTo_past d]
    intro e
    have := (List.getElem?_eq_some_iff.1 e).1
    have e4 : ps.data.toList.length = ps.size := by show _ = ps.data.size; exact Array.length_toList
    omega
theorem regsTo_3 (x : Opr) (h : 1 ≤ x.kind ∧ x.kind ≤ 11) : regsTo (fpart x.kind) x 3 = oregs x := by
  unfold oregs
  rw [if_pos h]
  have h2 : (fpart x.kind).size ≤ 3 := part_len x.kind
  have := regsTo_past (ps := fpart x.kind) (x := x) (3 - (fpart x.kind).size)
  rwa [show (fpart x.kind).size + (3 - (fpart x.kind).size) = 3 by omega] at this
theorem info_int8 : (Tryd.prog.info? 3).map (fun i => (i.zero, i.size, i.bytes)) = some (some (.int .i64 0), 1, 8) := by kernel_rfl
theorem info_int8' : ∃ i, Tryd.prog.info? 3 = some i ∧ i.zero = some (.int .i64 0) ∧ i.size = 1 ∧ i.bytes = 8 := by
  have := info_int8
  cases hh : Tryd.prog.info? 3 with
  | none => rw [hh] at this; cases this
  | some i =>
    rw [hh] at this
    simp at this
    exact ⟨i, rfl, this⟩
theorem reads_int (W : World) (E : TypeId) (a : Value) : Reads (W.alloc (.cells #[a] E)) (W.heap.size + 1) 1 (some ⟨W.heap.size, 0, none⟩) 1 [a] := by
  refine ⟨rfl, fun _ => ⟨_, rfl, by simp, fun j u hu => ?_⟩⟩
  have hj : j < 1 := by
    have := (List.getElem?_eq_some_iff.1 hu).1
    simpa using this
  obtain rfl : j = 0 := by omega
  have e : (⟨W.heap.size, 0, none⟩ : Addr).add 0 = ⟨W.heap.size, 0, none⟩ := by unfold Addr.add; simp
  rw [e, cell_of_block (heap_alloc_new W _)]
  simpa using hu
/-- what the document's Regs has gathered behind k rounds -/
def rregs (x : Opr) (k : Nat) : List Int := if 1 ≤ x.kind ∧ x.kind ≤ 11 then regsTo (fpart x.kind) x k else []
theorem rregs_len (x : Opr) (k : Nat) : (rregs x k).length ≤ k := by
  unfold rregs
  split
  · exact regsTo_len k
  · simp
theorem rregs_3 (x : Opr) : rregs x 3 = oregs x := by
  unfold rregs
  by_cases h : 1 ≤ x.kind ∧ x.kind ≤ 11
  · rw [if_pos h, regsTo_3 x h]
  · rw [if_neg h, oregs, if_neg h]
def rp (x : Opr) (i : Nat) : Int := if 1 ≤ x.kind ∧ x.kind ≤ 11 then rpart x.kind i else 0
theorem refpart_all (w : World) (x : Opr) (i : Nat) (hi : i < 3) : Calls Tryd.prog 85 #[.int .i64 x.kind, .int .i64 i] w fun e w' => e = .returned (.int .i64 (rp x i)) ∧ w' = w := by
  unfold rp
  by_cases h : 1 ≤ x.kind ∧ x.kind ≤ 11
  · rw [if_pos h]; exact refpart_any w x.kind i h hi
  · rw [if_neg h]; exact refpart_none w x.kind i h
theorem rregs_yes {x : Opr} {k : Nat} (hk : k < 3) (h : rp x k = 1) : rregs x (k + 1) = rregs x k ++ [x.num k] := by
  unfold rp at h
  by_cases h1 : 1 ≤ x.kind ∧ x.kind ≤ 11
  · rw [if_pos h1] at h
    unfold rregs
    rw [if_pos h1, if_pos h1]
    exact regsTo_yes ((part_letter' x.kind h1 k hk).1 h)
  · rw [if_neg h1] at h
    omega
theorem rregs_no {x : Opr} {k : Nat} (hk : k < 3) (h : ¬ rp x k = 1) : rregs x (k + 1) = rregs x k := by
  unfold rp at h
  unfold rregs
  by_cases h1 : 1 ≤ x.kind ∧ x.kind ≤ 11
  · rw [if_pos h1] at h
    rw [if_pos h1, if_pos h1]
    exact regsTo_no (fun e => h ((part_letter' x.kind h1 k hk).2 e))
  · rw [if_neg h1, if_neg h1]
end Go.Proofs.YtcheafeaioflmaaDoor

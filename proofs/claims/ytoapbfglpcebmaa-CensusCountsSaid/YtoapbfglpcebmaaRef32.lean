/- The contracts of mudlarkref32 Many, Takes, Calls, Returns, By. -/
import Derived.Test.YtoapbfglpcebmaaCensusOf
import Derived.Test.YtoapbfglpcebmaaRef08
namespace Go.Proofs.Ytoapbfglpcebmaa
open Go Go.RowKit
set_option linter.unusedSimpArgs false
set_option linter.unusedVariables false

def cntP (p : Nt → Bool) (l : List Nt) : Int := (l.countP p : Nat)
theorem cntP_take {p : Nt → Bool} {l : List Nt} {k : Nat} {t : Nt} (h : l[k]? = some t) : cntP p (l.take (k + 1)) = cntP p (l.take k) + (if p t = true then 1 else 0) := by
  have e : l.take (k + 1) = l.take k ++ [t] := by rw [List.take_add_one, h]; rfl
  unfold cntP
  rw [e, List.countP_append, List.countP_singleton]
  split <;> simp_all
theorem cntP_bd (p : Nt → Bool) {l : List Nt} (hl : l.length ≤ 100000) (k : Nat) : 0 ≤ cntP p (l.take k) ∧ cntP p (l.take k) < 1000000 := by
  unfold cntP
  have h := List.countP_le_length (p := p) (l := l.take k)
  have h2 : (l.take k).length ≤ l.length := by simp; omega
  omega
theorem cntP_nil (p : Nt → Bool) : cntP p [] = 0 := rfl
def frets : List (List UInt8) := [[], [111, 107], [116, 114, 117, 101], [102, 97, 108, 115, 101], [97, 116, 111, 109], [102, 117, 108, 108], [98, 97, 100]]
def fret (k : Int) : ByteArray := ⟨(frets.getD k.toNat []).toArray⟩
theorem refret_any (w : World) (k : Int) : Calls Try.prog 69 #[.int .i64 k] w fun e w' => e = .returned (.string (fret k)) ∧ w' = w := by
  by_cases h : 1 ≤ k ∧ k ≤ 6
  · obtain rfl | rfl | rfl | rfl | rfl | rfl : k = 1 ∨ k = 2 ∨ k = 3 ∨ k = 4 ∨ k = 5 ∨ k = 6 := by omega
    all_goals
      clear h
      go_enter Try.func69, Try.ntmps69
      go_wp2_with fail
      go_ret
      exact ⟨rfl, rfl⟩
  · have hn : Hid (fret k = ⟨#[]⟩) := by
      unfold Hid fret
      by_cases h0 : k ≤ 0
      · rw [show k.toNat = 0 by omega]; rfl
      · rw [List.getD_eq_getElem?_getD, List.getElem?_eq_none (by simp [frets]; omega)]; rfl
    have t1 : (k == 1) = false := by rw [beq_eq_false_iff_ne]; omega
    have t2 : (k == 2) = false := by rw [beq_eq_false_iff_ne]; omega
    have t3 : (k == 3) = false := by rw [beq_eq_false_iff_ne]; omega
    have t4 : (k == 4) = false := by rw [beq_eq_false_iff_ne]; omega
    have t5 : (k == 5) = false := by rw [beq_eq_false_iff_ne]; omega
    have t6 : (k == 6) = false := by rw [beq_eq_false_iff_ne]; omega
    clear h
    go_enter Try.func69, Try.ntmps69
    go_wp2_with fail
    go_ret
    exact ⟨by rw [hn.out]; rfl, rfl⟩
theorem fret_some (k : Int) (h : 1 ≤ k ∧ k ≤ 6) : (fret k).toList.isEmpty = false := by
  obtain rfl | rfl | rfl | rfl | rfl | rfl : k = 1 ∨ k = 2 ∨ k = 3 ∨ k = 4 ∨ k = 5 ∨ k = 6 := by omega
  all_goals decide +kernel
theorem fret_none (k : Int) (h : ¬ (1 ≤ k ∧ k ≤ 6)) : fret k = ⟨#[]⟩ := by
  unfold fret
  by_cases h0 : k ≤ 0
  · rw [show k.toNat = 0 by omega]; rfl
  · rw [List.getD_eq_getElem?_getD, List.getElem?_eq_none (by simp [frets]; omega)]; rfl
theorem fname_none (k : Int) (h : ¬ (1 ≤ k ∧ k ≤ 11)) : fname k = ⟨#[]⟩ := by
  unfold fname
  by_cases h0 : k ≤ 0
  · rw [show k.toNat = 0 by omega]; rfl
  · rw [List.getD_eq_getElem?_getD, List.getElem?_eq_none (by simp [fnames]; omega)]; rfl
set_option maxHeartbeats 4000000 in
set_option maxRecDepth 100000 in
theorem many_any (w : World) (B : Nat) (A : Option Addr) (c : Nat) (l : List Nt) (h : Nts w B A l) (hl : l.length ≤ 100000) (x : Int) :
    Calls Try.prog 46 #[.slice A l.length c, .int .i64 x] w fun e w' => e = .returned (.int .i64 (cntP (fun t => decide (t.what = x)) l)) ∧ w' = w := by
  have HN := Lib.hid h
  have HL := Lib.hid hl
  obtain ⟨P, hP⟩ : ∃ P : Nt → Bool, P = (fun t => decide (t.what = x)) := ⟨_, rfl⟩
  rw [← hP]
  have HP := Lib.hid hP
  clear h hl hP
  go_enter Try.func46, Try.ntmps46
  go_wp2_with fail
  go_loopw [5, 6] (fun n i wr => ∃ k : Nat, k ≤ l.length ∧ i = .int .i64 k ∧ n = .int .i64 (cntP P (l.take k)) ∧ wr = w) (fun _ i _ => l.length - (intOf i).toNat)
  case atStart => exact ⟨0, Nat.zero_le _, rfl, rfl, rfl⟩
  case round =>
    obtain ⟨k, hk, rfl, rfl, rfl⟩ := hrel
    have hb := cntP_bd P HL.out k
    have HCB := Lib.hid hb
    by_cases hlt : k < l.length
    case neg =>
      have HE : Hid (cntP P (l.take k) = cntP P l) := by unfold Hid; rw [List.take_of_length_le (by omega)]
      clear hb
      go_wp2_with fail
      go_ret
      exact ⟨by rw [← HE.out]; rfl, rfl⟩
    obtain ⟨t, ht⟩ : ∃ t, l[k]? = some t := ⟨_, List.getElem?_eq_getElem hlt⟩
    obtain ⟨ad, rfl, hadB, hc⟩ := HN.out.cell (Below.refl _ _) ht
    obtain ⟨q0, q1, q2, q3, q4, q5, q6⟩ := hc
    have HT := Lib.hid (cntP_take (p := P) ht)
    have s1 : IntKind.i64.wrap (cntP P (l.take k) + 1) = cntP P (l.take k) + 1 := IntWalk.i64_in _ (by omega)
    have sk : IntKind.i64.wrap ((k : Int) + 1) = (k : Int) + 1 := IntWalk.i64_in _ (by have := HL.out; omega)
    clear hb hadB ht
    by_cases hx : t.what = x
    · have tx : (t.what == x) = true := by rw [beq_iff_eq]; exact hx
      have HPT : Hid (P t = true) := by unfold Hid; rw [HP.out]; simp [hx]
      clear hx
      go_wp2_with fail
      go_roundw
      case rel => exact ⟨k + 1, by omega, by go_num, by rw [HT.out, HPT.out]; simp, by first | exact trivial | rfl⟩
      case measure => (simp [intOf] <;> omega)
    · have tx : (t.what == x) = false := by rw [beq_eq_false_iff_ne]; exact hx
      have HPT : Hid (P t = false) := by unfold Hid; rw [HP.out]; simp [hx]
      clear hx
      go_wp2_with fail
      go_roundw
      case rel => exact ⟨k + 1, by omega, by go_num, by rw [HT.out, HPT.out]; simp, by first | exact trivial | rfl⟩
      case measure => (simp [intOf] <;> omega)
set_option maxHeartbeats 4000000 in
set_option maxRecDepth 100000 in
theorem takes_any (w : World) (B : Nat) (A : Option Addr) (c : Nat) (l : List Nt) (h : Nts w B A l) (hl : l.length ≤ 100000) :
    Calls Try.prog 47 #[.slice A l.length c] w fun e w' => e = .returned (.int .i64 (cntP (fun t => decide (t.what = 2) && decide (t.op.kind = 3) && decide (t.n ≠ 5)) l)) ∧ w' = w := by
  have HN := Lib.hid h
  have HL := Lib.hid hl
  obtain ⟨P, hP⟩ : ∃ P : Nt → Bool, P = (fun t => decide (t.what = 2) && decide (t.op.kind = 3) && decide (t.n ≠ 5)) := ⟨_, rfl⟩
  rw [← hP]
  have HP := Lib.hid hP
  clear h hl hP
  go_enter Try.func47, Try.ntmps47
  go_wp2_with fail
  go_loopw [3, 4] (fun n i wr => ∃ k : Nat, k ≤ l.length ∧ i = .int .i64 k ∧ n = .int .i64 (cntP P (l.take k)) ∧ wr = w) (fun _ i _ => l.length - (intOf i).toNat)
  case atStart => exact ⟨0, Nat.zero_le _, rfl, rfl, rfl⟩
  case round =>
    obtain ⟨k, hk, rfl, rfl, rfl⟩ := hrel
    have hb := cntP_bd P HL.out k
    have HCB := Lib.hid hb
    by_cases hlt : k < l.length
    case neg =>
      have HE : Hid (cntP P (l.take k) = cntP P l) := by unfold Hid; rw [List.take_of_length_le (by omega)]
      clear hb
      go_wp2_with fail
      go_ret
      exact ⟨by rw [← HE.out]; rfl, rfl⟩
    obtain ⟨t, ht⟩ : ∃ t, l[k]? = some t := ⟨_, List.getElem?_eq_getElem hlt⟩
    obtain ⟨ad, rfl, hadB, hc⟩ := HN.out.cell (Below.refl _ _) ht
    obtain ⟨q0, q1, q2, q3, q4, q5, q6⟩ := hc
    have HT := Lib.hid (cntP_take (p := P) ht)
    have s1 : IntKind.i64.wrap (cntP P (l.take k) + 1) = cntP P (l.take k) + 1 := IntWalk.i64_in _ (by omega)
    have sk : IntKind.i64.wrap ((k : Int) + 1) = (k : Int) + 1 := IntWalk.i64_in _ (by have := HL.out; omega)
    clear hb hadB ht
    by_cases h1 : t.what = 2
    case neg =>
      have t1 : (t.what == 2) = false := by rw [beq_eq_false_iff_ne]; assumption
      have HPT : Hid (P t = false) := by unfold Hid; rw [HP.out]; simp [h1]
      clear h1
      go_wp2_with fail
      go_roundw
      case rel => exact ⟨k + 1, by omega, by go_num, by rw [HT.out, HPT.out]; simp, by first | exact trivial | rfl⟩
      case measure => (simp [intOf] <;> omega)
    have t1 : (t.what == 2) = true := by rw [beq_iff_eq]; assumption
    by_cases h2 : t.op.kind = 3
    case neg =>
      have t2 : (t.op.kind == 3) = false := by rw [beq_eq_false_iff_ne]; assumption
      have HPT : Hid (P t = false) := by unfold Hid; rw [HP.out]; simp [h2]
      clear h1 h2
      go_wp2_with fail
      go_roundw
      case rel => exact ⟨k + 1, by omega, by go_num, by rw [HT.out, HPT.out]; simp, by first | exact trivial | rfl⟩
      case measure => (simp [intOf] <;> omega)
    have t2 : (t.op.kind == 3) = true := by rw [beq_iff_eq]; assumption
    by_cases h3 : t.n = 5
    · have t3 : (t.n == 5) = true := by rw [beq_iff_eq]; assumption
      have HPT : Hid (P t = false) := by unfold Hid; rw [HP.out]; simp [h3]
      clear h1 h2 h3
      go_wp2_with fail
      go_roundw
      case rel => exact ⟨k + 1, by omega, by go_num, by rw [HT.out, HPT.out]; simp, by first | exact trivial | rfl⟩
      case measure => (simp [intOf] <;> omega)
    · have t3 : (t.n == 5) = false := by rw [beq_eq_false_iff_ne]; assumption
      have HPT : Hid (P t = true) := by unfold Hid; rw [HP.out]; simp [h1, h2, h3]
      clear h1 h2 h3
      go_wp2_with fail
      go_roundw
      case rel => exact ⟨k + 1, by omega, by go_num, by rw [HT.out, HPT.out]; simp, by first | exact trivial | rfl⟩
      case measure => (simp [intOf] <;> omega)
set_option maxHeartbeats 4000000 in
set_option maxRecDepth 100000 in
theorem rcalls_any (w : World) (B : Nat) (A : Option Addr) (c : Nat) (l : List Nt) (h : Nts w B A l) (hl : l.length ≤ 100000) (x : Int) :
    Calls Try.prog 48 #[.slice A l.length c, .int .i64 x] w fun e w' => e = .returned (.int .i64 (cntP (fun t => decide (t.what = 1) && decide (wthin t.op.kind 12 = x)) l)) ∧ w' = w := by
  have HN := Lib.hid h
  have HL := Lib.hid hl
  obtain ⟨P, hP⟩ : ∃ P : Nt → Bool, P = (fun t => decide (t.what = 1) && decide (wthin t.op.kind 12 = x)) := ⟨_, rfl⟩
  rw [← hP]
  have HP := Lib.hid hP
  clear h hl hP
  go_enter Try.func48, Try.ntmps48
  go_wp2_with fail
  go_loopw [5, 6, 7] (fun n i _ wr => ∃ k : Nat, k ≤ l.length ∧ i = .int .i64 k ∧ n = .int .i64 (cntP P (l.take k)) ∧ wr = w) (fun _ i _ _ => l.length - (intOf i).toNat)
  case atStart => exact ⟨0, Nat.zero_le _, rfl, rfl, rfl⟩
  case round =>
    obtain ⟨k, hk, rfl, rfl, rfl⟩ := hrel
    have hb := cntP_bd P HL.out k
    have HCB := Lib.hid hb
    by_cases hlt : k < l.length
    case neg =>
      have HE : Hid (cntP P (l.take k) = cntP P l) := by unfold Hid; rw [List.take_of_length_le (by omega)]
      clear hb
      go_wp2_with fail
      go_ret
      exact ⟨by rw [← HE.out]; rfl, rfl⟩
    obtain ⟨t, ht⟩ : ∃ t, l[k]? = some t := ⟨_, List.getElem?_eq_getElem hlt⟩
    obtain ⟨ad, rfl, hadB, hc⟩ := HN.out.cell (Below.refl _ _) ht
    obtain ⟨q0, q1, q2, q3, q4, q5, q6⟩ := hc
    have HT := Lib.hid (cntP_take (p := P) ht)
    have s1 : IntKind.i64.wrap (cntP P (l.take k) + 1) = cntP P (l.take k) + 1 := IntWalk.i64_in _ (by omega)
    have sk : IntKind.i64.wrap ((k : Int) + 1) = (k : Int) + 1 := IntWalk.i64_in _ (by have := HL.out; omega)
    clear hb hadB ht
    by_cases hk2 : 1 ≤ t.op.kind ∧ t.op.kind ≤ 11
    · have HF := Lib.hid (fname_some _ hk2)
      have HWT : Hid (wthin t.op.kind 12 = t.op.kind) := by unfold Hid wthin; rw [if_neg (by omega)]
      generalize hv : t.op.kind = v at *
      have HV := Lib.hid hv
      clear hv hk2
      go_wp2_with fail
      refine (refname_any _ _).mono ?_
      rintro e w3 ⟨rfl, hw3⟩
      obtain rfl := hw3.symm
      clear hw3
      have hf := HF.out
      by_cases h1 : t.what = 1
      case neg =>
        have t1 : (t.what == 1) = false := by rw [beq_eq_false_iff_ne]; assumption
        have HPT : Hid (P t = false) := by unfold Hid; rw [HP.out]; simp [h1]
        clear h1
        go_wp2_with fail
        go_roundw
        case rel => exact ⟨k + 1, by omega, by go_num, by rw [HT.out, HPT.out]; simp, by first | exact trivial | rfl⟩
        case measure => (simp [intOf] <;> omega)
      have t1 : (t.what == 1) = true := by rw [beq_iff_eq]; assumption
      by_cases h2 : v = x
      · have t2 : (v == x) = true := by rw [beq_iff_eq]; exact h2
        have HPT : Hid (P t = true) := by unfold Hid; rw [HP.out]; simp only [h1, decide_true, Bool.true_and]; rw [HV.out, HWT.out]; simp [h2]
        clear h1 h2
        go_wp2_with fail
        go_roundw
        case rel => exact ⟨k + 1, by omega, by go_num, by rw [HT.out, HPT.out]; simp, by first | exact trivial | rfl⟩
        case measure => (simp [intOf] <;> omega)
      · have t2 : (v == x) = false := by rw [beq_eq_false_iff_ne]; exact h2
        have HPT : Hid (P t = false) := by unfold Hid; rw [HP.out]; simp only [h1, decide_true, Bool.true_and]; rw [HV.out, HWT.out]; simp [h2]
        clear h1 h2
        go_wp2_with fail
        go_roundw
        case rel => exact ⟨k + 1, by omega, by go_num, by rw [HT.out, HPT.out]; simp, by first | exact trivial | rfl⟩
        case measure => (simp [intOf] <;> omega)
    · have HF := Lib.hid (fname_none _ hk2)
      have HWT : Hid (wthin t.op.kind 12 = 0) := by unfold Hid wthin; split <;> omega
      clear hk2
      go_wp2_with fail
      refine (refname_any _ _).mono ?_
      rintro e w3 ⟨rfl, hw3⟩
      obtain rfl := hw3.symm
      clear hw3
      rw [HF.out]
      by_cases h1 : t.what = 1
      case neg =>
        have t1 : (t.what == 1) = false := by rw [beq_eq_false_iff_ne]; assumption
        have HPT : Hid (P t = false) := by unfold Hid; rw [HP.out]; simp [h1]
        clear h1
        go_wp2_with fail
        go_roundw
        case rel => exact ⟨k + 1, by omega, by go_num, by rw [HT.out, HPT.out]; simp, by first | exact trivial | rfl⟩
        case measure => (simp [intOf] <;> omega)
      have t1 : (t.what == 1) = true := by rw [beq_iff_eq]; assumption
      by_cases h2 : (0 : Int) = x
      · have t2 : ((0 : Int) == x) = true := by rw [beq_iff_eq]; exact h2
        have HPT : Hid (P t = true) := by unfold Hid; rw [HP.out]; simp only [h1, decide_true, Bool.true_and]; rw [HWT.out]; simp [h2]
        clear h1 h2
        go_wp2_with fail
        go_roundw
        case rel => exact ⟨k + 1, by omega, by go_num, by rw [HT.out, HPT.out]; simp, by first | exact trivial | rfl⟩
        case measure => (simp [intOf] <;> omega)
      · have t2 : ((0 : Int) == x) = false := by rw [beq_eq_false_iff_ne]; exact h2
        have HPT : Hid (P t = false) := by unfold Hid; rw [HP.out]; simp only [h1, decide_true, Bool.true_and]; rw [HWT.out]; simp [h2]
        clear h1 h2
        go_wp2_with fail
        go_roundw
        case rel => exact ⟨k + 1, by omega, by go_num, by rw [HT.out, HPT.out]; simp, by first | exact trivial | rfl⟩
        case measure => (simp [intOf] <;> omega)
set_option maxHeartbeats 4000000 in
set_option maxRecDepth 100000 in
theorem rreturns_any (w : World) (B : Nat) (A : Option Addr) (c : Nat) (l : List Nt) (h : Nts w B A l) (hl : l.length ≤ 100000) (x : Int) :
    Calls Try.prog 49 #[.slice A l.length c, .int .i64 x] w fun e w' => e = .returned (.int .i64 (cntP (fun t => decide (t.what = 3) && decide (wthin t.n 7 = x)) l)) ∧ w' = w := by
  have HN := Lib.hid h
  have HL := Lib.hid hl
  obtain ⟨P, hP⟩ : ∃ P : Nt → Bool, P = (fun t => decide (t.what = 3) && decide (wthin t.n 7 = x)) := ⟨_, rfl⟩
  rw [← hP]
  have HP := Lib.hid hP
  clear h hl hP
  go_enter Try.func49, Try.ntmps49
  go_wp2_with fail
  go_loopw [5, 6, 7] (fun n i _ wr => ∃ k : Nat, k ≤ l.length ∧ i = .int .i64 k ∧ n = .int .i64 (cntP P (l.take k)) ∧ wr = w) (fun _ i _ _ => l.length - (intOf i).toNat)
  case atStart => exact ⟨0, Nat.zero_le _, rfl, rfl, rfl⟩
  case round =>
    obtain ⟨k, hk, rfl, rfl, rfl⟩ := hrel
    have hb := cntP_bd P HL.out k
    have HCB := Lib.hid hb
    by_cases hlt : k < l.length
    case neg =>
      have HE : Hid (cntP P (l.take k) = cntP P l) := by unfold Hid; rw [List.take_of_length_le (by omega)]
      clear hb
      go_wp2_with fail
      go_ret
      exact ⟨by rw [← HE.out]; rfl, rfl⟩
    obtain ⟨t, ht⟩ : ∃ t, l[k]? = some t := ⟨_, List.getElem?_eq_getElem hlt⟩
    obtain ⟨ad, rfl, hadB, hc⟩ := HN.out.cell (Below.refl _ _) ht
    obtain ⟨q0, q1, q2, q3, q4, q5, q6⟩ := hc
    have HT := Lib.hid (cntP_take (p := P) ht)
    have s1 : IntKind.i64.wrap (cntP P (l.take k) + 1) = cntP P (l.take k) + 1 := IntWalk.i64_in _ (by omega)
    have sk : IntKind.i64.wrap ((k : Int) + 1) = (k : Int) + 1 := IntWalk.i64_in _ (by have := HL.out; omega)
    clear hb hadB ht
    by_cases hk2 : 1 ≤ t.n ∧ t.n ≤ 6
    · have HF := Lib.hid (fret_some _ hk2)
      have HWT : Hid (wthin t.n 7 = t.n) := by unfold Hid wthin; rw [if_neg (by omega)]
      generalize hv : t.n = v at *
      have HV := Lib.hid hv
      clear hv hk2
      go_wp2_with fail
      refine (refret_any _ _).mono ?_
      rintro e w3 ⟨rfl, hw3⟩
      obtain rfl := hw3.symm
      clear hw3
      have hf := HF.out
      by_cases h1 : t.what = 3
      case neg =>
        have t1 : (t.what == 3) = false := by rw [beq_eq_false_iff_ne]; assumption
        have HPT : Hid (P t = false) := by unfold Hid; rw [HP.out]; simp [h1]
        clear h1
        go_wp2_with fail
        go_roundw
        case rel => exact ⟨k + 1, by omega, by go_num, by rw [HT.out, HPT.out]; simp, by first | exact trivial | rfl⟩
        case measure => (simp [intOf] <;> omega)
      have t1 : (t.what == 3) = true := by rw [beq_iff_eq]; assumption
      by_cases h2 : v = x
      · have t2 : (v == x) = true := by rw [beq_iff_eq]; exact h2
        have HPT : Hid (P t = true) := by unfold Hid; rw [HP.out]; simp only [h1, decide_true, Bool.true_and]; rw [HV.out, HWT.out]; simp [h2]
        clear h1 h2
        go_wp2_with fail
        go_roundw
        case rel => exact ⟨k + 1, by omega, by go_num, by rw [HT.out, HPT.out]; simp, by first | exact trivial | rfl⟩
        case measure => (simp [intOf] <;> omega)
      · have t2 : (v == x) = false := by rw [beq_eq_false_iff_ne]; exact h2
        have HPT : Hid (P t = false) := by unfold Hid; rw [HP.out]; simp only [h1, decide_true, Bool.true_and]; rw [HV.out, HWT.out]; simp [h2]
        clear h1 h2
        go_wp2_with fail
        go_roundw
        case rel => exact ⟨k + 1, by omega, by go_num, by rw [HT.out, HPT.out]; simp, by first | exact trivial | rfl⟩
        case measure => (simp [intOf] <;> omega)
    · have HF := Lib.hid (fret_none _ hk2)
      have HWT : Hid (wthin t.n 7 = 0) := by unfold Hid wthin; split <;> omega
      clear hk2
      go_wp2_with fail
      refine (refret_any _ _).mono ?_
      rintro e w3 ⟨rfl, hw3⟩
      obtain rfl := hw3.symm
      clear hw3
      rw [HF.out]
      by_cases h1 : t.what = 3
      case neg =>
        have t1 : (t.what == 3) = false := by rw [beq_eq_false_iff_ne]; assumption
        have HPT : Hid (P t = false) := by unfold Hid; rw [HP.out]; simp [h1]
        clear h1
        go_wp2_with fail
        go_roundw
        case rel => exact ⟨k + 1, by omega, by go_num, by rw [HT.out, HPT.out]; simp, by first | exact trivial | rfl⟩
        case measure => (simp [intOf] <;> omega)
      have t1 : (t.what == 3) = true := by rw [beq_iff_eq]; assumption
      by_cases h2 : (0 : Int) = x
      · have t2 : ((0 : Int) == x) = true := by rw [beq_iff_eq]; exact h2
        have HPT : Hid (P t = true) := by unfold Hid; rw [HP.out]; simp only [h1, decide_true, Bool.true_and]; rw [HWT.out]; simp [h2]
        clear h1 h2
        go_wp2_with fail
        go_roundw
        case rel => exact ⟨k + 1, by omega, by go_num, by rw [HT.out, HPT.out]; simp, by first | exact trivial | rfl⟩
        case measure => (simp [intOf] <;> omega)
      · have t2 : ((0 : Int) == x) = false := by rw [beq_eq_false_iff_ne]; exact h2
        have HPT : Hid (P t = false) := by unfold Hid; rw [HP.out]; simp only [h1, decide_true, Bool.true_and]; rw [HWT.out]; simp [h2]
        clear h1 h2
        go_wp2_with fail
        go_roundw
        case rel => exact ⟨k + 1, by omega, by go_num, by rw [HT.out, HPT.out]; simp, by first | exact trivial | rfl⟩
        case measure => (simp [intOf] <;> omega)
theorem info_note : (Try.prog.info? 47).map (fun i => (i.zero, i.size, i.bytes)) = some (some (.agg #[.int .i64 0, .int .i64 0, .int .i64 0, .int .i64 0, .int .i64 0, .int .i64 0, .int .i64 0]), 7, 56) := by kernel_rfl
theorem info_note' : ∃ i, Try.prog.info? 47 = some i ∧ i.zero = some (.agg #[.int .i64 0, .int .i64 0, .int .i64 0, .int .i64 0, .int .i64 0, .int .i64 0, .int .i64 0]) ∧ i.size = 7 ∧ i.bytes = 56 := by
  have := info_note
  cases hh : Try.prog.info? 47 with
  | none => rw [hh] at this; cases this
  | some i =>
    rw [hh] at this
    simp at this
    exact ⟨i, rfl, this⟩
theorem reads_note (W : World) (t : Nt) : Reads (W.alloc t.obj) (W.heap.size + 1) 7 (some ⟨W.heap.size, 0, none⟩) 1 (nflat [t]) := by
  refine ⟨rfl, fun _ => ⟨_, rfl, by simp, fun j u hu => ?_⟩⟩
  have hj : j < 7 := by
    have := (List.getElem?_eq_some_iff.1 hu).1
    simpa [nflat] using this
  rw [add_zero_off, cell_of_block (heap_alloc_new W _)]
  obtain rfl | rfl | rfl | rfl | rfl | rfl | rfl : j = 0 ∨ j = 1 ∨ j = 2 ∨ j = 3 ∨ j = 4 ∨ j = 5 ∨ j = 6 := by omega
  all_goals simpa [nflat] using hu
set_option maxHeartbeats 4000000 in
set_option maxRecDepth 100000 in
theorem rby_any (w : World) (B : Nat) (m : Int) (A : Option Addr) (c : Nat) (l : List Nt) (h : Nts w B A l) (hB : B ≤ w.heap.size) (hl : l.length ≤ 100000) :
    Calls Try.prog 19 #[.int .i64 m, .slice A l.length c] w fun e w' => ∃ v, e = .returned v ∧ w'.ownsRow w.heap.size 47 7 v (l.filter (fun t => decide (t.proc = m))).length (nflat (l.filter (fun t => decide (t.proc = m)))) ∧ Below w.heap.size w w' := by
  have HN := Lib.hid h
  have HL := Lib.hid hl
  have HBB := Lib.hid hB
  obtain ⟨F, hF⟩ : ∃ F : List Nt → List Nt, F = (fun l => l.filter (fun t => decide (t.proc = m))) := ⟨_, rfl⟩
  have HF := Lib.hid hF
  rw [show l.filter (fun t => decide (t.proc = m)) = F l by rw [hF]]
  have HFL : Hid (∀ k, (F (l.take k)).length ≤ 100000) := fun k => by
    rw [hF]
    have h1 := List.length_filter_le (fun t : Nt => decide (t.proc = m)) (l.take k)
    have h2 : (l.take k).length ≤ l.length := by simp; omega
    dsimp only
    omega
  have HF0 : Hid (F [] = []) := by rw [hF]; rfl
  obtain ⟨i0, hi0, hz0, hz1, hz2⟩ := info_note'
  clear h hB hF
  go_enter Try.func19, Try.ntmps19
  go_wp2_with fail
  go_loopw [5, 6] (fun v i wr => ∃ k : Nat, k ≤ l.length ∧ i = .int .i64 k ∧ Hid (wr.ownsRow w.heap.size 47 7 v (F (l.take k)).length (nflat (F (l.take k)))) ∧ Hid (Below w.heap.size w wr)) (fun _ i _ => l.length - (intOf i).toNat)
  case atStart => exact ⟨0, Nat.zero_le _, rfl, by rw [List.take_zero, HF0.out]; exact ⟨rfl, Or.inl ⟨rfl, rfl⟩⟩, Below.refl _ _⟩
  case round =>
    obtain ⟨k, hk, rfl, HO, HW⟩ := hrel
    by_cases hlt : k < l.length
    case neg =>
      have HE : Hid (F (l.take k) = F l) := by unfold Hid; rw [List.take_of_length_le (by omega)]
      rw [HE.out] at HO
      go_wp2_with fail
      go_ret
      exact ⟨_, rfl, HO.out, HW.out⟩
    obtain ⟨t, ht⟩ : ∃ t, l[k]? = some t := ⟨_, List.getElem?_eq_getElem hlt⟩
    obtain ⟨ad, rfl, hadB, hc⟩ := HN.out.cell (HW.out.mono HBB.out) ht
    obtain ⟨q0, q1, q2, q3, q4, q5, q6⟩ := hc
    have HT := Lib.hid ht
    have hfl := HFL.out k
    have sk : IntKind.i64.wrap ((k : Int) + 1) = (k : Int) + 1 := IntWalk.i64_in _ (by have := HL.out; omega)
    clear hadB ht
    by_cases hm : t.proc = m
    case neg =>
      have tm : (t.proc == m) = false := by rw [beq_eq_false_iff_ne]; exact hm
      have HE : Hid (F (l.take k) = F (l.take (k + 1))) := by
        have e : l.take (k + 1) = l.take k ++ [t] := by rw [List.take_add_one, HT.out]; rfl
        unfold Hid
        rw [e, HF.out]
        simp [hm]
      clear hm
      go_wp2_with fail
      go_roundw
      case rel => exact ⟨k + 1, by omega, by go_num, by rw [← HE.out]; exact HO, HW⟩
      case measure => (simp [intOf] <;> omega)
    have tm : (t.proc == m) = true := by rw [beq_iff_eq]; exact hm
    have HE : Hid (F (l.take (k + 1)) = F (l.take k) ++ [t]) := by
      have e : l.take (k + 1) = l.take k ++ [t] := by rw [List.take_add_one, HT.out]; rfl
      unfold Hid
      rw [e, HF.out]
      simp [hm]
    have HOA : Hid ((wr.alloc t.obj).ownsRow w.heap.size 47 7 u5 (F (l.take k)).length (nflat (F (l.take k)))) := HO.out.alloc _
    have HWA : Hid (Below w.heap.size w (wr.alloc t.obj)) := HW.out.alloc HW.out.size _
    have HWZ := Lib.hid HW.out.size
    clear hm
    go_wp2_with (first
      | (at_builtin
         refine wpList_append_any _ rfl (.tmp 20) (.tmp 25) _ rfl w.heap.size 47 i0 _ 7 56 Try.underlying34 hi0 hz0 hz1 hz2 rfl (by omega) u5 (F (l.take k)).length (nflat (F (l.take k))) rfl
           HOA.out _ _ 1 1 _ rfl (reads_note _ _) (nflat_one _) (by unfold maxLen; omega) (by omega) (by have := HWZ.out; simp; omega) ?_
         intro v1 w1 hown1 hg1 hat1
         have HB1 : Hid (Below w.heap.size w w1) := HWA.out.grown hg1 HWA.out.size (fun k hk => (HOA.out.lt k hk).1)
         have HO1 : Hid (w1.ownsRow w.heap.size 47 7 v1 (F (l.take (k + 1))).length (nflat (F (l.take (k + 1))))) := by
           unfold Hid
           rw [HE.out, nflat_append, List.length_append]
           exact hown1
         clear hown1 hg1 hat1))
    go_roundw
    case rel => exact ⟨k + 1, by omega, by go_num, HO1, HB1⟩
    case measure => (simp [intOf] <;> omega)
end Go.Proofs.Ytoapbfglpcebmaa

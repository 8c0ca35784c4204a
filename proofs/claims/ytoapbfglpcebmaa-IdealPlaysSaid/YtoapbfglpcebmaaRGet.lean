/- The contract of mudlarkref09 Get. -/
import Derived.Test.YtoapbfglpcebmaaRSto
namespace Go.Proofs.Ytoapbfglpcebmaa
open Go Go.RowKit
set_option linter.unusedSimpArgs false
set_option linter.unusedVariables false

theorem rget_any (w : World) (T : Nat → Prop) (b : Nat) (x : RSto) (v : Value) (h : RAt w T b x v) (kd a c' : Int) (hlen : x.puts.length ≤ 100000) :
    Calls Try.prog 59 #[.pointer (some ⟨b, 0, none⟩), .int .i64 kd, .int .i64 a, .int .i64 c'] w fun e w' => e = .returned (.int .u64 (x.get kd a c')) ∧ Below w.heap.size w w' := by
  have hv : ∃ A c, v = .slice A x.puts.length c := by
    rcases h.rows.2 with ⟨rfl, e⟩ | ⟨g, cap, cur, rfl, _⟩
    · exact ⟨none, 0, by rw [e]⟩
    · exact ⟨_, _, rfl⟩
  obtain ⟨A, c, rfl⟩ := hv
  have H := Lib.hid h
  have k4 : w.cell? ⟨b, 4, none⟩ = some (.slice A x.puts.length c) := cell_of_block h.head 4
  have s0 : IntKind.i64.wrap ((x.puts.length : Int) - 1) = (x.puts.length : Int) - 1 := IntWalk.i64_in _ (by omega)
  clear h
  go_enter Try.func59, Try.ntmps59
  go_wp2_with fail
  clear s0
  go_loopw [9, 10] (fun i _ wr => ∃ k : Nat, k ≤ x.puts.length ∧ i = .int .i64 ((k : Int) - 1) ∧ Hid (getL (x.puts.take k) kd a c' = x.get kd a c') ∧ Below w.heap.size w wr) (fun i _ _ => (intOf i + 1).toNat)
  case atStart => exact ⟨x.puts.length, Nat.le_refl _, rfl, by unfold Hid RSto.get; rw [List.take_length], Below.refl _ _⟩
  case round =>
    obtain ⟨k, hk, rfl, HG, hB⟩ := hrel
    have HB := Lib.hid hB
    clear hB
    rcases k with _ | j
    · have d : decide (0 ≤ ((0 : Nat) : Int) - 1) = false := by decide
      go_wp2_with fail
      go_ret
      exact ⟨by rw [← HG.out]; rfl, HB.out⟩
    · have e1 : ((j + 1 : Nat) : Int) - 1 = (j : Int) := by omega
      rw [e1]
      clear e1
      obtain ⟨p, hp⟩ : ∃ p, x.puts[j]? = some p := ⟨_, List.getElem?_eq_getElem (by omega)⟩
      have HT := Lib.hid (getL_take x.puts j p hp kd a c')
      obtain ⟨q0, q1, q2, q3⟩ := pflat_at x.puts j p hp
      obtain ⟨g, cap, hv, _, hgl⟩ := H.out.rows.form (by omega)
      simp at hv
      obtain ⟨rfl, rfl⟩ := hv
      have hc : ∀ i, i < x.puts.length * 4 → wr.cell? ⟨g, i, none⟩ = (pflat x.puts)[i]? := fun i hi => (HB.out.cell (p := ⟨g, i, none⟩) hgl).trans (H.out.rows.cellAt i hi)
      have p0 := (hc (j * 4) (by omega)).trans q0
      have p1 := (hc (j * 4 + 1) (by omega)).trans q1
      have p2 := (hc (j * 4 + 2) (by omega)).trans q2
      have p3 := (hc (j * 4 + 3) (by omega)).trans q3
      have b4 : wr.cell? ⟨b, 4, none⟩ = some (.slice (some ⟨g, 0, none⟩) x.puts.length c) := (HB.out.cell (p := ⟨b, 4, none⟩) (block_lt H.out.head)).trans k4
      have hnew := heap_alloc_new wr (.cells #[.int .i64 p.kind, .int .i64 p.a, .int .i64 p.b, .int .u64 p.w] 109)
      have z0 := cell_of_block hnew 0
      have z1 := cell_of_block hnew 1
      have z2 := cell_of_block hnew 2
      have z3 := cell_of_block hnew 3
      have HBn : Hid (Below w.heap.size w (wr.alloc (.cells #[.int .i64 p.kind, .int .i64 p.a, .int .i64 p.b, .int .u64 p.w] 109))) := HB.out.alloc HB.out.size _
      have sj : IntKind.i64.wrap ((j : Int) - 1) = (j : Int) - 1 := IntWalk.i64_in _ (by omega)
      have i1 : (0 : Int) ≤ (j : Int) := by omega
      have i2 : (j : Int) < (x.puts.length : Int) := by omega
      clear hc q0 q1 q2 q3 hnew hgl hp k4
      by_cases c0 : p.kind = kd
      case neg =>
        have t0 : (p.kind == kd) = false := by rw [beq_eq_false_iff_ne]; exact c0
        have CN : Hid (¬ (p.kind = kd ∧ p.a = a ∧ p.b = c')) := fun h => c0 h.1
        clear c0
        go_wp2_with fail
        go_roundw
        case rel => exact ⟨j, by omega, rfl, by unfold Hid; rw [← HG.out, HT.out, if_neg (CN.out)], HBn.out⟩
        case measure => (simp [intOf] <;> omega)
      have t0 : (p.kind == kd) = true := by rw [beq_iff_eq]; exact c0
      by_cases c1 : p.a = a
      case neg =>
        have t1 : (p.a == a) = false := by rw [beq_eq_false_iff_ne]; exact c1
        have CN : Hid (¬ (p.kind = kd ∧ p.a = a ∧ p.b = c')) := fun h => c1 h.2.1
        clear c0 c1
        go_wp2_with fail
        go_roundw
        case rel => exact ⟨j, by omega, rfl, by unfold Hid; rw [← HG.out, HT.out, if_neg (CN.out)], HBn.out⟩
        case measure => (simp [intOf] <;> omega)
      have t1 : (p.a == a) = true := by rw [beq_iff_eq]; exact c1
      by_cases c2 : p.b = c'
      case neg =>
        have t2 : (p.b == c') = false := by rw [beq_eq_false_iff_ne]; exact c2
        have CN : Hid (¬ (p.kind = kd ∧ p.a = a ∧ p.b = c')) := fun h => c2 h.2.2
        clear c0 c1 c2
        go_wp2_with fail
        go_roundw
        case rel => exact ⟨j, by omega, rfl, by unfold Hid; rw [← HG.out, HT.out, if_neg (CN.out)], HBn.out⟩
        case measure => (simp [intOf] <;> omega)
      have t2 : (p.b == c') = true := by rw [beq_iff_eq]; exact c2
      have CP : Hid (p.kind = kd ∧ p.a = a ∧ p.b = c') := ⟨c0, c1, c2⟩
      clear c0 c1 c2
      go_wp2_with fail
      go_ret
      exact ⟨by rw [← HG.out, HT.out, if_pos CP.out]; rfl, HBn.out⟩
end Go.Proofs.Ytoapbfglpcebmaa

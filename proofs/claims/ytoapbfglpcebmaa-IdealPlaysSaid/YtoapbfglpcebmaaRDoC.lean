/- The contract of mudlarkref09 Do: the other kinds, and all of them. -/
import Derived.Test.YtoapbfglpcebmaaRDo
namespace Go.Proofs.Ytoapbfglpcebmaa
open Go Go.RowKit
set_option linter.unusedSimpArgs false
set_option linter.unusedVariables false

set_option maxHeartbeats 4000000 in
set_option maxRecDepth 100000 in
theorem rdo_10 (w : World) (T : Nat → Prop) (b : Nat) (x : RSto) (h : IsR w T b x) (m : Int) (o : Opr) (full : Bool) (hlen : x.puts.length ≤ 99990)
    (hbd : ∀ m r, 0 ≤ x.reg m r ∧ x.reg m r < 18446744073709551616) (hm : 0 ≤ m ∧ m < x.c.muts) (herr : o.err x.c = 0) (hk : o.kind = 10) (h63 : o.b < 9223372036854775808) :
    Calls Try.prog 29 #[.pointer (some ⟨b, 0, none⟩), .int .i64 m, o.v, .bool full] w (RPost w T b (x.did m o full)) := by
  obtain ⟨_, hr⟩ := right_of_err herr
  have HD : Hid (x.did m o full = (x, if x.reg m o.a = x.reg m o.b then 2 else 3)) := by unfold Hid RSto.did; rw [if_neg (by omega), if_neg (by omega), if_neg (by omega), if_neg (by omega), if_neg (by omega), if_neg (by omega), if_neg (by omega), if_pos hk]
  rw [HD.out]
  have hq : (if (x.reg m o.a == x.reg m o.b) = true then (2 : Int) else 3) = (if x.reg m o.a = x.reg m o.b then 2 else 3) := by simp
  generalize (if x.reg m o.a = x.reg m o.b then (2 : Int) else 3) = q at hq ⊢
  have HQ := Lib.hid hq
  clear hq
  have HERR := Lib.hid herr
  have HLEN := Lib.hid hlen
  have HBD := Lib.hid hbd
  have HC : Hid (RCur w o T b x (w.alloc o.obj)) := RCur.start h
  have k0 := HC.out.k0
  have k1 := HC.out.k1
  have k2 := HC.out.k2
  have k3 := HC.out.k3
  have x0 := HC.out.b0
  have x1 := HC.out.b1
  have x2 := HC.out.b2
  have x3 := HC.out.b3
  have d1 : decide (m < 0) = false := by simp; omega
  have d2 : decide (x.c.muts ≤ m) = false := by simp; omega
  have t1 : (o.kind == 1) = false := by rw [beq_eq_false_iff_ne]; omega
  have t2 : (o.kind == 2) = false := by rw [beq_eq_false_iff_ne]; omega
  have t3 : (o.kind == 3) = false := by rw [beq_eq_false_iff_ne]; omega
  have t4 : (o.kind == 4) = false := by rw [beq_eq_false_iff_ne]; omega
  have t5 : (o.kind == 5) = false := by rw [beq_eq_false_iff_ne]; omega
  have t6 : (o.kind == 6) = false := by rw [beq_eq_false_iff_ne]; omega
  have t7 : (o.kind == 7) = false := by rw [beq_eq_false_iff_ne]; omega
  have t8 : (o.kind == 8) = false := by rw [beq_eq_false_iff_ne]; omega
  have t9 : (o.kind == 9) = false := by rw [beq_eq_false_iff_ne]; omega
  have t10 : (o.kind == 10) = true := by rw [beq_iff_eq]; omega
  clear h herr hr hm hk hlen hbd
  go_enter Try.func29, Try.ntmps29
  go_wp2_with fail
  go_region_held3 (fun w' => w'.cell? ⟨b, 0, none⟩ = some (.int .i64 x.c.cells) ∧ w'.cell? ⟨b, 1, none⟩ = some (.int .i64 x.c.muts) ∧ w'.cell? ⟨b, 2, none⟩ = some (.int .i64 x.c.regs) ∧ w'.cell? ⟨b, 3, none⟩ = some (.int .i64 x.c.globs) ∧ w'.cell? ⟨w.heap.size, 0, none⟩ = some (.int .i64 o.kind) ∧ w'.cell? ⟨w.heap.size, 1, none⟩ = some (.int .i64 o.a) ∧ w'.cell? ⟨w.heap.size, 2, none⟩ = some (.int .i64 o.b) ∧ w'.cell? ⟨w.heap.size, 3, none⟩ = some (.int .i64 o.c))
    (first
      | exact ⟨k0, k1, k2, k3, x0, x1, x2, x3⟩
      | exact ⟨HC.out.k0, HC.out.k1, HC.out.k2, HC.out.k3, HC.out.b0, HC.out.b1, HC.out.b2, HC.out.b3⟩)
    (first | (go_at_call 55; refine (rcheck_c (by repeat (first | exact HC.out | apply RCur.drew | apply RCur.drewN)) x.c).mono ?_; rintro e w2 ⟨rfl, hc2⟩; rw [HERR.out]; have HC' := Lib.hid hc2; clear HC; have HC := HC'; clear hc2 HC'))
  rename_i hHeld
  clear hHeld k0 k1 k2 k3 x0 x1 x2 x3 d1 d2
  have x0 := HC.out.b0
  have x1 := HC.out.b1
  have x2 := HC.out.b2
  have x3 := HC.out.b3
  have y1 := HC.out.b1
  have y2 := HC.out.b2
  go_wp2_with fail
  go_region_held3 (fun w' => w'.cell? ⟨w.heap.size, 1, none⟩ = some (.int .i64 o.a) ∧ w'.cell? ⟨w.heap.size, 2, none⟩ = some (.int .i64 o.b))
    (first
      | exact ⟨y1, y2⟩
      | exact ⟨HC.out.b1, HC.out.b2⟩)
    (first
      | (go_at_call 57; refine (rreg_c (by repeat (first | exact HC.out | apply RCur.drew | apply RCur.drewN)) m _ (by have := HLEN.out; (try simp only [RSto.put, List.length_append, List.length_singleton]); omega)).mono ?_; rintro e w3 ⟨rfl, hc3⟩; have HC' := Lib.hid hc3; clear HC; have HC := HC'; clear hc3 HC')
      | (go_at_call 60; refine (rtruth_any _ _).mono ?_; rintro e w5 ⟨rfl, hw⟩; obtain rfl := hw.symm; clear hw; rw [HQ.out]))
  all_goals
    go_wp2_with fail
    go_ret
    exact ⟨rfl, (show RCur w o T b _ _ from by repeat (first | exact HC.out | apply RCur.drew | apply RCur.drewN)).fin⟩
set_option maxHeartbeats 4000000 in
set_option maxRecDepth 100000 in
theorem rdo_3 (w : World) (T : Nat → Prop) (b : Nat) (x : RSto) (h : IsR w T b x) (m : Int) (o : Opr) (full : Bool) (hlen : x.puts.length ≤ 99990)
    (hbd : ∀ m r, 0 ≤ x.reg m r ∧ x.reg m r < 18446744073709551616) (hm : 0 ≤ m ∧ m < x.c.muts) (herr : o.err x.c = 0) (hk : o.kind = 3) (h63 : o.b < 9223372036854775808)  (hf : full = false) (hn : 0 ≤ x.n ∧ x.n < 1000000) :
    Calls Try.prog 29 #[.pointer (some ⟨b, 0, none⟩), .int .i64 m, o.v, .bool full] w (RPost w T b (x.did m o full)) := by
  obtain ⟨_, hr⟩ := right_of_err herr
  subst hf
  have HD : Hid (x.did m o false = ({ (((x.put 2 x.n 0 (x.reg m o.b)).put 3 x.n 0 (x.reg m o.c)).put 0 m o.a (x.n * 2 + 1)) with n := x.n + 1 }, 1)) := by unfold Hid RSto.did; rw [if_neg (by omega), if_neg (by omega), if_pos hk, if_neg (by simp)]
  rw [HD.out]
  have s1 : IntKind.u64.wrap x.n = x.n := by rw [IntKind.wrap_u64]; omega
  have s2 : IntKind.u64.wrap (x.n * 2) = x.n * 2 := by rw [IntKind.wrap_u64]; omega
  have s3 : IntKind.u64.wrap (x.n * 2 + 1) = x.n * 2 + 1 := by rw [IntKind.wrap_u64]; omega
  have s4 : IntKind.i64.wrap (x.n + 1) = x.n + 1 := IntWalk.i64_in _ (by omega)
  have HERR := Lib.hid herr
  have HLEN := Lib.hid hlen
  have HBD := Lib.hid hbd
  have HC : Hid (RCur w o T b x (w.alloc o.obj)) := RCur.start h
  have k0 := HC.out.k0
  have k1 := HC.out.k1
  have k2 := HC.out.k2
  have k3 := HC.out.k3
  have x0 := HC.out.b0
  have x1 := HC.out.b1
  have x2 := HC.out.b2
  have x3 := HC.out.b3
  have d1 : decide (m < 0) = false := by simp; omega
  have d2 : decide (x.c.muts ≤ m) = false := by simp; omega
  have t1 : (o.kind == 1) = false := by rw [beq_eq_false_iff_ne]; omega
  have t2 : (o.kind == 2) = false := by rw [beq_eq_false_iff_ne]; omega
  have t3 : (o.kind == 3) = true := by rw [beq_iff_eq]; omega
  clear hn
  clear h herr hr hm hk hlen hbd
  go_enter Try.func29, Try.ntmps29
  go_wp2_with fail
  go_region_held3 (fun w' => w'.cell? ⟨b, 0, none⟩ = some (.int .i64 x.c.cells) ∧ w'.cell? ⟨b, 1, none⟩ = some (.int .i64 x.c.muts) ∧ w'.cell? ⟨b, 2, none⟩ = some (.int .i64 x.c.regs) ∧ w'.cell? ⟨b, 3, none⟩ = some (.int .i64 x.c.globs) ∧ w'.cell? ⟨w.heap.size, 0, none⟩ = some (.int .i64 o.kind) ∧ w'.cell? ⟨w.heap.size, 1, none⟩ = some (.int .i64 o.a) ∧ w'.cell? ⟨w.heap.size, 2, none⟩ = some (.int .i64 o.b) ∧ w'.cell? ⟨w.heap.size, 3, none⟩ = some (.int .i64 o.c))
    (first
      | exact ⟨k0, k1, k2, k3, x0, x1, x2, x3⟩
      | exact ⟨HC.out.k0, HC.out.k1, HC.out.k2, HC.out.k3, HC.out.b0, HC.out.b1, HC.out.b2, HC.out.b3⟩)
    (first | (go_at_call 55; refine (rcheck_c (by repeat (first | exact HC.out | apply RCur.drew | apply RCur.drewN)) x.c).mono ?_; rintro e w2 ⟨rfl, hc2⟩; rw [HERR.out]; have HC' := Lib.hid hc2; clear HC; have HC := HC'; clear hc2 HC'))
  rename_i hHeld
  clear hHeld k0 k1 k2 k3 x0 x1 x2 x3 d1 d2
  have x0 := HC.out.b0
  have x1 := HC.out.b1
  have x2 := HC.out.b2
  have x3 := HC.out.b3
  go_wp2_with fail
  refine (rreg_c (by repeat (first | exact HC.out | apply RCur.drew | apply RCur.drewN)) m o.b (by have := HLEN.out; (try simp only [RSto.put, List.length_append, List.length_singleton]); omega)).mono ?_
  rintro e w3 ⟨rfl, hc3⟩
  have HC' := Lib.hid hc3
  clear HC
  have HC := HC'
  clear hc3 HC'
  have x3 := HC.out.b3
  go_wp2_with fail
  refine (rreg_c (by repeat (first | exact HC.out | apply RCur.drew | apply RCur.drewN)) m o.c (by have := HLEN.out; (try simp only [RSto.put, List.length_append, List.length_singleton]); omega)).mono ?_
  rintro e w4 ⟨rfl, hc4⟩
  have HC' := Lib.hid hc4
  clear HC
  have HC := HC'
  clear hc4 HC'
  have k5 := HC.out.k5
  clear x0 x1 x2 x3
  go_wp2_with fail
  refine (rput_c (by repeat (first | exact HC.out | apply RCur.drew | apply RCur.drewN)) 2 x.n 0 (x.reg m o.b) (by have := HLEN.out; (try simp only [RSto.put, List.length_append, List.length_singleton]); omega)).mono ?_
  rintro e w5 ⟨rfl, hc5⟩
  have HC' := Lib.hid hc5
  clear HC
  have HC := HC'
  clear hc5 HC'
  clear k5
  have k5 : w5.cell? ⟨b, 5, none⟩ = some (.int .i64 x.n) := HC.out.k5
  go_wp2_with fail
  refine (rput_c (by repeat (first | exact HC.out | apply RCur.drew | apply RCur.drewN)) 3 x.n 0 (x.reg m o.c) (by have := HLEN.out; (try simp only [RSto.put, List.length_append, List.length_singleton]); omega)).mono ?_
  rintro e w6 ⟨rfl, hc6⟩
  have HC' := Lib.hid hc6
  clear HC
  have HC := HC'
  clear hc6 HC'
  clear k5
  have k5 : w6.cell? ⟨b, 5, none⟩ = some (.int .i64 x.n) := HC.out.k5
  have y1 := HC.out.b1
  go_wp2_with fail
  go_region_held3 (fun w' => w'.cell? ⟨w.heap.size, 1, none⟩ = some (.int .i64 o.a) ∧ w'.cell? ⟨b, 5, none⟩ = some (.int .i64 x.n))
    (first
      | exact ⟨y1, k5⟩
      | exact ⟨HC.out.b1, HC.out.k5⟩)
    (first
      | (go_at_call 56; refine (rput_c (by repeat (first | exact HC.out | apply RCur.drew | apply RCur.drewN)) 0 m o.a (x.n * 2 + 1) (by have := HLEN.out; (try simp only [RSto.put, List.length_append, List.length_singleton]); omega)).mono ?_; rintro e w7 ⟨rfl, hc7⟩; have HC' := Lib.hid hc7; clear HC; have HC := HC'; clear hc7 HC'))
  all_goals
    clear y1 k5
    rename_i hHeld
    clear hHeld
    have k5 : w7.cell? ⟨b, 5, none⟩ = some (.int .i64 x.n) := HC.out.k5
    have f5 : w7.frozen? ⟨b, 5, none⟩ = false := HC.out.f5
    have HC' : Hid (RCur w o T b _ _) := HC.out.setN (x.n + 1)
    go_wp2_with fail
    go_ret
    exact ⟨rfl, HC'.out.fin⟩
end Go.Proofs.Ytoapbfglpcebmaa

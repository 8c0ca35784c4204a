/- The contract of mudlarkref09 Do: the other kinds, and all of them. -/
import Derived.Test.YtoapbfglpcebmaaRDo
namespace Go.Proofs.Ytoapbfglpcebmaa
open Go Go.RowKit
set_option linter.unusedSimpArgs false
set_option linter.unusedVariables false

set_option maxHeartbeats 4000000 in
set_option maxRecDepth 100000 in
theorem rdo_8 (w : World) (T : Nat → Prop) (b : Nat) (x : RSto) (h : IsR w T b x) (m : Int) (o : Opr) (full : Bool) (hlen : x.puts.length ≤ 99990)
    (hbd : ∀ m r, 0 ≤ x.reg m r ∧ x.reg m r < 18446744073709551616) (hm : 0 ≤ m ∧ m < x.c.muts) (herr : o.err x.c = 0) (hk : o.kind = 8) (h63 : o.b < 9223372036854775808) :
    Calls Try.prog 29 #[.pointer (some ⟨b, 0, none⟩), .int .i64 m, o.v, .bool full] w (RPost w T b (x.did m o full)) := by
  obtain ⟨_, hr⟩ := right_of_err herr
  have HD : Hid (x.did m o full = (x.put 0 m o.a (x.get 1 o.b 0), 1)) := by unfold Hid RSto.did; rw [if_neg (by omega), if_neg (by omega), if_neg (by omega), if_neg (by omega), if_neg (by omega), if_pos hk]
  rw [HD.out]
  have HERR := Lib.hid herr
  have HLEN := Lib.hid hlen
  have HBD := Lib.hid hbd
  have HC : Hid (RCur w o T b x (w.alloc o.obj)) := RCur.start h
  have k0 := HC.out.k0
  have k1 := HC.out.k1
  have k2 := HC.out.k2
  have k3 := HC.out.k3
  have x0 := HC.out.b0
  have x1 := HC.out.b1
  have x2 := HC.out.b2
  have x3 := HC.out.b3
  have d1 : decide (m < 0) = false := by simp; omega
  have d2 : decide (x.c.muts ≤ m) = false := by simp; omega
  have t1 : (o.kind == 1) = false := by rw [beq_eq_false_iff_ne]; omega
  have t2 : (o.kind == 2) = false := by rw [beq_eq_false_iff_ne]; omega
  have t3 : (o.kind == 3) = false := by rw [beq_eq_false_iff_ne]; omega
  have t4 : (o.kind == 4) = false := by rw [beq_eq_false_iff_ne]; omega
  have t5 : (o.kind == 5) = false := by rw [beq_eq_false_iff_ne]; omega
  have t6 : (o.kind == 6) = false := by rw [beq_eq_false_iff_ne]; omega
  have t7 : (o.kind == 7) = false := by rw [beq_eq_false_iff_ne]; omega
  have t8 : (o.kind == 8) = true := by rw [beq_iff_eq]; omega
  clear h herr hr hm hk hlen hbd
  go_enter Try.func29, Try.ntmps29
  go_wp2_with fail
  go_region_held3 (fun w' => w'.cell? ⟨b, 0, none⟩ = some (.int .i64 x.c.cells) ∧ w'.cell? ⟨b, 1, none⟩ = some (.int .i64 x.c.muts) ∧ w'.cell? ⟨b, 2, none⟩ = some (.int .i64 x.c.regs) ∧ w'.cell? ⟨b, 3, none⟩ = some (.int .i64 x.c.globs) ∧ w'.cell? ⟨w.heap.size, 0, none⟩ = some (.int .i64 o.kind) ∧ w'.cell? ⟨w.heap.size, 1, none⟩ = some (.int .i64 o.a) ∧ w'.cell? ⟨w.heap.size, 2, none⟩ = some (.int .i64 o.b) ∧ w'.cell? ⟨w.heap.size, 3, none⟩ = some (.int .i64 o.c))
    (first
      | exact ⟨k0, k1, k2, k3, x0, x1, x2, x3⟩
      | exact ⟨HC.out.k0, HC.out.k1, HC.out.k2, HC.out.k3, HC.out.b0, HC.out.b1, HC.out.b2, HC.out.b3⟩)
    (first | (go_at_call 55; refine (rcheck_c (by repeat (first | exact HC.out | apply RCur.drew | apply RCur.drewN)) x.c).mono ?_; rintro e w2 ⟨rfl, hc2⟩; rw [HERR.out]; have HC' := Lib.hid hc2; clear HC; have HC := HC'; clear hc2 HC'))
  rename_i hHeld
  clear hHeld k0 k1 k2 k3 x0 x1 x2 x3 d1 d2
  have x0 := HC.out.b0
  have x1 := HC.out.b1
  have x2 := HC.out.b2
  have x3 := HC.out.b3
  have y1 := HC.out.b1
  have y2 := HC.out.b2
  go_wp2_with fail
  go_region_held3 (fun w' => w'.cell? ⟨w.heap.size, 1, none⟩ = some (.int .i64 o.a) ∧ w'.cell? ⟨w.heap.size, 2, none⟩ = some (.int .i64 o.b))
    (first
      | exact ⟨y1, y2⟩
      | exact ⟨HC.out.b1, HC.out.b2⟩)
    (first
      | (go_at_call 59; refine (rget_c (by repeat (first | exact HC.out | apply RCur.drew | apply RCur.drewN)) 1 o.b 0 (by have := HLEN.out; (try simp only [RSto.put, List.length_append, List.length_singleton]); omega)).mono ?_; rintro e w3 ⟨rfl, hc3⟩; have HC' := Lib.hid hc3; clear HC; have HC := HC'; clear hc3 HC')
      | (go_at_call 56; refine (rput_c (by repeat (first | exact HC.out | apply RCur.drew | apply RCur.drewN)) 0 m o.a (x.get 1 o.b 0) (by have := HLEN.out; (try simp only [RSto.put, List.length_append, List.length_singleton]); omega)).mono ?_; rintro e w4 ⟨rfl, hc4⟩; have HC' := Lib.hid hc4; clear HC; have HC := HC'; clear hc4 HC'))
  all_goals
    go_wp2_with fail
    go_ret
    exact ⟨rfl, (show RCur w o T b _ _ from by repeat (first | exact HC.out | apply RCur.drew | apply RCur.drewN)).fin⟩
set_option maxHeartbeats 4000000 in
set_option maxRecDepth 100000 in
theorem rdo_9 (w : World) (T : Nat → Prop) (b : Nat) (x : RSto) (h : IsR w T b x) (m : Int) (o : Opr) (full : Bool) (hlen : x.puts.length ≤ 99990)
    (hbd : ∀ m r, 0 ≤ x.reg m r ∧ x.reg m r < 18446744073709551616) (hm : 0 ≤ m ∧ m < x.c.muts) (herr : o.err x.c = 0) (hk : o.kind = 9) (h63 : o.b < 9223372036854775808) :
    Calls Try.prog 29 #[.pointer (some ⟨b, 0, none⟩), .int .i64 m, o.v, .bool full] w (RPost w T b (x.did m o full)) := by
  obtain ⟨_, hr⟩ := right_of_err herr
  have HD : Hid (x.did m o full = (x.put 1 o.a 0 (x.reg m o.b), 1)) := by unfold Hid RSto.did; rw [if_neg (by omega), if_neg (by omega), if_neg (by omega), if_neg (by omega), if_neg (by omega), if_neg (by omega), if_pos hk]
  rw [HD.out]
  have HERR := Lib.hid herr
  have HLEN := Lib.hid hlen
  have HBD := Lib.hid hbd
  have HC : Hid (RCur w o T b x (w.alloc o.obj)) := RCur.start h
  have k0 := HC.out.k0
  have k1 := HC.out.k1
  have k2 := HC.out.k2
  have k3 := HC.out.k3
  have x0 := HC.out.b0
  have x1 := HC.out.b1
  have x2 := HC.out.b2
  have x3 := HC.out.b3
  have d1 : decide (m < 0) = false := by simp; omega
  have d2 : decide (x.c.muts ≤ m) = false := by simp; omega
  have t1 : (o.kind == 1) = false := by rw [beq_eq_false_iff_ne]; omega
  have t2 : (o.kind == 2) = false := by rw [beq_eq_false_iff_ne]; omega
  have t3 : (o.kind == 3) = false := by rw [beq_eq_false_iff_ne]; omega
  have t4 : (o.kind == 4) = false := by rw [beq_eq_false_iff_ne]; omega
  have t5 : (o.kind == 5) = false := by rw [beq_eq_false_iff_ne]; omega
  have t6 : (o.kind == 6) = false := by rw [beq_eq_false_iff_ne]; omega
  have t7 : (o.kind == 7) = false := by rw [beq_eq_false_iff_ne]; omega
  have t8 : (o.kind == 8) = false := by rw [beq_eq_false_iff_ne]; omega
  have t9 : (o.kind == 9) = true := by rw [beq_iff_eq]; omega
  clear h herr hr hm hk hlen hbd
  go_enter Try.func29, Try.ntmps29
  go_wp2_with fail
  go_region_held3 (fun w' => w'.cell? ⟨b, 0, none⟩ = some (.int .i64 x.c.cells) ∧ w'.cell? ⟨b, 1, none⟩ = some (.int .i64 x.c.muts) ∧ w'.cell? ⟨b, 2, none⟩ = some (.int .i64 x.c.regs) ∧ w'.cell? ⟨b, 3, none⟩ = some (.int .i64 x.c.globs) ∧ w'.cell? ⟨w.heap.size, 0, none⟩ = some (.int .i64 o.kind) ∧ w'.cell? ⟨w.heap.size, 1, none⟩ = some (.int .i64 o.a) ∧ w'.cell? ⟨w.heap.size, 2, none⟩ = some (.int .i64 o.b) ∧ w'.cell? ⟨w.heap.size, 3, none⟩ = some (.int .i64 o.c))
    (first
      | exact ⟨k0, k1, k2, k3, x0, x1, x2, x3⟩
      | exact ⟨HC.out.k0, HC.out.k1, HC.out.k2, HC.out.k3, HC.out.b0, HC.out.b1, HC.out.b2, HC.out.b3⟩)
    (first | (go_at_call 55; refine (rcheck_c (by repeat (first | exact HC.out | apply RCur.drew | apply RCur.drewN)) x.c).mono ?_; rintro e w2 ⟨rfl, hc2⟩; rw [HERR.out]; have HC' := Lib.hid hc2; clear HC; have HC := HC'; clear hc2 HC'))
  rename_i hHeld
  clear hHeld k0 k1 k2 k3 x0 x1 x2 x3 d1 d2
  have x0 := HC.out.b0
  have x1 := HC.out.b1
  have x2 := HC.out.b2
  have x3 := HC.out.b3
  have y1 := HC.out.b1
  have y2 := HC.out.b2
  go_wp2_with fail
  go_region_held3 (fun w' => w'.cell? ⟨w.heap.size, 1, none⟩ = some (.int .i64 o.a) ∧ w'.cell? ⟨w.heap.size, 2, none⟩ = some (.int .i64 o.b))
    (first
      | exact ⟨y1, y2⟩
      | exact ⟨HC.out.b1, HC.out.b2⟩)
    (first
      | (go_at_call 57; refine (rreg_c (by repeat (first | exact HC.out | apply RCur.drew | apply RCur.drewN)) m o.b (by have := HLEN.out; (try simp only [RSto.put, List.length_append, List.length_singleton]); omega)).mono ?_; rintro e w3 ⟨rfl, hc3⟩; have HC' := Lib.hid hc3; clear HC; have HC := HC'; clear hc3 HC')
      | (go_at_call 56; refine (rput_c (by repeat (first | exact HC.out | apply RCur.drew | apply RCur.drewN)) 1 o.a 0 (x.reg m o.b) (by have := HLEN.out; (try simp only [RSto.put, List.length_append, List.length_singleton]); omega)).mono ?_; rintro e w4 ⟨rfl, hc4⟩; have HC' := Lib.hid hc4; clear HC; have HC := HC'; clear hc4 HC'))
  all_goals
    go_wp2_with fail
    go_ret
    exact ⟨rfl, (show RCur w o T b _ _ from by repeat (first | exact HC.out | apply RCur.drew | apply RCur.drewN)).fin⟩
set_option maxHeartbeats 4000000 in
set_option maxRecDepth 100000 in
theorem rdo_11 (w : World) (T : Nat → Prop) (b : Nat) (x : RSto) (h : IsR w T b x) (m : Int) (o : Opr) (full : Bool) (hlen : x.puts.length ≤ 99990)
    (hbd : ∀ m r, 0 ≤ x.reg m r ∧ x.reg m r < 18446744073709551616) (hm : 0 ≤ m ∧ m < x.c.muts) (herr : o.err x.c = 0) (hk : o.kind = 11) (h63 : o.b < 9223372036854775808) :
    Calls Try.prog 29 #[.pointer (some ⟨b, 0, none⟩), .int .i64 m, o.v, .bool full] w (RPost w T b (x.did m o full)) := by
  obtain ⟨_, hr⟩ := right_of_err herr
  have hq : (if decide (numb (x.reg m o.a) < 0) = true then (2 : Int) else 3) = (if numb (x.reg m o.a) < 0 then 2 else 3) := by simp
  have HD : Hid (x.did m o full = (x, if numb (x.reg m o.a) < 0 then 2 else 3)) := by unfold Hid RSto.did; rw [if_neg (by omega), if_neg (by omega), if_neg (by omega), if_neg (by omega), if_neg (by omega), if_neg (by omega), if_neg (by omega), if_neg (by omega)]
  rw [HD.out]
  generalize (if numb (x.reg m o.a) < 0 then (2 : Int) else 3) = q at hq ⊢
  have HQ := Lib.hid hq
  clear hq
  have HERR := Lib.hid herr
  have HLEN := Lib.hid hlen
  have HBD := Lib.hid hbd
  have HC : Hid (RCur w o T b x (w.alloc o.obj)) := RCur.start h
  have k0 := HC.out.k0
  have k1 := HC.out.k1
  have k2 := HC.out.k2
  have k3 := HC.out.k3
  have x0 := HC.out.b0
  have x1 := HC.out.b1
  have x2 := HC.out.b2
  have x3 := HC.out.b3
  have d1 : decide (m < 0) = false := by simp; omega
  have d2 : decide (x.c.muts ≤ m) = false := by simp; omega
  have t1 : (o.kind == 1) = false := by rw [beq_eq_false_iff_ne]; omega
  have t2 : (o.kind == 2) = false := by rw [beq_eq_false_iff_ne]; omega
  have t3 : (o.kind == 3) = false := by rw [beq_eq_false_iff_ne]; omega
  have t4 : (o.kind == 4) = false := by rw [beq_eq_false_iff_ne]; omega
  have t5 : (o.kind == 5) = false := by rw [beq_eq_false_iff_ne]; omega
  have t6 : (o.kind == 6) = false := by rw [beq_eq_false_iff_ne]; omega
  have t7 : (o.kind == 7) = false := by rw [beq_eq_false_iff_ne]; omega
  have t8 : (o.kind == 8) = false := by rw [beq_eq_false_iff_ne]; omega
  have t9 : (o.kind == 9) = false := by rw [beq_eq_false_iff_ne]; omega
  have t10 : (o.kind == 10) = false := by rw [beq_eq_false_iff_ne]; omega
  have t11 : (o.kind == 11) = true := by rw [beq_iff_eq]; omega
  clear h herr hr hm hk hlen hbd
  go_enter Try.func29, Try.ntmps29
  go_wp2_with fail
  go_region_held3 (fun w' => w'.cell? ⟨b, 0, none⟩ = some (.int .i64 x.c.cells) ∧ w'.cell? ⟨b, 1, none⟩ = some (.int .i64 x.c.muts) ∧ w'.cell? ⟨b, 2, none⟩ = some (.int .i64 x.c.regs) ∧ w'.cell? ⟨b, 3, none⟩ = some (.int .i64 x.c.globs) ∧ w'.cell? ⟨w.heap.size, 0, none⟩ = some (.int .i64 o.kind) ∧ w'.cell? ⟨w.heap.size, 1, none⟩ = some (.int .i64 o.a) ∧ w'.cell? ⟨w.heap.size, 2, none⟩ = some (.int .i64 o.b) ∧ w'.cell? ⟨w.heap.size, 3, none⟩ = some (.int .i64 o.c))
    (first
      | exact ⟨k0, k1, k2, k3, x0, x1, x2, x3⟩
      | exact ⟨HC.out.k0, HC.out.k1, HC.out.k2, HC.out.k3, HC.out.b0, HC.out.b1, HC.out.b2, HC.out.b3⟩)
    (first | (go_at_call 55; refine (rcheck_c (by repeat (first | exact HC.out | apply RCur.drew | apply RCur.drewN)) x.c).mono ?_; rintro e w2 ⟨rfl, hc2⟩; rw [HERR.out]; have HC' := Lib.hid hc2; clear HC; have HC := HC'; clear hc2 HC'))
  rename_i hHeld
  clear hHeld k0 k1 k2 k3 x0 x1 x2 x3 d1 d2
  have x0 := HC.out.b0
  have x1 := HC.out.b1
  have x2 := HC.out.b2
  have x3 := HC.out.b3
  go_wp2_with fail
  refine (rreg_c (by repeat (first | exact HC.out | apply RCur.drew | apply RCur.drewN)) m o.a (by have := HLEN.out; (try simp only [RSto.put, List.length_append, List.length_singleton]); omega)).mono ?_
  rintro e w3 ⟨rfl, hc3⟩
  have HC' := Lib.hid hc3
  clear HC
  have HC := HC'
  clear hc3 HC'
  go_wp2_with fail
  refine (rnumb_c _ _ (HBD.out m o.a)).mono ?_
  rintro e w4 ⟨rfl, hw⟩
  obtain rfl := hw.symm
  clear hw
  go_wp2_with fail
  refine (rtruth_any _ _).mono ?_
  rintro e w5 ⟨rfl, hw⟩
  obtain rfl := hw.symm
  clear hw
  rw [HQ.out]
  clear x0 x1 x2 x3
  go_wp2_with fail
  go_ret
  exact ⟨rfl, (show RCur w o T b _ _ from by repeat (first | exact HC.out | apply RCur.drew | apply RCur.drewN)).fin⟩
set_option maxHeartbeats 4000000 in
set_option maxRecDepth 100000 in
theorem rdo_3f (w : World) (T : Nat → Prop) (b : Nat) (x : RSto) (h : IsR w T b x) (m : Int) (o : Opr) (full : Bool) (hlen : x.puts.length ≤ 99990)
    (hbd : ∀ m r, 0 ≤ x.reg m r ∧ x.reg m r < 18446744073709551616) (hm : 0 ≤ m ∧ m < x.c.muts) (herr : o.err x.c = 0) (hk : o.kind = 3) (h63 : o.b < 9223372036854775808) (hf : full = true) :
    Calls Try.prog 29 #[.pointer (some ⟨b, 0, none⟩), .int .i64 m, o.v, .bool full] w (RPost w T b (x.did m o full)) := by
  obtain ⟨_, hr⟩ := right_of_err herr
  subst hf
  have HD : Hid (x.did m o true = (x, 5)) := by unfold Hid RSto.did; rw [if_neg (by omega), if_neg (by omega), if_pos hk, if_pos rfl]
  rw [HD.out]
  have HERR := Lib.hid herr
  have HLEN := Lib.hid hlen
  have HBD := Lib.hid hbd
  have HC : Hid (RCur w o T b x (w.alloc o.obj)) := RCur.start h
  have k0 := HC.out.k0
  have k1 := HC.out.k1
  have k2 := HC.out.k2
  have k3 := HC.out.k3
  have x0 := HC.out.b0
  have x1 := HC.out.b1
  have x2 := HC.out.b2
  have x3 := HC.out.b3
  have d1 : decide (m < 0) = false := by simp; omega
  have d2 : decide (x.c.muts ≤ m) = false := by simp; omega
  have t1 : (o.kind == 1) = false := by rw [beq_eq_false_iff_ne]; omega
  have t2 : (o.kind == 2) = false := by rw [beq_eq_false_iff_ne]; omega
  have t3 : (o.kind == 3) = true := by rw [beq_iff_eq]; omega
  clear h herr hr hm hk hlen hbd
  go_enter Try.func29, Try.ntmps29
  go_wp2_with fail
  go_region_held3 (fun w' => w'.cell? ⟨b, 0, none⟩ = some (.int .i64 x.c.cells) ∧ w'.cell? ⟨b, 1, none⟩ = some (.int .i64 x.c.muts) ∧ w'.cell? ⟨b, 2, none⟩ = some (.int .i64 x.c.regs) ∧ w'.cell? ⟨b, 3, none⟩ = some (.int .i64 x.c.globs) ∧ w'.cell? ⟨w.heap.size, 0, none⟩ = some (.int .i64 o.kind) ∧ w'.cell? ⟨w.heap.size, 1, none⟩ = some (.int .i64 o.a) ∧ w'.cell? ⟨w.heap.size, 2, none⟩ = some (.int .i64 o.b) ∧ w'.cell? ⟨w.heap.size, 3, none⟩ = some (.int .i64 o.c))
    (first
      | exact ⟨k0, k1, k2, k3, x0, x1, x2, x3⟩
      | exact ⟨HC.out.k0, HC.out.k1, HC.out.k2, HC.out.k3, HC.out.b0, HC.out.b1, HC.out.b2, HC.out.b3⟩)
    (first | (go_at_call 55; refine (rcheck_c (by repeat (first | exact HC.out | apply RCur.drew | apply RCur.drewN)) x.c).mono ?_; rintro e w2 ⟨rfl, hc2⟩; rw [HERR.out]; have HC' := Lib.hid hc2; clear HC; have HC := HC'; clear hc2 HC'))
  rename_i hHeld
  clear hHeld k0 k1 k2 k3 x0 x1 x2 x3 d1 d2
  have x0 := HC.out.b0
  have x1 := HC.out.b1
  have x2 := HC.out.b2
  have x3 := HC.out.b3
  clear x1 x2 x3
  go_wp2_with fail
  go_ret
  exact ⟨rfl, (show RCur w o T b _ _ from by repeat (first | exact HC.out | apply RCur.drew | apply RCur.drewN)).fin⟩
set_option maxHeartbeats 4000000 in
set_option maxRecDepth 100000 in
theorem rdo_bad (w : World) (T : Nat → Prop) (b : Nat) (x : RSto) (h : IsR w T b x) (m : Int) (o : Opr) (full : Bool) (hf : ¬ x.fits m o = true) :
    Calls Try.prog 29 #[.pointer (some ⟨b, 0, none⟩), .int .i64 m, o.v, .bool full] w (RPost w T b (x, 6)) := by
  have HC : Hid (RCur w o T b x (w.alloc o.obj)) := RCur.start h
  have k0 := HC.out.k0
  have k1 := HC.out.k1
  have k2 := HC.out.k2
  have k3 := HC.out.k3
  have x0 := HC.out.b0
  have x1 := HC.out.b1
  have x2 := HC.out.b2
  have x3 := HC.out.b3
  clear h
  by_cases h0 : m < 0
  · have d1 : decide (m < 0) = true := by simpa using h0
    clear hf h0 k0 k1 k2 k3 x0 x1 x2 x3
    go_enter Try.func29, Try.ntmps29
    go_wp2_with fail
    go_quiet (fail)
    go_wp2_with fail
    go_ret
    exact ⟨rfl, (HC.out.drewN _).fin⟩
  have d1 : decide (m < 0) = false := by simpa using h0
  by_cases h1 : x.c.muts ≤ m
  · have d2 : decide (x.c.muts ≤ m) = true := by simpa using h1
    clear hf h0 h1 k0 k2 k3 x0 x1 x2 x3
    go_enter Try.func29, Try.ntmps29
    go_wp2_with fail
    go_quiet (fail)
    go_wp2_with fail
    go_ret
    exact ⟨rfl, (HC.out.drewN _).fin⟩
  have d2 : decide (x.c.muts ≤ m) = false := by simpa using h1
  obtain ⟨er, her⟩ : ∃ er, o.err x.c = er := ⟨_, rfl⟩
  have HERR := Lib.hid her
  have hne : (er != 0) = true := by
    unfold RSto.fits at hf
    rw [Bool.and_eq_true, decide_eq_true_iff, beq_iff_eq] at hf
    rw [bne_iff_ne]
    intro e
    exact hf ⟨by omega, her.trans e⟩
  clear hf h0 h1 her
  go_enter Try.func29, Try.ntmps29
  go_wp2_with fail
  go_region_held3 (fun w' => w'.cell? ⟨b, 0, none⟩ = some (.int .i64 x.c.cells) ∧ w'.cell? ⟨b, 1, none⟩ = some (.int .i64 x.c.muts) ∧ w'.cell? ⟨b, 2, none⟩ = some (.int .i64 x.c.regs) ∧ w'.cell? ⟨b, 3, none⟩ = some (.int .i64 x.c.globs) ∧ w'.cell? ⟨w.heap.size, 0, none⟩ = some (.int .i64 o.kind) ∧ w'.cell? ⟨w.heap.size, 1, none⟩ = some (.int .i64 o.a) ∧ w'.cell? ⟨w.heap.size, 2, none⟩ = some (.int .i64 o.b) ∧ w'.cell? ⟨w.heap.size, 3, none⟩ = some (.int .i64 o.c))
    (first
      | exact ⟨k0, k1, k2, k3, x0, x1, x2, x3⟩
      | exact ⟨HC.out.k0, HC.out.k1, HC.out.k2, HC.out.k3, HC.out.b0, HC.out.b1, HC.out.b2, HC.out.b3⟩)
    (first | (go_at_call 55; refine (rcheck_c (by repeat (first | exact HC.out | apply RCur.drew | apply RCur.drewN)) x.c).mono ?_; rintro e w2 ⟨rfl, hc2⟩; rw [HERR.out]; have HC' := Lib.hid hc2; clear HC; have HC := HC'; clear hc2 HC'))
  all_goals
    go_wp2_with fail
    go_ret
    exact ⟨rfl, (show RCur w o T b _ _ from by repeat (first | exact HC.out | apply RCur.drew | apply RCur.drewN)).fin⟩
end Go.Proofs.Ytoapbfglpcebmaa

/- The contract of mudlarkref09 Do, kind by kind. -/
import Derived.Test.YtoapbfglpcebmaaRPut
import Derived.Test.YtoapbfglpcebmaaIdealDo
namespace Go.Proofs.Ytoapbfglpcebmaa
open Go Go.RowKit
set_option linter.unusedSimpArgs false
set_option linter.unusedVariables false

/-- the store as it is while Do runs: o lies boxed behind what there was -/
structure RCur (w : World) (o : Opr) (T : Nat → Prop) (b : Nat) (x : RSto) (wc : World) : Prop where
  st : IsR wc (fun y => (T y ∧ y < w.heap.size) ∨ (w.heap.size < y ∧ y < wc.heap.size)) b x
  kp : Keep T w wc
  bx : wc.heap[w.heap.size]? = some o.obj
section
variable {w wc w' : World} {o : Opr} {T : Nat → Prop} {b : Nat} {x : RSto}
theorem RCur.start (h : IsR w T b x) : RCur w o T b x (w.alloc o.obj) where
  st := by
    obtain ⟨v, h⟩ := h
    have h1 := h.below ((Below.refl _ _).alloc (Nat.le_refl _) o.obj)
    exact ⟨v, { h1 with tb := Or.inl ⟨h.tb, h.lt⟩, tv := fun g hg => Or.inl ⟨h.tv g hg, (h.rows.lt g hg).2⟩ }⟩
  kp := (Keep.refl T w).alloc o.obj
  bx := heap_alloc_new w o.obj
theorem RCur.below (h : RCur w o T b x wc) (k : Below wc.heap.size wc w') : RCur w o T b x w' where
  st := (h.st.below k).wide (fun y hy => hy.imp id (fun hy => ⟨hy.1, Nat.lt_of_lt_of_le hy.2 k.size⟩))
  kp := h.kp.trans (Keep.of_below k T)
  bx := (k.block _ (block_lt h.bx)).trans h.bx
theorem RCur.drew (h : RCur w o T b x wc) : RCur w o T b x wc.drew := ⟨h.st.drew, h.kp.drew, h.bx⟩
theorem RCur.drewN (h : RCur w o T b x wc) (n : Nat) : RCur w o T b x (wc.drewN n) := ⟨h.st.drewN n, h.kp.drewN n, h.bx⟩
theorem RCur.did (h : RCur w o T b x wc) {x' : RSto} (h1 : IsR w' (fun y => ((T y ∧ y < w.heap.size) ∨ (w.heap.size < y ∧ y < wc.heap.size)) ∨ (wc.heap.size ≤ y ∧ y < w'.heap.size)) b x') (k : Keep (fun y => (T y ∧ y < w.heap.size) ∨ (w.heap.size < y ∧ y < wc.heap.size)) wc w') : RCur w o T b x' w' where
  st := h1.wide (fun y hy => by
    have := block_lt h.bx
    have := k.size
    rcases hy with (hy | hy) | hy
    · exact Or.inl hy
    · exact Or.inr (by omega)
    · exact Or.inr (by omega))
  kp := h.kp.then_ k (fun i hi hy => by
    rcases hy with hy | hy
    · exact hy.1
    · omega)
  bx := k.at_ h.bx (fun hy => by omega)
theorem RCur.cells (h : RCur w o T b x wc) : wc.cell? ⟨w.heap.size, 0, none⟩ = some (.int .i64 o.kind) ∧ wc.cell? ⟨w.heap.size, 1, none⟩ = some (.int .i64 o.a) ∧ wc.cell? ⟨w.heap.size, 2, none⟩ = some (.int .i64 o.b) ∧ wc.cell? ⟨w.heap.size, 3, none⟩ = some (.int .i64 o.c) := opr_cells h.bx
theorem RCur.b0 (h : RCur w o T b x wc) : wc.cell? ⟨w.heap.size, 0, none⟩ = some (.int .i64 o.kind) := h.cells.1
theorem RCur.b1 (h : RCur w o T b x wc) : wc.cell? ⟨w.heap.size, 1, none⟩ = some (.int .i64 o.a) := h.cells.2.1
theorem RCur.b2 (h : RCur w o T b x wc) : wc.cell? ⟨w.heap.size, 2, none⟩ = some (.int .i64 o.b) := h.cells.2.2.1
theorem RCur.b3 (h : RCur w o T b x wc) : wc.cell? ⟨w.heap.size, 3, none⟩ = some (.int .i64 o.c) := h.cells.2.2.2
theorem RCur.k0 (h : RCur w o T b x wc) : wc.cell? ⟨b, 0, none⟩ = some (.int .i64 x.c.cells) := h.st.hc.1
theorem RCur.k1 (h : RCur w o T b x wc) : wc.cell? ⟨b, 1, none⟩ = some (.int .i64 x.c.muts) := h.st.hc.2.1
theorem RCur.k2 (h : RCur w o T b x wc) : wc.cell? ⟨b, 2, none⟩ = some (.int .i64 x.c.regs) := h.st.hc.2.2.1
theorem RCur.k3 (h : RCur w o T b x wc) : wc.cell? ⟨b, 3, none⟩ = some (.int .i64 x.c.globs) := h.st.hc.2.2.2.1
theorem RCur.k5 (h : RCur w o T b x wc) : wc.cell? ⟨b, 5, none⟩ = some (.int .i64 x.n) := h.st.hc.2.2.2.2.1
theorem RCur.f5 (h : RCur w o T b x wc) : wc.frozen? ⟨b, 5, none⟩ = false := h.st.hc.2.2.2.2.2
theorem RCur.setN (h : RCur w o T b x wc) (n : Int) : RCur w o T b { x with n := n } (wc.setCell ⟨b, 5, none⟩ (.int .i64 n)) where
  st := by simpa [World.setCell] using h.st.setN n
  kp := by
    refine h.kp.then_ (Keep.setCell (S := fun y => y = b) (Keep.refl _ _) (Or.inl rfl) _) (fun i hi e => ?_)
    subst e
    rcases h.st.tb with hy | hy
    · exact hy.1
    · omega
  bx := by
    have hn : b ≠ w.heap.size := by
      rcases h.st.tb with hy | hy <;> omega
    exact ((Keep.setCell (S := fun y => y = b) (Keep.refl _ wc) (p := ⟨b, 5, none⟩) (Or.inl rfl) (.int .i64 n)).at_ h.bx (fun e => hn e.symm))
theorem RCur.fin (h : RCur w o T b x wc) : IsR wc (fun y => T y ∨ (w.heap.size ≤ y ∧ y < wc.heap.size)) b x ∧ Keep T w wc :=
  ⟨h.st.wide (fun y hy => hy.imp (fun h => h.1) (fun h => ⟨Nat.le_of_lt h.1, h.2⟩)), h.kp⟩
end
theorem rput_c {w wc : World} {o : Opr} {T : Nat → Prop} {b : Nat} {x : RSto} (h : RCur w o T b x wc) (k a c' u : Int) (hlen : x.puts.length ≤ 100000) :
    Calls Try.prog 56 #[.pointer (some ⟨b, 0, none⟩), .int .i64 k, .int .i64 a, .int .i64 c', .int .u64 u] wc fun e w' => e = .returned (.tuple #[]) ∧ RCur w o T b (x.put k a c' u) w' := by
  refine (rput_any wc _ b x h.st k a c' u hlen).mono ?_
  rintro e w' ⟨he, h1, hk⟩
  exact ⟨he, h.did h1 hk⟩
theorem rget_c {w wc : World} {o : Opr} {T : Nat → Prop} {b : Nat} {x : RSto} (h : RCur w o T b x wc) (k a c' : Int) (hlen : x.puts.length ≤ 100000) :
    Calls Try.prog 59 #[.pointer (some ⟨b, 0, none⟩), .int .i64 k, .int .i64 a, .int .i64 c'] wc fun e w' => e = .returned (.int .u64 (x.get k a c')) ∧ RCur w o T b x w' := by
  refine (rget_is wc _ b x h.st k a c' hlen).mono ?_
  rintro e w' ⟨he, hb⟩
  exact ⟨he, h.below hb⟩
theorem rreg_c {w wc : World} {o : Opr} {T : Nat → Prop} {b : Nat} {x : RSto} (h : RCur w o T b x wc) (m r : Int) (hlen : x.puts.length ≤ 100000) :
    Calls Try.prog 57 #[.pointer (some ⟨b, 0, none⟩), .int .i64 m, .int .i64 r] wc fun e w' => e = .returned (.int .u64 (x.reg m r)) ∧ RCur w o T b x w' := by
  refine (rreg_is wc _ b x h.st m r hlen).mono ?_
  rintro e w' ⟨he, hb⟩
  exact ⟨he, h.below hb⟩
theorem rcheck_c {w wc : World} {o : Opr} {T : Nat → Prop} {b : Nat} {x : RSto} (h : RCur w o T b x wc) (c : Cfg) :
    Calls Try.prog 55 #[c.v, o.v] wc fun e w' => e = .returned (.int .i64 (o.err c)) ∧ RCur w o T b x w' := by
  refine (refcheck_any wc c o).mono ?_
  rintro e w' ⟨he, hb⟩
  exact ⟨he, h.below hb⟩
theorem rnumb_c (w : World) (a : Int) (h : 0 ≤ a ∧ a < 18446744073709551616) :
    Calls Try.prog 58 #[.int .u64 a] w fun e w' => e = .returned (.int .i64 (numb a)) ∧ w' = w := rnumber_any w a h.1 h.2
def RPost (w : World) (T : Nat → Prop) (b : Nat) (r : RSto × Int) (e : Ending) (w' : World) : Prop :=
  e = .returned (.int .i64 r.2) ∧ IsR w' (fun y => T y ∨ (w.heap.size ≤ y ∧ y < w'.heap.size)) b r.1 ∧ Keep T w w'

set_option maxHeartbeats 4000000 in
set_option maxRecDepth 100000 in
theorem rdo_1 (w : World) (T : Nat → Prop) (b : Nat) (x : RSto) (h : IsR w T b x) (m : Int) (o : Opr) (full : Bool) (hlen : x.puts.length ≤ 99990)
    (hbd : ∀ m r, 0 ≤ x.reg m r ∧ x.reg m r < 18446744073709551616) (hm : 0 ≤ m ∧ m < x.c.muts) (herr : o.err x.c = 0) (hk : o.kind = 1) (h63 : o.b < 9223372036854775808) :
    Calls Try.prog 29 #[.pointer (some ⟨b, 0, none⟩), .int .i64 m, o.v, .bool full] w (RPost w T b (x.did m o full)) := by
  obtain ⟨_, hr⟩ := right_of_err herr
  have hb0 := hr.b1 hk
  have HD : Hid (x.did m o full = (x.put 0 m o.a (o.b * 2), 1)) := by unfold Hid RSto.did; rw [if_pos hk]
  rw [HD.out]
  have s2 : IntKind.u64.wrap o.b = o.b := by rw [IntKind.wrap_u64]; omega
  have s4 : IntKind.u64.wrap (o.b * 2) = o.b * 2 := by rw [IntKind.wrap_u64]; omega
  have HERR := Lib.hid herr
  have HLEN := Lib.hid hlen
  have HBD := Lib.hid hbd
  have HC : Hid (RCur w o T b x (w.alloc o.obj)) := RCur.start h
  have k0 := HC.out.k0
  have k1 := HC.out.k1
  have k2 := HC.out.k2
  have k3 := HC.out.k3
  have x0 := HC.out.b0
  have x1 := HC.out.b1
  have x2 := HC.out.b2
  have x3 := HC.out.b3
  have d1 : decide (m < 0) = false := by simp; omega
  have d2 : decide (x.c.muts ≤ m) = false := by simp; omega
  have t1 : (o.kind == 1) = true := by rw [beq_iff_eq]; omega
  clear h herr hr hm hk hlen hbd
  go_enter Try.func29, Try.ntmps29
  go_wp2_with fail
  go_region_held3 (fun w' => w'.cell? ⟨b, 0, none⟩ = some (.int .i64 x.c.cells) ∧ w'.cell? ⟨b, 1, none⟩ = some (.int .i64 x.c.muts) ∧ w'.cell? ⟨b, 2, none⟩ = some (.int .i64 x.c.regs) ∧ w'.cell? ⟨b, 3, none⟩ = some (.int .i64 x.c.globs) ∧ w'.cell? ⟨w.heap.size, 0, none⟩ = some (.int .i64 o.kind) ∧ w'.cell? ⟨w.heap.size, 1, none⟩ = some (.int .i64 o.a) ∧ w'.cell? ⟨w.heap.size, 2, none⟩ = some (.int .i64 o.b) ∧ w'.cell? ⟨w.heap.size, 3, none⟩ = some (.int .i64 o.c))
    (first
      | exact ⟨k0, k1, k2, k3, x0, x1, x2, x3⟩
      | exact ⟨HC.out.k0, HC.out.k1, HC.out.k2, HC.out.k3, HC.out.b0, HC.out.b1, HC.out.b2, HC.out.b3⟩)
    (first | (go_at_call 55; refine (rcheck_c (by repeat (first | exact HC.out | apply RCur.drew | apply RCur.drewN)) x.c).mono ?_; rintro e w2 ⟨rfl, hc2⟩; rw [HERR.out]; have HC' := Lib.hid hc2; clear HC; have HC := HC'; clear hc2 HC'))
  rename_i hHeld
  clear hHeld k0 k1 k2 k3 x0 x1 x2 x3 d1 d2
  have x0 := HC.out.b0
  have x1 := HC.out.b1
  have x2 := HC.out.b2
  have x3 := HC.out.b3
  go_wp2_with fail
  refine (rput_c (by repeat (first | exact HC.out | apply RCur.drew | apply RCur.drewN)) 0 m o.a (o.b * 2) (by have := HLEN.out; (try simp only [RSto.put, List.length_append, List.length_singleton]); omega)).mono ?_
  rintro e w3 ⟨rfl, hc3⟩
  have HC' := Lib.hid hc3
  clear HC
  have HC := HC'
  clear hc3 HC'
  clear x0 x1 x2 x3
  go_wp2_with fail
  go_ret
  exact ⟨rfl, (show RCur w o T b _ _ from by repeat (first | exact HC.out | apply RCur.drew | apply RCur.drewN)).fin⟩
set_option maxHeartbeats 4000000 in
set_option maxRecDepth 100000 in
theorem rdo_2 (w : World) (T : Nat → Prop) (b : Nat) (x : RSto) (h : IsR w T b x) (m : Int) (o : Opr) (full : Bool) (hlen : x.puts.length ≤ 99990)
    (hbd : ∀ m r, 0 ≤ x.reg m r ∧ x.reg m r < 18446744073709551616) (hm : 0 ≤ m ∧ m < x.c.muts) (herr : o.err x.c = 0) (hk : o.kind = 2) (h63 : o.b < 9223372036854775808) :
    Calls Try.prog 29 #[.pointer (some ⟨b, 0, none⟩), .int .i64 m, o.v, .bool full] w (RPost w T b (x.did m o full)) := by
  obtain ⟨_, hr⟩ := right_of_err herr
  have HD : Hid (x.did m o full = (x.put 0 m o.a (x.reg m o.b), 1)) := by unfold Hid RSto.did; rw [if_neg (by omega), if_pos hk]
  rw [HD.out]
  have HERR := Lib.hid herr
  have HLEN := Lib.hid hlen
  have HBD := Lib.hid hbd
  have HC : Hid (RCur w o T b x (w.alloc o.obj)) := RCur.start h
  have k0 := HC.out.k0
  have k1 := HC.out.k1
  have k2 := HC.out.k2
  have k3 := HC.out.k3
  have x0 := HC.out.b0
  have x1 := HC.out.b1
  have x2 := HC.out.b2
  have x3 := HC.out.b3
  have d1 : decide (m < 0) = false := by simp; omega
  have d2 : decide (x.c.muts ≤ m) = false := by simp; omega
  have t1 : (o.kind == 1) = false := by rw [beq_eq_false_iff_ne]; omega
  have t2 : (o.kind == 2) = true := by rw [beq_iff_eq]; omega
  clear h herr hr hm hk hlen hbd
  go_enter Try.func29, Try.ntmps29
  go_wp2_with fail
  go_region_held3 (fun w' => w'.cell? ⟨b, 0, none⟩ = some (.int .i64 x.c.cells) ∧ w'.cell? ⟨b, 1, none⟩ = some (.int .i64 x.c.muts) ∧ w'.cell? ⟨b, 2, none⟩ = some (.int .i64 x.c.regs) ∧ w'.cell? ⟨b, 3, none⟩ = some (.int .i64 x.c.globs) ∧ w'.cell? ⟨w.heap.size, 0, none⟩ = some (.int .i64 o.kind) ∧ w'.cell? ⟨w.heap.size, 1, none⟩ = some (.int .i64 o.a) ∧ w'.cell? ⟨w.heap.size, 2, none⟩ = some (.int .i64 o.b) ∧ w'.cell? ⟨w.heap.size, 3, none⟩ = some (.int .i64 o.c))
    (first
      | exact ⟨k0, k1, k2, k3, x0, x1, x2, x3⟩
      | exact ⟨HC.out.k0, HC.out.k1, HC.out.k2, HC.out.k3, HC.out.b0, HC.out.b1, HC.out.b2, HC.out.b3⟩)
    (first | (go_at_call 55; refine (rcheck_c (by repeat (first | exact HC.out | apply RCur.drew | apply RCur.drewN)) x.c).mono ?_; rintro e w2 ⟨rfl, hc2⟩; rw [HERR.out]; have HC' := Lib.hid hc2; clear HC; have HC := HC'; clear hc2 HC'))
  rename_i hHeld
  clear hHeld k0 k1 k2 k3 x0 x1 x2 x3 d1 d2
  have x0 := HC.out.b0
  have x1 := HC.out.b1
  have x2 := HC.out.b2
  have x3 := HC.out.b3
  have y1 := HC.out.b1
  have y2 := HC.out.b2
  go_wp2_with fail
  go_region_held3 (fun w' => w'.cell? ⟨w.heap.size, 1, none⟩ = some (.int .i64 o.a) ∧ w'.cell? ⟨w.heap.size, 2, none⟩ = some (.int .i64 o.b))
    (first
      | exact ⟨y1, y2⟩
      | exact ⟨HC.out.b1, HC.out.b2⟩)
    (first
      | (go_at_call 57; refine (rreg_c (by repeat (first | exact HC.out | apply RCur.drew | apply RCur.drewN)) m o.b (by have := HLEN.out; (try simp only [RSto.put, List.length_append, List.length_singleton]); omega)).mono ?_; rintro e w3 ⟨rfl, hc3⟩; have HC' := Lib.hid hc3; clear HC; have HC := HC'; clear hc3 HC')
      | (go_at_call 56; refine (rput_c (by repeat (first | exact HC.out | apply RCur.drew | apply RCur.drewN)) 0 m o.a (x.reg m o.b) (by have := HLEN.out; (try simp only [RSto.put, List.length_append, List.length_singleton]); omega)).mono ?_; rintro e w4 ⟨rfl, hc4⟩; have HC' := Lib.hid hc4; clear HC; have HC := HC'; clear hc4 HC'))
  all_goals
    go_wp2_with fail
    go_ret
    exact ⟨rfl, (show RCur w o T b _ _ from by repeat (first | exact HC.out | apply RCur.drew | apply RCur.drewN)).fin⟩
set_option maxHeartbeats 4000000 in
set_option maxRecDepth 100000 in
theorem rdo_4n (w : World) (T : Nat → Prop) (b : Nat) (x : RSto) (h : IsR w T b x) (m : Int) (o : Opr) (full : Bool) (hlen : x.puts.length ≤ 99990)
    (hbd : ∀ m r, 0 ≤ x.reg m r ∧ x.reg m r < 18446744073709551616) (hm : 0 ≤ m ∧ m < x.c.muts) (herr : o.err x.c = 0) (hk : o.kind = 4) (h63 : o.b < 9223372036854775808) (hn : numb (x.reg m o.b) < 0) :
    Calls Try.prog 29 #[.pointer (some ⟨b, 0, none⟩), .int .i64 m, o.v, .bool full] w (RPost w T b (x.did m o full)) := by
  obtain ⟨_, hr⟩ := right_of_err herr
  have HD : Hid (x.did m o full = (x, 4)) := by unfold Hid RSto.did; rw [if_neg (by omega), if_neg (by omega), if_neg (by omega), if_pos (Or.inl hk), if_pos hn]
  rw [HD.out]
  have dn : decide (numb (x.reg m o.b) < 0) = true := by simpa using hn
  have HERR := Lib.hid herr
  have HLEN := Lib.hid hlen
  have HBD := Lib.hid hbd
  have HC : Hid (RCur w o T b x (w.alloc o.obj)) := RCur.start h
  have k0 := HC.out.k0
  have k1 := HC.out.k1
  have k2 := HC.out.k2
  have k3 := HC.out.k3
  have x0 := HC.out.b0
  have x1 := HC.out.b1
  have x2 := HC.out.b2
  have x3 := HC.out.b3
  have d1 : decide (m < 0) = false := by simp; omega
  have d2 : decide (x.c.muts ≤ m) = false := by simp; omega
  have t1 : (o.kind == 1) = false := by rw [beq_eq_false_iff_ne]; omega
  have t2 : (o.kind == 2) = false := by rw [beq_eq_false_iff_ne]; omega
  have t3 : (o.kind == 3) = false := by rw [beq_eq_false_iff_ne]; omega
  have t4 : (o.kind == 4) = true := by rw [beq_iff_eq]; omega
  clear hn
  clear h herr hr hm hk hlen hbd
  go_enter Try.func29, Try.ntmps29
  go_wp2_with fail
  go_region_held3 (fun w' => w'.cell? ⟨b, 0, none⟩ = some (.int .i64 x.c.cells) ∧ w'.cell? ⟨b, 1, none⟩ = some (.int .i64 x.c.muts) ∧ w'.cell? ⟨b, 2, none⟩ = some (.int .i64 x.c.regs) ∧ w'.cell? ⟨b, 3, none⟩ = some (.int .i64 x.c.globs) ∧ w'.cell? ⟨w.heap.size, 0, none⟩ = some (.int .i64 o.kind) ∧ w'.cell? ⟨w.heap.size, 1, none⟩ = some (.int .i64 o.a) ∧ w'.cell? ⟨w.heap.size, 2, none⟩ = some (.int .i64 o.b) ∧ w'.cell? ⟨w.heap.size, 3, none⟩ = some (.int .i64 o.c))
    (first
      | exact ⟨k0, k1, k2, k3, x0, x1, x2, x3⟩
      | exact ⟨HC.out.k0, HC.out.k1, HC.out.k2, HC.out.k3, HC.out.b0, HC.out.b1, HC.out.b2, HC.out.b3⟩)
    (first | (go_at_call 55; refine (rcheck_c (by repeat (first | exact HC.out | apply RCur.drew | apply RCur.drewN)) x.c).mono ?_; rintro e w2 ⟨rfl, hc2⟩; rw [HERR.out]; have HC' := Lib.hid hc2; clear HC; have HC := HC'; clear hc2 HC'))
  rename_i hHeld
  clear hHeld k0 k1 k2 k3 x0 x1 x2 x3 d1 d2
  have x0 := HC.out.b0
  have x1 := HC.out.b1
  have x2 := HC.out.b2
  have x3 := HC.out.b3
  go_wp2_with fail
  refine (rreg_c (by repeat (first | exact HC.out | apply RCur.drew | apply RCur.drewN)) m o.b (by have := HLEN.out; (try simp only [RSto.put, List.length_append, List.length_singleton]); omega)).mono ?_
  rintro e w3 ⟨rfl, hc3⟩
  have HC' := Lib.hid hc3
  clear HC
  have HC := HC'
  clear hc3 HC'
  go_wp2_with fail
  refine (rnumb_c _ _ (HBD.out m o.b)).mono ?_
  rintro e w4 ⟨rfl, hw⟩
  obtain rfl := hw.symm
  clear hw
  clear x0 x1 x2 x3
  go_wp2_with fail
  go_ret
  exact ⟨rfl, (show RCur w o T b _ _ from by repeat (first | exact HC.out | apply RCur.drew | apply RCur.drewN)).fin⟩
set_option maxHeartbeats 4000000 in
set_option maxRecDepth 100000 in
theorem rdo_4s (w : World) (T : Nat → Prop) (b : Nat) (x : RSto) (h : IsR w T b x) (m : Int) (o : Opr) (full : Bool) (hlen : x.puts.length ≤ 99990)
    (hbd : ∀ m r, 0 ≤ x.reg m r ∧ x.reg m r < 18446744073709551616) (hm : 0 ≤ m ∧ m < x.c.muts) (herr : o.err x.c = 0) (hk : o.kind = 4) (h63 : o.b < 9223372036854775808) (hn : ¬ numb (x.reg m o.b) < 0) :
    Calls Try.prog 29 #[.pointer (some ⟨b, 0, none⟩), .int .i64 m, o.v, .bool full] w (RPost w T b (x.did m o full)) := by
  obtain ⟨_, hr⟩ := right_of_err herr
  have HD : Hid (x.did m o full = (x.put 0 m o.a (x.get (o.kind - 2) (numb (x.reg m o.b)) 0), 1)) := by unfold Hid RSto.did; rw [if_neg (by omega), if_neg (by omega), if_neg (by omega), if_pos (Or.inl hk), if_neg hn]
  rw [HD.out]
  have dn : decide (numb (x.reg m o.b) < 0) = false := by simpa using hn
  have sk : IntKind.i64.wrap (o.kind - 2) = o.kind - 2 := by rw [hk]; decide +kernel
  have HERR := Lib.hid herr
  have HLEN := Lib.hid hlen
  have HBD := Lib.hid hbd
  have HC : Hid (RCur w o T b x (w.alloc o.obj)) := RCur.start h
  have k0 := HC.out.k0
  have k1 := HC.out.k1
  have k2 := HC.out.k2
  have k3 := HC.out.k3
  have x0 := HC.out.b0
  have x1 := HC.out.b1
  have x2 := HC.out.b2
  have x3 := HC.out.b3
  have d1 : decide (m < 0) = false := by simp; omega
  have d2 : decide (x.c.muts ≤ m) = false := by simp; omega
  have t1 : (o.kind == 1) = false := by rw [beq_eq_false_iff_ne]; omega
  have t2 : (o.kind == 2) = false := by rw [beq_eq_false_iff_ne]; omega
  have t3 : (o.kind == 3) = false := by rw [beq_eq_false_iff_ne]; omega
  have t4 : (o.kind == 4) = true := by rw [beq_iff_eq]; omega
  clear hn
  clear h herr hr hm hk hlen hbd
  go_enter Try.func29, Try.ntmps29
  go_wp2_with fail
  go_region_held3 (fun w' => w'.cell? ⟨b, 0, none⟩ = some (.int .i64 x.c.cells) ∧ w'.cell? ⟨b, 1, none⟩ = some (.int .i64 x.c.muts) ∧ w'.cell? ⟨b, 2, none⟩ = some (.int .i64 x.c.regs) ∧ w'.cell? ⟨b, 3, none⟩ = some (.int .i64 x.c.globs) ∧ w'.cell? ⟨w.heap.size, 0, none⟩ = some (.int .i64 o.kind) ∧ w'.cell? ⟨w.heap.size, 1, none⟩ = some (.int .i64 o.a) ∧ w'.cell? ⟨w.heap.size, 2, none⟩ = some (.int .i64 o.b) ∧ w'.cell? ⟨w.heap.size, 3, none⟩ = some (.int .i64 o.c))
    (first
      | exact ⟨k0, k1, k2, k3, x0, x1, x2, x3⟩
      | exact ⟨HC.out.k0, HC.out.k1, HC.out.k2, HC.out.k3, HC.out.b0, HC.out.b1, HC.out.b2, HC.out.b3⟩)
    (first | (go_at_call 55; refine (rcheck_c (by repeat (first | exact HC.out | apply RCur.drew | apply RCur.drewN)) x.c).mono ?_; rintro e w2 ⟨rfl, hc2⟩; rw [HERR.out]; have HC' := Lib.hid hc2; clear HC; have HC := HC'; clear hc2 HC'))
  rename_i hHeld
  clear hHeld k0 k1 k2 k3 x0 x1 x2 x3 d1 d2
  have x0 := HC.out.b0
  have x1 := HC.out.b1
  have x2 := HC.out.b2
  have x3 := HC.out.b3
  go_wp2_with fail
  refine (rreg_c (by repeat (first | exact HC.out | apply RCur.drew | apply RCur.drewN)) m o.b (by have := HLEN.out; (try simp only [RSto.put, List.length_append, List.length_singleton]); omega)).mono ?_
  rintro e w3 ⟨rfl, hc3⟩
  have HC' := Lib.hid hc3
  clear HC
  have HC := HC'
  clear hc3 HC'
  go_wp2_with fail
  refine (rnumb_c _ _ (HBD.out m o.b)).mono ?_
  rintro e w4 ⟨rfl, hw⟩
  obtain rfl := hw.symm
  clear hw
  have y0 := HC.out.b0
  have y1 := HC.out.b1
  go_wp2_with fail
  go_region_held3 (fun w' => w'.cell? ⟨w.heap.size, 0, none⟩ = some (.int .i64 o.kind) ∧ w'.cell? ⟨w.heap.size, 1, none⟩ = some (.int .i64 o.a))
    (first
      | exact ⟨y0, y1⟩
      | exact ⟨HC.out.b0, HC.out.b1⟩)
    (first
      | (go_at_call 59; refine (rget_c (by repeat (first | exact HC.out | apply RCur.drew | apply RCur.drewN)) (o.kind - 2) (numb (x.reg m o.b)) 0 (by have := HLEN.out; (try simp only [RSto.put, List.length_append, List.length_singleton]); omega)).mono ?_; rintro e w5 ⟨rfl, hc5⟩; have HC' := Lib.hid hc5; clear HC; have HC := HC'; clear hc5 HC')
      | (go_at_call 56; refine (rput_c (by repeat (first | exact HC.out | apply RCur.drew | apply RCur.drewN)) 0 m o.a (x.get (o.kind - 2) (numb (x.reg m o.b)) 0) (by have := HLEN.out; (try simp only [RSto.put, List.length_append, List.length_singleton]); omega)).mono ?_; rintro e w6 ⟨rfl, hc6⟩; have HC' := Lib.hid hc6; clear HC; have HC := HC'; clear hc6 HC'))
  all_goals
    go_wp2_with fail
    go_ret
    exact ⟨rfl, (show RCur w o T b _ _ from by repeat (first | exact HC.out | apply RCur.drew | apply RCur.drewN)).fin⟩
set_option maxHeartbeats 4000000 in
set_option maxRecDepth 100000 in
theorem rdo_5n (w : World) (T : Nat → Prop) (b : Nat) (x : RSto) (h : IsR w T b x) (m : Int) (o : Opr) (full : Bool) (hlen : x.puts.length ≤ 99990)
    (hbd : ∀ m r, 0 ≤ x.reg m r ∧ x.reg m r < 18446744073709551616) (hm : 0 ≤ m ∧ m < x.c.muts) (herr : o.err x.c = 0) (hk : o.kind = 5) (h63 : o.b < 9223372036854775808) (hn : numb (x.reg m o.b) < 0) :
    Calls Try.prog 29 #[.pointer (some ⟨b, 0, none⟩), .int .i64 m, o.v, .bool full] w (RPost w T b (x.did m o full)) := by
  obtain ⟨_, hr⟩ := right_of_err herr
  have HD : Hid (x.did m o full = (x, 4)) := by unfold Hid RSto.did; rw [if_neg (by omega), if_neg (by omega), if_neg (by omega), if_pos (Or.inr hk), if_pos hn]
  rw [HD.out]
  have dn : decide (numb (x.reg m o.b) < 0) = true := by simpa using hn
  have HERR := Lib.hid herr
  have HLEN := Lib.hid hlen
  have HBD := Lib.hid hbd
  have HC : Hid (RCur w o T b x (w.alloc o.obj)) := RCur.start h
  have k0 := HC.out.k0
  have k1 := HC.out.k1
  have k2 := HC.out.k2
  have k3 := HC.out.k3
  have x0 := HC.out.b0
  have x1 := HC.out.b1
  have x2 := HC.out.b2
  have x3 := HC.out.b3
  have d1 : decide (m < 0) = false := by simp; omega
  have d2 : decide (x.c.muts ≤ m) = false := by simp; omega
  have t1 : (o.kind == 1) = false := by rw [beq_eq_false_iff_ne]; omega
  have t2 : (o.kind == 2) = false := by rw [beq_eq_false_iff_ne]; omega
  have t3 : (o.kind == 3) = false := by rw [beq_eq_false_iff_ne]; omega
  have t4 : (o.kind == 4) = false := by rw [beq_eq_false_iff_ne]; omega
  have t5 : (o.kind == 5) = true := by rw [beq_iff_eq]; omega
  clear hn
  clear h herr hr hm hk hlen hbd
  go_enter Try.func29, Try.ntmps29
  go_wp2_with fail
  go_region_held3 (fun w' => w'.cell? ⟨b, 0, none⟩ = some (.int .i64 x.c.cells) ∧ w'.cell? ⟨b, 1, none⟩ = some (.int .i64 x.c.muts) ∧ w'.cell? ⟨b, 2, none⟩ = some (.int .i64 x.c.regs) ∧ w'.cell? ⟨b, 3, none⟩ = some (.int .i64 x.c.globs) ∧ w'.cell? ⟨w.heap.size, 0, none⟩ = some (.int .i64 o.kind) ∧ w'.cell? ⟨w.heap.size, 1, none⟩ = some (.int .i64 o.a) ∧ w'.cell? ⟨w.heap.size, 2, none⟩ = some (.int .i64 o.b) ∧ w'.cell? ⟨w.heap.size, 3, none⟩ = some (.int .i64 o.c))
    (first
      | exact ⟨k0, k1, k2, k3, x0, x1, x2, x3⟩
      | exact ⟨HC.out.k0, HC.out.k1, HC.out.k2, HC.out.k3, HC.out.b0, HC.out.b1, HC.out.b2, HC.out.b3⟩)
    (first | (go_at_call 55; refine (rcheck_c (by repeat (first | exact HC.out | apply RCur.drew | apply RCur.drewN)) x.c).mono ?_; rintro e w2 ⟨rfl, hc2⟩; rw [HERR.out]; have HC' := Lib.hid hc2; clear HC; have HC := HC'; clear hc2 HC'))
  rename_i hHeld
  clear hHeld k0 k1 k2 k3 x0 x1 x2 x3 d1 d2
  have x0 := HC.out.b0
  have x1 := HC.out.b1
  have x2 := HC.out.b2
  have x3 := HC.out.b3
  go_wp2_with fail
  refine (rreg_c (by repeat (first | exact HC.out | apply RCur.drew | apply RCur.drewN)) m o.b (by have := HLEN.out; (try simp only [RSto.put, List.length_append, List.length_singleton]); omega)).mono ?_
  rintro e w3 ⟨rfl, hc3⟩
  have HC' := Lib.hid hc3
  clear HC
  have HC := HC'
  clear hc3 HC'
  go_wp2_with fail
  refine (rnumb_c _ _ (HBD.out m o.b)).mono ?_
  rintro e w4 ⟨rfl, hw⟩
  obtain rfl := hw.symm
  clear hw
  clear x0 x1 x2 x3
  go_wp2_with fail
  go_ret
  exact ⟨rfl, (show RCur w o T b _ _ from by repeat (first | exact HC.out | apply RCur.drew | apply RCur.drewN)).fin⟩
set_option maxHeartbeats 4000000 in
set_option maxRecDepth 100000 in
theorem rdo_5s (w : World) (T : Nat → Prop) (b : Nat) (x : RSto) (h : IsR w T b x) (m : Int) (o : Opr) (full : Bool) (hlen : x.puts.length ≤ 99990)
    (hbd : ∀ m r, 0 ≤ x.reg m r ∧ x.reg m r < 18446744073709551616) (hm : 0 ≤ m ∧ m < x.c.muts) (herr : o.err x.c = 0) (hk : o.kind = 5) (h63 : o.b < 9223372036854775808) (hn : ¬ numb (x.reg m o.b) < 0) :
    Calls Try.prog 29 #[.pointer (some ⟨b, 0, none⟩), .int .i64 m, o.v, .bool full] w (RPost w T b (x.did m o full)) := by
  obtain ⟨_, hr⟩ := right_of_err herr
  have HD : Hid (x.did m o full = (x.put 0 m o.a (x.get (o.kind - 2) (numb (x.reg m o.b)) 0), 1)) := by unfold Hid RSto.did; rw [if_neg (by omega), if_neg (by omega), if_neg (by omega), if_pos (Or.inr hk), if_neg hn]
  rw [HD.out]
  have dn : decide (numb (x.reg m o.b) < 0) = false := by simpa using hn
  have sk : IntKind.i64.wrap (o.kind - 2) = o.kind - 2 := by rw [hk]; decide +kernel
  have HERR := Lib.hid herr
  have HLEN := Lib.hid hlen
  have HBD := Lib.hid hbd
  have HC : Hid (RCur w o T b x (w.alloc o.obj)) := RCur.start h
  have k0 := HC.out.k0
  have k1 := HC.out.k1
  have k2 := HC.out.k2
  have k3 := HC.out.k3
  have x0 := HC.out.b0
  have x1 := HC.out.b1
  have x2 := HC.out.b2
  have x3 := HC.out.b3
  have d1 : decide (m < 0) = false := by simp; omega
  have d2 : decide (x.c.muts ≤ m) = false := by simp; omega
  have t1 : (o.kind == 1) = false := by rw [beq_eq_false_iff_ne]; omega
  have t2 : (o.kind == 2) = false := by rw [beq_eq_false_iff_ne]; omega
  have t3 : (o.kind == 3) = false := by rw [beq_eq_false_iff_ne]; omega
  have t4 : (o.kind == 4) = false := by rw [beq_eq_false_iff_ne]; omega
  have t5 : (o.kind == 5) = true := by rw [beq_iff_eq]; omega
  clear hn
  clear h herr hr hm hk hlen hbd
  go_enter Try.func29, Try.ntmps29
  go_wp2_with fail
  go_region_held3 (fun w' => w'.cell? ⟨b, 0, none⟩ = some (.int .i64 x.c.cells) ∧ w'.cell? ⟨b, 1, none⟩ = some (.int .i64 x.c.muts) ∧ w'.cell? ⟨b, 2, none⟩ = some (.int .i64 x.c.regs) ∧ w'.cell? ⟨b, 3, none⟩ = some (.int .i64 x.c.globs) ∧ w'.cell? ⟨w.heap.size, 0, none⟩ = some (.int .i64 o.kind) ∧ w'.cell? ⟨w.heap.size, 1, none⟩ = some (.int .i64 o.a) ∧ w'.cell? ⟨w.heap.size, 2, none⟩ = some (.int .i64 o.b) ∧ w'.cell? ⟨w.heap.size, 3, none⟩ = some (.int .i64 o.c))
    (first
      | exact ⟨k0, k1, k2, k3, x0, x1, x2, x3⟩
      | exact ⟨HC.out.k0, HC.out.k1, HC.out.k2, HC.out.k3, HC.out.b0, HC.out.b1, HC.out.b2, HC.out.b3⟩)
    (first | (go_at_call 55; refine (rcheck_c (by repeat (first | exact HC.out | apply RCur.drew | apply RCur.drewN)) x.c).mono ?_; rintro e w2 ⟨rfl, hc2⟩; rw [HERR.out]; have HC' := Lib.hid hc2; clear HC; have HC := HC'; clear hc2 HC'))
  rename_i hHeld
  clear hHeld k0 k1 k2 k3 x0 x1 x2 x3 d1 d2
  have x0 := HC.out.b0
  have x1 := HC.out.b1
  have x2 := HC.out.b2
  have x3 := HC.out.b3
  go_wp2_with fail
  refine (rreg_c (by repeat (first | exact HC.out | apply RCur.drew | apply RCur.drewN)) m o.b (by have := HLEN.out; (try simp only [RSto.put, List.length_append, List.length_singleton]); omega)).mono ?_
  rintro e w3 ⟨rfl, hc3⟩
  have HC' := Lib.hid hc3
  clear HC
  have HC := HC'
  clear hc3 HC'
  go_wp2_with fail
  refine (rnumb_c _ _ (HBD.out m o.b)).mono ?_
  rintro e w4 ⟨rfl, hw⟩
  obtain rfl := hw.symm
  clear hw
  have y0 := HC.out.b0
  have y1 := HC.out.b1
  go_wp2_with fail
  go_region_held3 (fun w' => w'.cell? ⟨w.heap.size, 0, none⟩ = some (.int .i64 o.kind) ∧ w'.cell? ⟨w.heap.size, 1, none⟩ = some (.int .i64 o.a))
    (first
      | exact ⟨y0, y1⟩
      | exact ⟨HC.out.b0, HC.out.b1⟩)
    (first
      | (go_at_call 59; refine (rget_c (by repeat (first | exact HC.out | apply RCur.drew | apply RCur.drewN)) (o.kind - 2) (numb (x.reg m o.b)) 0 (by have := HLEN.out; (try simp only [RSto.put, List.length_append, List.length_singleton]); omega)).mono ?_; rintro e w5 ⟨rfl, hc5⟩; have HC' := Lib.hid hc5; clear HC; have HC := HC'; clear hc5 HC')
      | (go_at_call 56; refine (rput_c (by repeat (first | exact HC.out | apply RCur.drew | apply RCur.drewN)) 0 m o.a (x.get (o.kind - 2) (numb (x.reg m o.b)) 0) (by have := HLEN.out; (try simp only [RSto.put, List.length_append, List.length_singleton]); omega)).mono ?_; rintro e w6 ⟨rfl, hc6⟩; have HC' := Lib.hid hc6; clear HC; have HC := HC'; clear hc6 HC'))
  all_goals
    go_wp2_with fail
    go_ret
    exact ⟨rfl, (show RCur w o T b _ _ from by repeat (first | exact HC.out | apply RCur.drew | apply RCur.drewN)).fin⟩
set_option maxHeartbeats 4000000 in
set_option maxRecDepth 100000 in
theorem rdo_6n (w : World) (T : Nat → Prop) (b : Nat) (x : RSto) (h : IsR w T b x) (m : Int) (o : Opr) (full : Bool) (hlen : x.puts.length ≤ 99990)
    (hbd : ∀ m r, 0 ≤ x.reg m r ∧ x.reg m r < 18446744073709551616) (hm : 0 ≤ m ∧ m < x.c.muts) (herr : o.err x.c = 0) (hk : o.kind = 6) (h63 : o.b < 9223372036854775808) (hn : numb (x.reg m o.a) < 0) :
    Calls Try.prog 29 #[.pointer (some ⟨b, 0, none⟩), .int .i64 m, o.v, .bool full] w (RPost w T b (x.did m o full)) := by
  obtain ⟨_, hr⟩ := right_of_err herr
  have HD : Hid (x.did m o full = (x, 4)) := by unfold Hid RSto.did; rw [if_neg (by omega), if_neg (by omega), if_neg (by omega), if_neg (by omega), if_pos (Or.inl hk), if_pos hn]
  rw [HD.out]
  have dn : decide (numb (x.reg m o.a) < 0) = true := by simpa using hn
  have HERR := Lib.hid herr
  have HLEN := Lib.hid hlen
  have HBD := Lib.hid hbd
  have HC : Hid (RCur w o T b x (w.alloc o.obj)) := RCur.start h
  have k0 := HC.out.k0
  have k1 := HC.out.k1
  have k2 := HC.out.k2
  have k3 := HC.out.k3
  have x0 := HC.out.b0
  have x1 := HC.out.b1
  have x2 := HC.out.b2
  have x3 := HC.out.b3
  have d1 : decide (m < 0) = false := by simp; omega
  have d2 : decide (x.c.muts ≤ m) = false := by simp; omega
  have t1 : (o.kind == 1) = false := by rw [beq_eq_false_iff_ne]; omega
  have t2 : (o.kind == 2) = false := by rw [beq_eq_false_iff_ne]; omega
  have t3 : (o.kind == 3) = false := by rw [beq_eq_false_iff_ne]; omega
  have t4 : (o.kind == 4) = false := by rw [beq_eq_false_iff_ne]; omega
  have t5 : (o.kind == 5) = false := by rw [beq_eq_false_iff_ne]; omega
  have t6 : (o.kind == 6) = true := by rw [beq_iff_eq]; omega
  clear hn
  clear h herr hr hm hk hlen hbd
  go_enter Try.func29, Try.ntmps29
  go_wp2_with fail
  go_region_held3 (fun w' => w'.cell? ⟨b, 0, none⟩ = some (.int .i64 x.c.cells) ∧ w'.cell? ⟨b, 1, none⟩ = some (.int .i64 x.c.muts) ∧ w'.cell? ⟨b, 2, none⟩ = some (.int .i64 x.c.regs) ∧ w'.cell? ⟨b, 3, none⟩ = some (.int .i64 x.c.globs) ∧ w'.cell? ⟨w.heap.size, 0, none⟩ = some (.int .i64 o.kind) ∧ w'.cell? ⟨w.heap.size, 1, none⟩ = some (.int .i64 o.a) ∧ w'.cell? ⟨w.heap.size, 2, none⟩ = some (.int .i64 o.b) ∧ w'.cell? ⟨w.heap.size, 3, none⟩ = some (.int .i64 o.c))
    (first
      | exact ⟨k0, k1, k2, k3, x0, x1, x2, x3⟩
      | exact ⟨HC.out.k0, HC.out.k1, HC.out.k2, HC.out.k3, HC.out.b0, HC.out.b1, HC.out.b2, HC.out.b3⟩)
    (first | (go_at_call 55; refine (rcheck_c (by repeat (first | exact HC.out | apply RCur.drew | apply RCur.drewN)) x.c).mono ?_; rintro e w2 ⟨rfl, hc2⟩; rw [HERR.out]; have HC' := Lib.hid hc2; clear HC; have HC := HC'; clear hc2 HC'))
  rename_i hHeld
  clear hHeld k0 k1 k2 k3 x0 x1 x2 x3 d1 d2
  have x0 := HC.out.b0
  have x1 := HC.out.b1
  have x2 := HC.out.b2
  have x3 := HC.out.b3
  go_wp2_with fail
  refine (rreg_c (by repeat (first | exact HC.out | apply RCur.drew | apply RCur.drewN)) m o.a (by have := HLEN.out; (try simp only [RSto.put, List.length_append, List.length_singleton]); omega)).mono ?_
  rintro e w3 ⟨rfl, hc3⟩
  have HC' := Lib.hid hc3
  clear HC
  have HC := HC'
  clear hc3 HC'
  go_wp2_with fail
  refine (rnumb_c _ _ (HBD.out m o.a)).mono ?_
  rintro e w4 ⟨rfl, hw⟩
  obtain rfl := hw.symm
  clear hw
  clear x0 x1 x2 x3
  go_wp2_with fail
  go_ret
  exact ⟨rfl, (show RCur w o T b _ _ from by repeat (first | exact HC.out | apply RCur.drew | apply RCur.drewN)).fin⟩
set_option maxHeartbeats 4000000 in
set_option maxRecDepth 100000 in
theorem rdo_6s (w : World) (T : Nat → Prop) (b : Nat) (x : RSto) (h : IsR w T b x) (m : Int) (o : Opr) (full : Bool) (hlen : x.puts.length ≤ 99990)
    (hbd : ∀ m r, 0 ≤ x.reg m r ∧ x.reg m r < 18446744073709551616) (hm : 0 ≤ m ∧ m < x.c.muts) (herr : o.err x.c = 0) (hk : o.kind = 6) (h63 : o.b < 9223372036854775808) (hn : ¬ numb (x.reg m o.a) < 0) :
    Calls Try.prog 29 #[.pointer (some ⟨b, 0, none⟩), .int .i64 m, o.v, .bool full] w (RPost w T b (x.did m o full)) := by
  obtain ⟨_, hr⟩ := right_of_err herr
  have HD : Hid (x.did m o full = (x.put (o.kind - 4) (numb (x.reg m o.a)) 0 (x.reg m o.b), 1)) := by unfold Hid RSto.did; rw [if_neg (by omega), if_neg (by omega), if_neg (by omega), if_neg (by omega), if_pos (Or.inl hk), if_neg hn]
  rw [HD.out]
  have dn : decide (numb (x.reg m o.a) < 0) = false := by simpa using hn
  have sk : IntKind.i64.wrap (o.kind - 4) = o.kind - 4 := by rw [hk]; decide +kernel
  have HERR := Lib.hid herr
  have HLEN := Lib.hid hlen
  have HBD := Lib.hid hbd
  have HC : Hid (RCur w o T b x (w.alloc o.obj)) := RCur.start h
  have k0 := HC.out.k0
  have k1 := HC.out.k1
  have k2 := HC.out.k2
  have k3 := HC.out.k3
  have x0 := HC.out.b0
  have x1 := HC.out.b1
  have x2 := HC.out.b2
  have x3 := HC.out.b3
  have d1 : decide (m < 0) = false := by simp; omega
  have d2 : decide (x.c.muts ≤ m) = false := by simp; omega
  have t1 : (o.kind == 1) = false := by rw [beq_eq_false_iff_ne]; omega
  have t2 : (o.kind == 2) = false := by rw [beq_eq_false_iff_ne]; omega
  have t3 : (o.kind == 3) = false := by rw [beq_eq_false_iff_ne]; omega
  have t4 : (o.kind == 4) = false := by rw [beq_eq_false_iff_ne]; omega
  have t5 : (o.kind == 5) = false := by rw [beq_eq_false_iff_ne]; omega
  have t6 : (o.kind == 6) = true := by rw [beq_iff_eq]; omega
  clear hn
  clear h herr hr hm hk hlen hbd
  go_enter Try.func29, Try.ntmps29
  go_wp2_with fail
  go_region_held3 (fun w' => w'.cell? ⟨b, 0, none⟩ = some (.int .i64 x.c.cells) ∧ w'.cell? ⟨b, 1, none⟩ = some (.int .i64 x.c.muts) ∧ w'.cell? ⟨b, 2, none⟩ = some (.int .i64 x.c.regs) ∧ w'.cell? ⟨b, 3, none⟩ = some (.int .i64 x.c.globs) ∧ w'.cell? ⟨w.heap.size, 0, none⟩ = some (.int .i64 o.kind) ∧ w'.cell? ⟨w.heap.size, 1, none⟩ = some (.int .i64 o.a) ∧ w'.cell? ⟨w.heap.size, 2, none⟩ = some (.int .i64 o.b) ∧ w'.cell? ⟨w.heap.size, 3, none⟩ = some (.int .i64 o.c))
    (first
      | exact ⟨k0, k1, k2, k3, x0, x1, x2, x3⟩
      | exact ⟨HC.out.k0, HC.out.k1, HC.out.k2, HC.out.k3, HC.out.b0, HC.out.b1, HC.out.b2, HC.out.b3⟩)
    (first | (go_at_call 55; refine (rcheck_c (by repeat (first | exact HC.out | apply RCur.drew | apply RCur.drewN)) x.c).mono ?_; rintro e w2 ⟨rfl, hc2⟩; rw [HERR.out]; have HC' := Lib.hid hc2; clear HC; have HC := HC'; clear hc2 HC'))
  rename_i hHeld
  clear hHeld k0 k1 k2 k3 x0 x1 x2 x3 d1 d2
  have x0 := HC.out.b0
  have x1 := HC.out.b1
  have x2 := HC.out.b2
  have x3 := HC.out.b3
  go_wp2_with fail
  refine (rreg_c (by repeat (first | exact HC.out | apply RCur.drew | apply RCur.drewN)) m o.a (by have := HLEN.out; (try simp only [RSto.put, List.length_append, List.length_singleton]); omega)).mono ?_
  rintro e w3 ⟨rfl, hc3⟩
  have HC' := Lib.hid hc3
  clear HC
  have HC := HC'
  clear hc3 HC'
  go_wp2_with fail
  refine (rnumb_c _ _ (HBD.out m o.a)).mono ?_
  rintro e w4 ⟨rfl, hw⟩
  obtain rfl := hw.symm
  clear hw
  have y0 := HC.out.b0
  have y2 := HC.out.b2
  go_wp2_with fail
  go_region_held3 (fun w' => w'.cell? ⟨w.heap.size, 0, none⟩ = some (.int .i64 o.kind) ∧ w'.cell? ⟨w.heap.size, 2, none⟩ = some (.int .i64 o.b))
    (first
      | exact ⟨y0, y2⟩
      | exact ⟨HC.out.b0, HC.out.b2⟩)
    (first
      | (go_at_call 57; refine (rreg_c (by repeat (first | exact HC.out | apply RCur.drew | apply RCur.drewN)) m o.b (by have := HLEN.out; (try simp only [RSto.put, List.length_append, List.length_singleton]); omega)).mono ?_; rintro e w5 ⟨rfl, hc5⟩; have HC' := Lib.hid hc5; clear HC; have HC := HC'; clear hc5 HC')
      | (go_at_call 56; refine (rput_c (by repeat (first | exact HC.out | apply RCur.drew | apply RCur.drewN)) (o.kind - 4) (numb (x.reg m o.a)) 0 (x.reg m o.b) (by have := HLEN.out; (try simp only [RSto.put, List.length_append, List.length_singleton]); omega)).mono ?_; rintro e w6 ⟨rfl, hc6⟩; have HC' := Lib.hid hc6; clear HC; have HC := HC'; clear hc6 HC'))
  all_goals
    go_wp2_with fail
    go_ret
    exact ⟨rfl, (show RCur w o T b _ _ from by repeat (first | exact HC.out | apply RCur.drew | apply RCur.drewN)).fin⟩
set_option maxHeartbeats 4000000 in
set_option maxRecDepth 100000 in
theorem rdo_7n (w : World) (T : Nat → Prop) (b : Nat) (x : RSto) (h : IsR w T b x) (m : Int) (o : Opr) (full : Bool) (hlen : x.puts.length ≤ 99990)
    (hbd : ∀ m r, 0 ≤ x.reg m r ∧ x.reg m r < 18446744073709551616) (hm : 0 ≤ m ∧ m < x.c.muts) (herr : o.err x.c = 0) (hk : o.kind = 7) (h63 : o.b < 9223372036854775808) (hn : numb (x.reg m o.a) < 0) :
    Calls Try.prog 29 #[.pointer (some ⟨b, 0, none⟩), .int .i64 m, o.v, .bool full] w (RPost w T b (x.did m o full)) := by
  obtain ⟨_, hr⟩ := right_of_err herr
  have HD : Hid (x.did m o full = (x, 4)) := by unfold Hid RSto.did; rw [if_neg (by omega), if_neg (by omega), if_neg (by omega), if_neg (by omega), if_pos (Or.inr hk), if_pos hn]
  rw [HD.out]
  have dn : decide (numb (x.reg m o.a) < 0) = true := by simpa using hn
  have HERR := Lib.hid herr
  have HLEN := Lib.hid hlen
  have HBD := Lib.hid hbd
  have HC : Hid (RCur w o T b x (w.alloc o.obj)) := RCur.start h
  have k0 := HC.out.k0
  have k1 := HC.out.k1
  have k2 := HC.out.k2
  have k3 := HC.out.k3
  have x0 := HC.out.b0
  have x1 := HC.out.b1
  have x2 := HC.out.b2
  have x3 := HC.out.b3
  have d1 : decide (m < 0) = false := by simp; omega
  have d2 : decide (x.c.muts ≤ m) = false := by simp; omega
  have t1 : (o.kind == 1) = false := by rw [beq_eq_false_iff_ne]; omega
  have t2 : (o.kind == 2) = false := by rw [beq_eq_false_iff_ne]; omega
  have t3 : (o.kind == 3) = false := by rw [beq_eq_false_iff_ne]; omega
  have t4 : (o.kind == 4) = false := by rw [beq_eq_false_iff_ne]; omega
  have t5 : (o.kind == 5) = false := by rw [beq_eq_false_iff_ne]; omega
  have t6 : (o.kind == 6) = false := by rw [beq_eq_false_iff_ne]; omega
  have t7 : (o.kind == 7) = true := by rw [beq_iff_eq]; omega
  clear hn
  clear h herr hr hm hk hlen hbd
  go_enter Try.func29, Try.ntmps29
  go_wp2_with fail
  go_region_held3 (fun w' => w'.cell? ⟨b, 0, none⟩ = some (.int .i64 x.c.cells) ∧ w'.cell? ⟨b, 1, none⟩ = some (.int .i64 x.c.muts) ∧ w'.cell? ⟨b, 2, none⟩ = some (.int .i64 x.c.regs) ∧ w'.cell? ⟨b, 3, none⟩ = some (.int .i64 x.c.globs) ∧ w'.cell? ⟨w.heap.size, 0, none⟩ = some (.int .i64 o.kind) ∧ w'.cell? ⟨w.heap.size, 1, none⟩ = some (.int .i64 o.a) ∧ w'.cell? ⟨w.heap.size, 2, none⟩ = some (.int .i64 o.b) ∧ w'.cell? ⟨w.heap.size, 3, none⟩ = some (.int .i64 o.c))
    (first
      | exact ⟨k0, k1, k2, k3, x0, x1, x2, x3⟩
      | exact ⟨HC.out.k0, HC.out.k1, HC.out.k2, HC.out.k3, HC.out.b0, HC.out.b1, HC.out.b2, HC.out.b3⟩)
    (first | (go_at_call 55; refine (rcheck_c (by repeat (first | exact HC.out | apply RCur.drew | apply RCur.drewN)) x.c).mono ?_; rintro e w2 ⟨rfl, hc2⟩; rw [HERR.out]; have HC' := Lib.hid hc2; clear HC; have HC := HC'; clear hc2 HC'))
  rename_i hHeld
  clear hHeld k0 k1 k2 k3 x0 x1 x2 x3 d1 d2
  have x0 := HC.out.b0
  have x1 := HC.out.b1
  have x2 := HC.out.b2
  have x3 := HC.out.b3
  go_wp2_with fail
  refine (rreg_c (by repeat (first | exact HC.out | apply RCur.drew | apply RCur.drewN)) m o.a (by have := HLEN.out; (try simp only [RSto.put, List.length_append, List.length_singleton]); omega)).mono ?_
  rintro e w3 ⟨rfl, hc3⟩
  have HC' := Lib.hid hc3
  clear HC
  have HC := HC'
  clear hc3 HC'
  go_wp2_with fail
  refine (rnumb_c _ _ (HBD.out m o.a)).mono ?_
  rintro e w4 ⟨rfl, hw⟩
  obtain rfl := hw.symm
  clear hw
  clear x0 x1 x2 x3
  go_wp2_with fail
  go_ret
  exact ⟨rfl, (show RCur w o T b _ _ from by repeat (first | exact HC.out | apply RCur.drew | apply RCur.drewN)).fin⟩
set_option maxHeartbeats 4000000 in
set_option maxRecDepth 100000 in
theorem rdo_7s (w : World) (T : Nat → Prop) (b : Nat) (x : RSto) (h : IsR w T b x) (m : Int) (o : Opr) (full : Bool) (hlen : x.puts.length ≤ 99990)
    (hbd : ∀ m r, 0 ≤ x.reg m r ∧ x.reg m r < 18446744073709551616) (hm : 0 ≤ m ∧ m < x.c.muts) (herr : o.err x.c = 0) (hk : o.kind = 7) (h63 : o.b < 9223372036854775808) (hn : ¬ numb (x.reg m o.a) < 0) :
    Calls Try.prog 29 #[.pointer (some ⟨b, 0, none⟩), .int .i64 m, o.v, .bool full] w (RPost w T b (x.did m o full)) := by
  obtain ⟨_, hr⟩ := right_of_err herr
  have HD : Hid (x.did m o full = (x.put (o.kind - 4) (numb (x.reg m o.a)) 0 (x.reg m o.b), 1)) := by unfold Hid RSto.did; rw [if_neg (by omega), if_neg (by omega), if_neg (by omega), if_neg (by omega), if_pos (Or.inr hk), if_neg hn]
  rw [HD.out]
  have dn : decide (numb (x.reg m o.a) < 0) = false := by simpa using hn
  have sk : IntKind.i64.wrap (o.kind - 4) = o.kind - 4 := by rw [hk]; decide +kernel
  have HERR := Lib.hid herr
  have HLEN := Lib.hid hlen
  have HBD := Lib.hid hbd
  have HC : Hid (RCur w o T b x (w.alloc o.obj)) := RCur.start h
  have k0 := HC.out.k0
  have k1 := HC.out.k1
  have k2 := HC.out.k2
  have k3 := HC.out.k3
  have x0 := HC.out.b0
  have x1 := HC.out.b1
  have x2 := HC.out.b2
  have x3 := HC.out.b3
  have d1 : decide (m < 0) = false := by simp; omega
  have d2 : decide (x.c.muts ≤ m) = false := by simp; omega
  have t1 : (o.kind == 1) = false := by rw [beq_eq_false_iff_ne]; omega
  have t2 : (o.kind == 2) = false := by rw [beq_eq_false_iff_ne]; omega
  have t3 : (o.kind == 3) = false := by rw [beq_eq_false_iff_ne]; omega
  have t4 : (o.kind == 4) = false := by rw [beq_eq_false_iff_ne]; omega
  have t5 : (o.kind == 5) = false := by rw [beq_eq_false_iff_ne]; omega
  have t6 : (o.kind == 6) = false := by rw [beq_eq_false_iff_ne]; omega
  have t7 : (o.kind == 7) = true := by rw [beq_iff_eq]; omega
  clear hn
  clear h herr hr hm hk hlen hbd
  go_enter Try.func29, Try.ntmps29
  go_wp2_with fail
  go_region_held3 (fun w' => w'.cell? ⟨b, 0, none⟩ = some (.int .i64 x.c.cells) ∧ w'.cell? ⟨b, 1, none⟩ = some (.int .i64 x.c.muts) ∧ w'.cell? ⟨b, 2, none⟩ = some (.int .i64 x.c.regs) ∧ w'.cell? ⟨b, 3, none⟩ = some (.int .i64 x.c.globs) ∧ w'.cell? ⟨w.heap.size, 0, none⟩ = some (.int .i64 o.kind) ∧ w'.cell? ⟨w.heap.size, 1, none⟩ = some (.int .i64 o.a) ∧ w'.cell? ⟨w.heap.size, 2, none⟩ = some (.int .i64 o.b) ∧ w'.cell? ⟨w.heap.size, 3, none⟩ = some (.int .i64 o.c))
    (first
      | exact ⟨k0, k1, k2, k3, x0, x1, x2, x3⟩
      | exact ⟨HC.out.k0, HC.out.k1, HC.out.k2, HC.out.k3, HC.out.b0, HC.out.b1, HC.out.b2, HC.out.b3⟩)
    (first | (go_at_call 55; refine (rcheck_c (by repeat (first | exact HC.out | apply RCur.drew | apply RCur.drewN)) x.c).mono ?_; rintro e w2 ⟨rfl, hc2⟩; rw [HERR.out]; have HC' := Lib.hid hc2; clear HC; have HC := HC'; clear hc2 HC'))
  rename_i hHeld
  clear hHeld k0 k1 k2 k3 x0 x1 x2 x3 d1 d2
  have x0 := HC.out.b0
  have x1 := HC.out.b1
  have x2 := HC.out.b2
  have x3 := HC.out.b3
  go_wp2_with fail
  refine (rreg_c (by repeat (first | exact HC.out | apply RCur.drew | apply RCur.drewN)) m o.a (by have := HLEN.out; (try simp only [RSto.put, List.length_append, List.length_singleton]); omega)).mono ?_
  rintro e w3 ⟨rfl, hc3⟩
  have HC' := Lib.hid hc3
  clear HC
  have HC := HC'
  clear hc3 HC'
  go_wp2_with fail
  refine (rnumb_c _ _ (HBD.out m o.a)).mono ?_
  rintro e w4 ⟨rfl, hw⟩
  obtain rfl := hw.symm
  clear hw
  have y0 := HC.out.b0
  have y2 := HC.out.b2
  go_wp2_with fail
  go_region_held3 (fun w' => w'.cell? ⟨w.heap.size, 0, none⟩ = some (.int .i64 o.kind) ∧ w'.cell? ⟨w.heap.size, 2, none⟩ = some (.int .i64 o.b))
    (first
      | exact ⟨y0, y2⟩
      | exact ⟨HC.out.b0, HC.out.b2⟩)
    (first
      | (go_at_call 57; refine (rreg_c (by repeat (first | exact HC.out | apply RCur.drew | apply RCur.drewN)) m o.b (by have := HLEN.out; (try simp only [RSto.put, List.length_append, List.length_singleton]); omega)).mono ?_; rintro e w5 ⟨rfl, hc5⟩; have HC' := Lib.hid hc5; clear HC; have HC := HC'; clear hc5 HC')
      | (go_at_call 56; refine (rput_c (by repeat (first | exact HC.out | apply RCur.drew | apply RCur.drewN)) (o.kind - 4) (numb (x.reg m o.a)) 0 (x.reg m o.b) (by have := HLEN.out; (try simp only [RSto.put, List.length_append, List.length_singleton]); omega)).mono ?_; rintro e w6 ⟨rfl, hc6⟩; have HC' := Lib.hid hc6; clear HC; have HC := HC'; clear hc6 HC'))
  all_goals
    go_wp2_with fail
    go_ret
    exact ⟨rfl, (show RCur w o T b _ _ from by repeat (first | exact HC.out | apply RCur.drew | apply RCur.drewN)).fin⟩
end Go.Proofs.Ytoapbfglpcebmaa

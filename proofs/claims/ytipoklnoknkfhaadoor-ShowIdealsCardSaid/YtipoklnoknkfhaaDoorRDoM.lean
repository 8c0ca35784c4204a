/- The contract of mudlarkref09 Do, kind by kind. The contract of mudlarkref09 Do: the other kinds, and all of them. The contract of mudlarkref09 Do: the other kinds, and all of them. The contract of mudlarkref09 Do: the other kinds, and all of them. -/
import Derived.Test.YtipoklnoknkfhaaDoorRStoM
import Derived.Test.YtipoklnoknkfhaaDoorIdealDoM
namespace Go.Proofs.YtipoklnoknkfhaaDoor
open Go Go.RowKit
set_option linter.unusedSimpArgs false
set_option linter.unusedVariables false

/-- the store as it is while Do runs: o lies boxed behind what there was -/
structure RCur (w : World) (o : Opr) (T : Nat → Prop) (b : Nat) (x : RSto) (wc : World) : Prop where
  st : IsR wc (fun y => (T y ∧ y < w.heap.size) ∨ (w.heap.size < y ∧ y < wc.heap.size)) b x
  kp : Keep T w wc
  bx : wc.heap[w.heap.size]? = some o.obj
section
variable {w wc w' : World} {o : Opr} {T : Nat → Prop} {b : Nat} {x : RSto}
theorem RCur.start (h : IsR w T b x) : RCur w o T b x (w.alloc o.obj) where
  st := by
    obtain ⟨v, h⟩ := h
    have h1 := h.below ((Below.refl _ _).alloc (Nat.le_refl _) o.obj)
    exact ⟨v, { h1 with tb := Or.inl ⟨h.tb, h.lt⟩, tv := fun g hg => Or.inl ⟨h.tv g hg, (h.rows.lt g hg).2⟩ }⟩
  kp := (Keep.refl T w).alloc o.obj
  bx := heap_alloc_new w o.obj
theorem RCur.below (h : RCur w o T b x wc) (k : Below wc.heap.size wc w') : RCur w o T b x w' where
  st := (h.st.below k).wide (fun y hy => hy.imp id (fun hy => ⟨hy.1, Nat.lt_of_lt_of_le hy.2 k.size⟩))
  kp := h.kp.trans (Keep.of_below k T)
  bx := (k.block _ (block_lt h.bx)).trans h.bx
theorem RCur.drew (h : RCur w o T b x wc) : RCur w o T b x wc.drew := ⟨h.st.drew, h.kp.drew, h.bx⟩
theorem RCur.drewN (h : RCur w o T b x wc) (n : Nat) : RCur w o T b x (wc.drewN n) := ⟨h.st.drewN n, h.kp.drewN n, h.bx⟩
theorem RCur.did (h : RCur w o T b x wc) {x' : RSto} (h1 : IsR w' (fun y => ((T y ∧ y < w.heap.size) ∨ (w.heap.size < y ∧ y < wc.heap.size)) ∨ (wc.heap.size ≤ y ∧ y < w'.heap.size)) b x') (k : Keep (fun y => (T y ∧ y < w.heap.size) ∨ (w.heap.size < y ∧ y < wc.heap.size)) wc w') : RCur w o T b x' w' where
  st := h1.wide (fun y hy => by
    have := block_lt h.bx
    have := k.size
    rcases hy with (hy | hy) | hy
    · exact Or.inl hy
    · exact Or.inr (by omega)
    · exact Or.inr (by omega))
  kp := h.kp.then_ k (fun i hi hy => by
    rcases hy with hy | hy
    · exact hy.1
    · omega)
  bx := k.at_ h.bx (fun hy => by omega)
theorem RCur.cells (h : RCur w o T b x wc) : wc.cell? ⟨w.heap.size, 0, none⟩ = some (.int .i64 o.kind) ∧ wc.cell? ⟨w.heap.size, 1, none⟩ = some (.int .i64 o.a) ∧ wc.cell? ⟨w.heap.size, 2, none⟩ = some (.int .i64 o.b) ∧ wc.cell? ⟨w.heap.size, 3, none⟩ = some (.int .i64 o.c) := opr_cells h.bx
theorem RCur.b0 (h : RCur w o T b x wc) : wc.cell? ⟨w.heap.size, 0, none⟩ = some (.int .i64 o.kind) := h.cells.1
theorem RCur.b1 (h : RCur w o T b x wc) : wc.cell? ⟨w.heap.size, 1, none⟩ = some (.int .i64 o.a) := h.cells.2.1
theorem RCur.b2 (h : RCur w o T b x wc) : wc.cell? ⟨w.heap.size, 2, none⟩ = some (.int .i64 o.b) := h.cells.2.2.1
theorem RCur.b3 (h : RCur w o T b x wc) : wc.cell? ⟨w.heap.size, 3, none⟩ = some (.int .i64 o.c) := h.cells.2.2.2
theorem RCur.k0 (h : RCur w o T b x wc) : wc.cell? ⟨b, 0, none⟩ = some (.int .i64 x.c.cells) := h.st.hc.1
theorem RCur.k1 (h : RCur w o T b x wc) : wc.cell? ⟨b, 1, none⟩ = some (.int .i64 x.c.muts) := h.st.hc.2.1
theorem RCur.k2 (h : RCur w o T b x wc) : wc.cell? ⟨b, 2, none⟩ = some (.int .i64 x.c.regs) := h.st.hc.2.2.1
theorem RCur.k3 (h : RCur w o T b x wc) : wc.cell? ⟨b, 3, none⟩ = some (.int .i64 x.c.globs) := h.st.hc.2.2.2.1
theorem RCur.k5 (h : RCur w o T b x wc) : wc.cell? ⟨b, 5, none⟩ = some (.int .i64 x.n) := h.st.hc.2.2.2.2.1
theorem RCur.f5 (h : RCur w o T b x wc) : wc.frozen? ⟨b, 5, none⟩ = false := h.st.hc.2.2.2.2.2
theorem RCur.setN (h : RCur w o T b x wc) (n : Int) : RCur w o T b { x with n := n } (wc.setCell ⟨b, 5, none⟩ (.int .i64 n)) where
  st := by simpa [World.setCell] using h.st.setN n
  kp := by
    refine h.kp.then_ (Keep.setCell (S := fun y => y = b) (Keep.refl _ _) (Or.inl rfl) _) (fun i hi e => ?_)
    subst e
    rcases h.st.tb with hy | hy
    · exact hy.1
    · omega
  bx := by
    have hn : b ≠ w.heap.size := by
      rcases h.st.tb with hy | hy <;> omega
    exact ((Keep.setCell (S := fun y => y = b) (Keep.refl _ wc) (p := ⟨b, 5, none⟩) (Or.inl rfl) (.int .i64 n)).at_ h.bx (fun e => hn e.symm))
theorem RCur.fin (h : RCur w o T b x wc) : IsR wc (fun y => T y ∨ (w.heap.size ≤ y ∧ y < wc.heap.size)) b x ∧ Keep T w wc :=
  ⟨h.st.wide (fun y hy => hy.imp (fun h => h.1) (fun h => ⟨Nat.le_of_lt h.1, h.2⟩)), h.kp⟩
end
theorem rput_c {w wc : World} {o : Opr} {T : Nat → Prop} {b : Nat} {x : RSto} (h : RCur w o T b x wc) (k a c' u : Int) (hlen : x.puts.length ≤ 100000) :
    Calls Tryd.prog 56 #[.pointer (some ⟨b, 0, none⟩), .int .i64 k, .int .i64 a, .int .i64 c', .int .u64 u] wc fun e w' => e = .returned (.tuple #[]) ∧ RCur w o T b (x.put k a c' u) w' := by
  refine (rput_any wc _ b x h.st k a c' u hlen).mono ?_
  rintro e w' ⟨he, h1, hk⟩
  exact ⟨he, h.did h1 hk⟩
theorem rget_c {w wc : World} {o : Opr} {T : Nat → Prop} {b : Nat} {x : RSto} (h : RCur w o T b x wc) (k a c' : Int) (hlen : x.puts.length ≤ 100000) :
    Calls Tryd.prog 59 #[.pointer (some ⟨b, 0, none⟩), .int .i64 k, .int .i64 a, .int .i64 c'] wc fun e w' => e = .returned (.int .u64 (x.get k a c')) ∧ RCur w o T b x w' := by
  refine (rget_is wc _ b x h.st k a c' hlen).mono ?_
  rintro e w' ⟨he, hb⟩
  exact ⟨he, h.below hb⟩
theorem rreg_c {w wc : World} {o : Opr} {T : Nat → Prop} {b : Nat} {x : RSto} (h : RCur w o T b x wc) (m r : Int) (hlen : x.puts.length ≤ 100000) :
    Calls Tryd.prog 57 #[.pointer (some ⟨b, 0, none⟩), .int .i64 m, .int .i64 r] wc fun e w' => e = .returned (.int .u64 (x.reg m r)) ∧ RCur w o T b x w' := by
  refine (rreg_is wc _ b x h.st m r hlen).mono ?_
  rintro e w' ⟨he, hb⟩
  exact ⟨he, h.below hb⟩
theorem rcheck_c {w wc : World} {o : Opr} {T : Nat → Prop} {b : Nat} {x : RSto} (h : RCur w o T b x wc) (c : Cfg) :
    Calls Tryd.prog 55 #[c.v, o.v] wc fun e w' => e = .returned (.int .i64 (o.err c)) ∧ RCur w o T b x w' := by
  refine (refcheck_any wc c o).mono ?_
  rintro e w' ⟨he, hb⟩
  exact ⟨he, h.below hb⟩
theorem rnumb_c (w : World) (a : Int) (h : 0 ≤ a ∧ a < 18446744073709551616) :
    Calls Tryd.prog 58 #[.int .u64 a] w fun e w' => e = .returned (.int .i64 (numb a)) ∧ w' = w := rnumber_any w a h.1 h.2
def RPost (w : World) (T : Nat → Prop) (b : Nat) (r : RSto × Int) (e : Ending) (w' : World) : Prop :=
  e = .returned (.int .i64 r.2) ∧ IsR w' (fun y => T y ∨ (w.heap.size ≤ y ∧ y < w'.heap.size)) b r.1 ∧ Keep T w w'

set_option maxHeartbeats 4000000 in
set_option maxRecDepth 100000 in
theorem rdo_1 (w : World) (T : Nat → Prop) (b : Nat) (x : RSto) (h : IsR w T b x) (m : Int) (o : Opr) (full : Bool) (hlen : x.puts.length ≤ 99990)
    (hbd : ∀ m r, 0 ≤ x.reg m r ∧ x.reg m r < 18446744073709551616) (hm : 0 ≤ m ∧ m < x.c.muts) (herr : o.err x.c = 0) (hk : o.kind = 1) (h63 : o.b < 9223372036854775808) :
    Calls Tryd.prog 23 #[.pointer (some ⟨b, 0, none⟩), .int .i64 m, o.v, .bool full] w (RPost w T b (x.did m o full)) := by
  obtain ⟨_, hr⟩ := right_of_err herr
  have hb0 := hr.b1 hk
  have HD : Hid (x.did m o full = (x.put 0 m o.a (o.b * 2), 1)) := by unfold Hid RSto.did; rw [if_pos hk]
  rw [HD.out]
  have s2 : IntKind.u64.wrap o.b = o.b := by rw [IntKind.wrap_u64]; omega
  have s4 : IntKind.u64.wrap (o.b * 2) = o.b * 2 := by rw [IntKind.wrap_u64]; omega
  have HERR := Lib.hid herr
  have HLEN := Lib.hid hlen
  have HBD := Lib.hid hbd
  have HC : Hid (RCur w o T b x (w.alloc o.obj)) := RCur.start h
  have k0 := HC.out.k0
  have k1 := HC.out.k1
  have k2 := HC.out.k2
  have k3 := HC.out.k3
  have x0 := HC.out.b0
  have x1 := HC.out.b1
  have x2 := HC.out.b2
  have x3 := HC.out.b3
  have d1 : decide (m < 0) = false := by simp; omega
  have d2 : decide (x.c.muts ≤ m) = false := by simp; omega
  have t1 : (o.kind == 1) = true := by rw [beq_iff_eq]; omega
  clear h herr hr hm hk hlen hbd
  go_enter Tryd.func23, Tryd.ntmps23
  go_wp2_with fail
  go_region_held3 (fun w' => w'.cell? ⟨b, 0, none⟩ = some (.int .i64 x.c.cells) ∧ w'.cell? ⟨b, 1, none⟩ = some (.int .i64 x.c.muts) ∧ w'.cell? ⟨b, 2, none⟩ = some (.int .i64 x.c.regs) ∧ w'.cell? ⟨b, 3, none⟩ = some (.int .i64 x.c.globs) ∧ w'.cell? ⟨w.heap.size, 0, none⟩ = some (.int .i64 o.kind) ∧ w'.cell? ⟨w.heap.size, 1, none⟩ = some (.int .i64 o.a) ∧ w'.cell? ⟨w.heap.size, 2, none⟩ = some (.int .i64 o.b) ∧ w'.cell? ⟨w.heap.size, 3, none⟩ = some (.int .i64 o.c))
    (first
      | exact ⟨k0, k1, k2, k3, x0, x1, x2, x3⟩
      | exact ⟨HC.out.k0, HC.out.k1, HC.out.k2, HC.out.k3, HC.out.b0, HC.out.b1, HC.out.b2, HC.out.b3⟩)
    (first | (go_at_call 55; refine (rcheck_c (by repeat (first | exact HC.out | apply RCur.drew | apply RCur.drewN)) x.c).mono ?_; rintro e w2 ⟨rfl, hc2⟩; rw [HERR.out]; have HC' := Lib.hid hc2; clear HC; have HC := HC'; clear hc2 HC'))
  rename_i hHeld
  clear hHeld k0 k1 k2 k3 x0 x1 x2 x3 d1 d2
  have x0 := HC.out.b0
  have x1 := HC.out.b1
  have x2 := HC.out.b2
  have x3 := HC.out.b3
  go_wp2_with fail
  refine (rput_c (by repeat (first | exact HC.out | apply RCur.drew | apply RCur.drewN)) 0 m o.a (o.b * 2) (by have := HLEN.out; (try simp only [RSto.put, List.length_append, List.length_singleton]); omega)).mono ?_
  rintro e w3 ⟨rfl, hc3⟩
  have HC' := Lib.hid hc3
  clear HC
  have HC := HC'
  clear hc3 HC'
  clear x0 x1 x2 x3
  go_wp2_with fail
  go_ret
  exact ⟨rfl, (show RCur w o T b _ _ from by repeat (first | exact HC.out | apply RCur.drew | apply RCur.drewN)).fin⟩
set_option maxHeartbeats 4000000 in
set_option maxRecDepth 100000 in
theorem rdo_2 (w : World) (T : Nat → Prop) (b : Nat) (x : RSto) (h : IsR w T b x) (m : Int) (o : Opr) (full : Bool) (hlen : x.puts.length ≤ 99990)
    (hbd : ∀ m r, 0 ≤ x.reg m r ∧ x.reg m r < 18446744073709551616) (hm : 0 ≤ m ∧ m < x.c.muts) (herr : o.err x.c = 0) (hk : o.kind = 2) (h63 : o.b < 9223372036854775808) :
    Calls Tryd.prog 23 #[.pointer (some ⟨b, 0, none⟩), .int .i64 m, o.v, .bool full] w (RPost w T b (x.did m o full)) := by
  obtain ⟨_, hr⟩ := right_of_err herr
  have HD : Hid (x.did m o full = (x.put 0 m o.a (x.reg m o.b), 1)) := by unfold Hid RSto.did; rw [if_neg (by omega), if_pos hk]
  rw [HD.out]
  have HERR := Lib.hid herr
  have HLEN := Lib.hid hlen
  have HBD := Lib.hid hbd
  have HC : Hid (RCur w o T b x (w.alloc o.obj)) := RCur.start h
  have k0 := HC.out.k0
  have k1 := HC.out.k1
  have k2 := HC.out.k2
  have k3 := HC.out.k3
  have x0 := HC.out.b0
  have x1 := HC.out.b1
  have x2 := HC.out.b2
  have x3 := HC.out.b3
  have d1 : decide (m < 0) = false := by simp; omega
  have d2 : decide (x.c.muts ≤ m) = false := by simp; omega
  have t1 : (o.kind == 1) = false := by rw [beq_eq_false_iff_ne]; omega
  have t2 : (o.kind == 2) = true := by rw [beq_iff_eq]; omega
  clear h herr hr hm hk hlen hbd
  go_enter Tryd.func23, Tryd.ntmps23
  go_wp2_with fail
  go_region_held3 (fun w' => w'.cell? ⟨b, 0, none⟩ = some (.int .i64 x.c.cells) ∧ w'.cell? ⟨b, 1, none⟩ = some (.int .i64 x.c.muts) ∧ w'.cell? ⟨b, 2, none⟩ = some (.int .i64 x.c.regs) ∧ w'.cell? ⟨b, 3, none⟩ = some (.int .i64 x.c.globs) ∧ w'.cell? ⟨w.heap.size, 0, none⟩ = some (.int .i64 o.kind) ∧ w'.cell? ⟨w.heap.size, 1, none⟩ = some (.int .i64 o.a) ∧ w'.cell? ⟨w.heap.size, 2, none⟩ = some (.int .i64 o.b) ∧ w'.cell? ⟨w.heap.size, 3, none⟩ = some (.int .i64 o.c))
    (first
      | exact ⟨k0, k1, k2, k3, x0, x1, x2, x3⟩
      | exact ⟨HC.out.k0, HC.out.k1, HC.out.k2, HC.out.k3, HC.out.b0, HC.out.b1, HC.out.b2, HC.out.b3⟩)
    (first | (go_at_call 55; refine (rcheck_c (by repeat (first | exact HC.out | apply RCur.drew | apply RCur.drewN)) x.c).mono ?_; rintro e w2 ⟨rfl, hc2⟩; rw [HERR.out]; have HC' := Lib.hid hc2; clear HC; have HC := HC'; clear hc2 HC'))
  rename_i hHeld
  clear hHeld k0 k1 k2 k3 x0 x1 x2 x3 d1 d2
  have x0 := HC.out.b0
  have x1 := HC.out.b1
  have x2 := HC.out.b2
  have x3 := HC.out.b3
  have y1 := HC.out.b1
  have y2 := HC.out.b2
  go_wp2_with fail
  go_region_held3 (fun w' => w'.cell? ⟨w.heap.size, 1, none⟩ = some (.int .i64 o.a) ∧ w'.cell? ⟨w.heap.size, 2, none⟩ = some (.int .i64 o.b))
    (first
      | exact ⟨y1, y2⟩
      | exact ⟨HC.out.b1, HC.out.b2⟩)
    (first
      | (go_at_call 57; refine (rreg_c (by repeat (first | exact HC.out | apply RCur.drew | apply RCur.drewN)) m o.b (by have := HLEN.out; (try simp only [RSto.put, List.length_append, List.length_singleton]); omega)).mono ?_; rintro e w3 ⟨rfl, hc3⟩; have HC' := Lib.hid hc3; clear HC; have HC := HC'; clear hc3 HC')
      | (go_at_call 56; refine (rput_c (by repeat (first | exact HC.out | apply RCur.drew | apply RCur.drewN)) 0 m o.a (x.reg m o.b) (by have := HLEN.out; (try simp only [RSto.put, List.length_append, List.length_singleton]); omega)).mono ?_; rintro e w4 ⟨rfl, hc4⟩; have HC' := Lib.hid hc4; clear HC; have HC := HC'; clear hc4 HC'))
  all_goals
    go_wp2_with fail
    go_ret
    exact ⟨rfl, (show RCur w o T b _ _ from by repeat (first | exact HC.out | apply RCur.drew | apply RCur.drewN)).fin⟩
set_option maxHeartbeats 4000000 in
set_option maxRecDepth 100000 in
theorem rdo_4n (w : World) (T : Nat → Prop) (b : Nat) (x : RSto) (h : IsR w T b x) (m : Int) (o : Opr) (full : Bool) (hlen : x.puts.length ≤ 99990)
    (hbd : ∀ m r, 0 ≤ x.reg m r ∧ x.reg m r < 18446744073709551616) (hm : 0 ≤ m ∧ m < x.c.muts) (herr : o.err x.c = 0) (hk : o.kind = 4) (h63 : o.b < 9223372036854775808) (hn : numb (x.reg m o.b) < 0) :
    Calls Tryd.prog 23 #[.pointer (some ⟨b, 0, none⟩), .int .i64 m, o.v, .bool full] w (RPost w T b (x.did m o full)) := by
  obtain ⟨_, hr⟩ := right_of_err herr
  have HD : Hid (x.did m o full = (x, 4)) := by unfold Hid RSto.did; rw [if_neg (by omega), if_neg (by omega), if_neg (by omega), if_pos (Or.inl hk), if_pos hn]
  rw [HD.out]
  have dn : decide (numb (x.reg m o.b) < 0) = true := by simpa using hn
  have HERR := Lib.hid herr
  have HLEN := Lib.hid hlen
  have HBD := Lib.hid hbd
  have HC : Hid (RCur w o T b x (w.alloc o.obj)) := RCur.start h
  have k0 := HC.out.k0
  have k1 := HC.out.k1
  have k2 := HC.out.k2
  have k3 := HC.out.k3
  have x0 := HC.out.b0
  have x1 := HC.out.b1
  have x2 := HC.out.b2
  have x3 := HC.out.b3
  have d1 : decide (m < 0) = false := by simp; omega
  have d2 : decide (x.c.muts ≤ m) = false := by simp; omega
  have t1 : (o.kind == 1) = false := by rw [beq_eq_false_iff_ne]; omega
  have t2 : (o.kind == 2) = false := by rw [beq_eq_false_iff_ne]; omega
  have t3 : (o.kind == 3) = false := by rw [beq_eq_false_iff_ne]; omega
  have t4 : (o.kind == 4) = true := by rw [beq_iff_eq]; omega
  clear hn
  clear h herr hr hm hk hlen hbd
  go_enter Tryd.func23, Tryd.ntmps23
  go_wp2_with fail
  go_region_held3 (fun w' => w'.cell? ⟨b, 0, none⟩ = some (.int .i64 x.c.cells) ∧ w'.cell? ⟨b, 1, none⟩ = some (.int .i64 x.c.muts) ∧ w'.cell? ⟨b, 2, none⟩ = some (.int .i64 x.c.regs) ∧ w'.cell? ⟨b, 3, none⟩ = some (.int .i64 x.c.globs) ∧ w'.cell? ⟨w.heap.size, 0, none⟩ = some (.int .i64 o.kind) ∧ w'.cell? ⟨w.heap.size, 1, none⟩ = some (.int .i64 o.a) ∧ w'.cell? ⟨w.heap.size, 2, none⟩ = some (.int .i64 o.b) ∧ w'.cell? ⟨w.heap.size, 3, none⟩ = some (.int .i64 o.c))
    (first
      | exact ⟨k0, k1, k2, k3, x0, x1, x2, x3⟩
      | exact ⟨HC.out.k0, HC.out.k1, HC.out.k2, HC.out.k3, HC.out.b0, HC.out.b1, HC.out.b2, HC.out.b3⟩)
    (first | (go_at_call 55; refine (rcheck_c (by repeat (first | exact HC.out | apply RCur.drew | apply RCur.drewN)) x.c).mono ?_; rintro e w2 ⟨rfl, hc2⟩; rw [HERR.out]; have HC' := Lib.hid hc2; clear HC; have HC := HC'; clear hc2 HC'))
  rename_i hHeld
  clear hHeld k0 k1 k2 k3 x0 x1 x2 x3 d1 d2
  have x0 := HC.out.b0
  have x1 := HC.out.b1
  have x2 := HC.out.b2
  have x3 := HC.out.b3
  go_wp2_with fail
  refine (rreg_c (by repeat (first | exact HC.out | apply RCur.drew | apply RCur.drewN)) m o.b (by have := HLEN.out; (try simp only [RSto.put, List.length_append, List.length_singleton]); omega)).mono ?_
  rintro e w3 ⟨rfl, hc3⟩
  have HC' := Lib.hid hc3
  clear HC
  have HC := HC'
  clear hc3 HC'
  go_wp2_with fail
  refine (rnumb_c _ _ (HBD.out m o.b)).mono ?_
  rintro e w4 ⟨rfl, hw⟩
  obtain rfl := hw.symm
  clear hw
  clear x0 x1 x2 x3
  go_wp2_with fail
  go_ret
  exact ⟨rfl, (show RCur w o T b _ _ from by repeat (first | exact HC.out | apply RCur.drew | apply RCur.drewN)).fin⟩
set_option maxHeartbeats 4000000 in
set_option maxRecDepth 100000 in
theorem rdo_4s (w : World) (T : Nat → Prop) (b : Nat) (x : RSto) (h : IsR w T b x) (m : Int) (o : Opr) (full : Bool) (hlen : x.puts.length ≤ 99990)
    (hbd : ∀ m r, 0 ≤ x.reg m r ∧ x.reg m r < 18446744073709551616) (hm : 0 ≤ m ∧ m < x.c.muts) (herr : o.err x.c = 0) (hk : o.kind = 4) (h63 : o.b < 9223372036854775808) (hn : ¬ numb (x.reg m o.b) < 0) :
    Calls Tryd.prog 23 #[.pointer (some ⟨b, 0, none⟩), .int .i64 m, o.v, .bool full] w (RPost w T b (x.did m o full)) := by
  obtain ⟨_, hr⟩ := right_of_err herr
  have HD : Hid (x.did m o full = (x.put 0 m o.a (x.get (o.kind - 2) (numb (x.reg m o.b)) 0), 1)) := by unfold Hid RSto.did; rw [if_neg (by omega), if_neg (by omega), if_neg (by omega), if_pos (Or.inl hk), if_neg hn]
  rw [HD.out]
  have dn : decide (numb (x.reg m o.b) < 0) = false := by simpa using hn
  have sk : IntKind.i64.wrap (o.kind - 2) = o.kind - 2 := by rw [hk]; decide +kernel
  have HERR := Lib.hid herr
  have HLEN := Lib.hid hlen
  have HBD := Lib.hid hbd
  have HC : Hid (RCur w o T b x (w.alloc o.obj)) := RCur.start h
  have k0 := HC.out.k0
  have k1 := HC.out.k1
  have k2 := HC.out.k2
  have k3 := HC.out.k3
  have x0 := HC.out.b0
  have x1 := HC.out.b1
  have x2 := HC.out.b2
  have x3 := HC.out.b3
  have d1 : decide (m < 0) = false := by simp; omega
  have d2 : decide (x.c.muts ≤ m) = false := by simp; omega
  have t1 : (o.kind == 1) = false := by rw [beq_eq_false_iff_ne]; omega
  have t2 : (o.kind == 2) = false := by rw [beq_eq_false_iff_ne]; omega
  have t3 : (o.kind == 3) = false := by rw [beq_eq_false_iff_ne]; omega
  have t4 : (o.kind == 4) = true := by rw [beq_iff_eq]; omega
  clear hn
  clear h herr hr hm hk hlen hbd
  go_enter Tryd.func23, Tryd.ntmps23
  go_wp2_with fail
  go_region_held3 (fun w' => w'.cell? ⟨b, 0, none⟩ = some (.int .i64 x.c.cells) ∧ w'.cell? ⟨b, 1, none⟩ = some (.int .i64 x.c.muts) ∧ w'.cell? ⟨b, 2, none⟩ = some (.int .i64 x.c.regs) ∧ w'.cell? ⟨b, 3, none⟩ = some (.int .i64 x.c.globs) ∧ w'.cell? ⟨w.heap.size, 0, none⟩ = some (.int .i64 o.kind) ∧ w'.cell? ⟨w.heap.size, 1, none⟩ = some (.int .i64 o.a) ∧ w'.cell? ⟨w.heap.size, 2, none⟩ = some (.int .i64 o.b) ∧ w'.cell? ⟨w.heap.size, 3, none⟩ = some (.int .i64 o.c))
    (first
      | exact ⟨k0, k1, k2, k3, x0, x1, x2, x3⟩
      | exact ⟨HC.out.k0, HC.out.k1, HC.out.k2, HC.out.k3, HC.out.b0, HC.out.b1, HC.out.b2, HC.out.b3⟩)
    (first | (go_at_call 55; refine (rcheck_c (by repeat (first | exact HC.out | apply RCur.drew | apply RCur.drewN)) x.c).mono ?_; rintro e w2 ⟨rfl, hc2⟩; rw [HERR.out]; have HC' := Lib.hid hc2; clear HC; have HC := HC'; clear hc2 HC'))
  rename_i hHeld
  clear hHeld k0 k1 k2 k3 x0 x1 x2 x3 d1 d2
  have x0 := HC.out.b0
  have x1 := HC.out.b1
  have x2 := HC.out.b2
  have x3 := HC.out.b3
  go_wp2_with fail
  refine (rreg_c (by repeat (first | exact HC.out | apply RCur.drew | apply RCur.drewN)) m o.b (by have := HLEN.out; (try simp only [RSto.put, List.length_append, List.length_singleton]); omega)).mono ?_
  rintro e w3 ⟨rfl, hc3⟩
  have HC' := Lib.hid hc3
  clear HC
  have HC := HC'
  clear hc3 HC'
  go_wp2_with fail
  refine (rnumb_c _ _ (HBD.out m o.b)).mono ?_
  rintro e w4 ⟨rfl, hw⟩
  obtain rfl := hw.symm
  clear hw
  have y0 := HC.out.b0
  have y1 := HC.out.b1
  go_wp2_with fail
  go_region_held3 (fun w' => w'.cell? ⟨w.heap.size, 0, none⟩ = some (.int .i64 o.kind) ∧ w'.cell? ⟨w.heap.size, 1, none⟩ = some (.int .i64 o.a))
    (first
      | exact ⟨y0, y1⟩
      | exact ⟨HC.out.b0, HC.out.b1⟩)
    (first
      | (go_at_call 59; refine (rget_c (by repeat (first | exact HC.out | apply RCur.drew | apply RCur.drewN)) (o.kind - 2) (numb (x.reg m o.b)) 0 (by have := HLEN.out; (try simp only [RSto.put, List.length_append, List.length_singleton]); omega)).mono ?_; rintro e w5 ⟨rfl, hc5⟩; have HC' := Lib.hid hc5; clear HC; have HC := HC'; clear hc5 HC')
      | (go_at_call 56; refine (rput_c (by repeat (first | exact HC.out | apply RCur.drew | apply RCur.drewN)) 0 m o.a (x.get (o.kind - 2) (numb (x.reg m o.b)) 0) (by have := HLEN.out; (try simp only [RSto.put, List.length_append, List.length_singleton]); omega)).mono ?_; rintro e w6 ⟨rfl, hc6⟩; have HC' := Lib.hid hc6; clear HC; have HC := HC'; clear hc6 HC'))
  all_goals
    go_wp2_with fail
    go_ret
    exact ⟨rfl, (show RCur w o T b _ _ from by repeat (first | exact HC.out | apply RCur.drew | apply RCur.drewN)).fin⟩
set_option maxHeartbeats 4000000 in
set_option maxRecDepth 100000 in
theorem rdo_5n (w : World) (T : Nat → Prop) (b : Nat) (x : RSto) (h : IsR w T b x) (m : Int) (o : Opr) (full : Bool) (hlen : x.puts.length ≤ 99990)
    (hbd : ∀ m r, 0 ≤ x.reg m r ∧ x.reg m r < 18446744073709551616) (hm : 0 ≤ m ∧ m < x.c.muts) (herr : o.err x.c = 0) (hk : o.kind = 5) (h63 : o.b < 9223372036854775808) (hn : numb (x.reg m o.b) < 0) :
    Calls Tryd.prog 23 #[.pointer (some ⟨b, 0, none⟩), .int .i64 m, o.v, .bool full] w (RPost w T b (x.did m o full)) := by
  obtain ⟨_, hr⟩ := right_of_err herr
  have HD : Hid (x.did m o full = (x, 4)) := by unfold Hid RSto.did; rw [if_neg (by omega), if_neg (by omega), if_neg (by omega), if_pos (Or.inr hk), if_pos hn]
  rw [HD.out]
  have dn : decide (numb (x.reg m o.b) < 0) = true := by simpa using hn
  have HERR := Lib.hid herr
  have HLEN := Lib.hid hlen
  have HBD := Lib.hid hbd
  have HC : Hid (RCur w o T b x (w.alloc o.obj)) := RCur.start h
  have k0 := HC.out.k0
  have k1 := HC.out.k1
  have k2 := HC.out.k2
  have k3 := HC.out.k3
  have x0 := HC.out.b0
  have x1 := HC.out.b1
  have x2 := HC.out.b2
  have x3 := HC.out.b3
  have d1 : decide (m < 0) = false := by simp; omega
  have d2 : decide (x.c.muts ≤ m) = false := by simp; omega
  have t1 : (o.kind == 1) = false := by rw [beq_eq_false_iff_ne]; omega
  have t2 : (o.kind == 2) = false := by rw [beq_eq_false_iff_ne]; omega
  have t3 : (o.kind == 3) = false := by rw [beq_eq_false_iff_ne]; omega
  have t4 : (o.kind == 4) = false := by rw [beq_eq_false_iff_ne]; omega
  have t5 : (o.kind == 5) = true := by rw [beq_iff_eq]; omega
  clear hn
  clear h herr hr hm hk hlen hbd
  go_enter Tryd.func23, Tryd.ntmps23
  go_wp2_with fail
  go_region_held3 (fun w' => w'.cell? ⟨b, 0, none⟩ = some (.int .i64 x.c.cells) ∧ w'.cell? ⟨b, 1, none⟩ = some (.int .i64 x.c.muts) ∧ w'.cell? ⟨b, 2, none⟩ = some (.int .i64 x.c.regs) ∧ w'.cell? ⟨b, 3, none⟩ = some (.int .i64 x.c.globs) ∧ w'.cell? ⟨w.heap.size, 0, none⟩ = some (.int .i64 o.kind) ∧ w'.cell? ⟨w.heap.size, 1, none⟩ = some (.int .i64 o.a) ∧ w'.cell? ⟨w.heap.size, 2, none⟩ = some (.int .i64 o.b) ∧ w'.cell? ⟨w.heap.size, 3, none⟩ = some (.int .i64 o.c))
    (first
      | exact ⟨k0, k1, k2, k3, x0, x1, x2, x3⟩
      | exact ⟨HC.out.k0, HC.out.k1, HC.out.k2, HC.out.k3, HC.out.b0, HC.out.b1, HC.out.b2, HC.out.b3⟩)
    (first | (go_at_call 55; refine (rcheck_c (by repeat (first | exact HC.out | apply RCur.drew | apply RCur.drewN)) x.c).mono ?_; rintro e w2 ⟨rfl, hc2⟩; rw [HERR.out]; have HC' := Lib.hid hc2; clear HC; have HC := HC'; clear hc2 HC'))
  rename_i hHeld
  clear hHeld k0 k1 k2 k3 x0 x1 x2 x3 d1 d2
  have x0 := HC.out.b0
  have x1 := HC.out.b1
  have x2 := HC.out.b2
  have x3 := HC.out.b3
  go_wp2_with fail
  refine (rreg_c (by repeat (first | exact HC.out | apply RCur.drew | apply RCur.drewN)) m o.b (by have := HLEN.out; (try simp only [RSto.put, List.length_append, List.length_singleton]); omega)).mono ?_
  rintro e w3 ⟨rfl, hc3⟩
  have HC' := Lib.hid hc3
  clear HC
  have HC := HC'
  clear hc3 HC'
  go_wp2_with fail
  refine (rnumb_c _ _ (HBD.out m o.b)).mono ?_
  rintro e w4 ⟨rfl, hw⟩
  obtain rfl := hw.symm
  clear hw
  clear x0 x1 x2 x3
  go_wp2_with fail
  go_ret
  exact ⟨rfl, (show RCur w o T b _ _ from by repeat (first | exact HC.out | apply RCur.drew | apply RCur.drewN)).fin⟩
set_option maxHeartbeats 4000000 in
set_option maxRecDepth 100000 in
theorem rdo_5s (w : World) (T : Nat → Prop) (b : Nat) (x : RSto) (h : IsR w T b x) (m : Int) (o : Opr) (full : Bool) (hlen : x.puts.length ≤ 99990)
    (hbd : ∀ m r, 0 ≤ x.reg m r ∧ x.reg m r < 18446744073709551616) (hm : 0 ≤ m ∧ m < x.c.muts) (herr : o.err x.c = 0) (hk : o.kind = 5) (h63 : o.b < 9223372036854775808) (hn : ¬ numb (x.reg m o.b) < 0) :
    Calls Tryd.prog 23 #[.pointer (some ⟨b, 0, none⟩), .int .i64 m, o.v, .bool full] w (RPost w T b (x.did m o full)) := by
  obtain ⟨_, hr⟩ := right_of_err herr
  have HD : Hid (x.did m o full = (x.put 0 m o.a (x.get (o.kind - 2) (numb (x.reg m o.b)) 0), 1)) := by unfold Hid RSto.did; rw [if_neg (by omega), if_neg (by omega), if_neg (by omega), if_pos (Or.inr hk), if_neg hn]
  rw [HD.out]
  have dn : decide (numb (x.reg m o.b) < 0) = false := by simpa using hn
  have sk : IntKind.i64.wrap (o.kind - 2) = o.kind - 2 := by rw [hk]; decide +kernel
  have HERR := Lib.hid herr
  have HLEN := Lib.hid hlen
  have HBD := Lib.hid hbd
  have HC : Hid (RCur w o T b x (w.alloc o.obj)) := RCur.start h
  have k0 := HC.out.k0
  have k1 := HC.out.k1
  have k2 := HC.out.k2
  have k3 := HC.out.k3
  have x0 := HC.out.b0
  have x1 := HC.out.b1
  have x2 := HC.out.b2
  have x3 := HC.out.b3
  have d1 : decide (m < 0) = false := by simp; omega
  have d2 : decide (x.c.muts ≤ m) = false := by simp; omega
  have t1 : (o.kind == 1) = false := by rw [beq_eq_false_iff_ne]; omega
  have t2 : (o.kind == 2) = false := by rw [beq_eq_false_iff_ne]; omega
  have t3 : (o.kind == 3) = false := by rw [beq_eq_false_iff_ne]; omega
  have t4 : (o.kind == 4) = false := by rw [beq_eq_false_iff_ne]; omega
  have t5 : (o.kind == 5) = true := by rw [beq_iff_eq]; omega
  clear hn
  clear h herr hr hm hk hlen hbd
  go_enter Tryd.func23, Tryd.ntmps23
  go_wp2_with fail
  go_region_held3 (fun w' => w'.cell? ⟨b, 0, none⟩ = some (.int .i64 x.c.cells) ∧ w'.cell? ⟨b, 1, none⟩ = some (.int .i64 x.c.muts) ∧ w'.cell? ⟨b, 2, none⟩ = some (.int .i64 x.c.regs) ∧ w'.cell? ⟨b, 3, none⟩ = some (.int .i64 x.c.globs) ∧ w'.cell? ⟨w.heap.size, 0, none⟩ = some (.int .i64 o.kind) ∧ w'.cell? ⟨w.heap.size, 1, none⟩ = some (.int .i64 o.a) ∧ w'.cell? ⟨w.heap.size, 2, none⟩ = some (.int .i64 o.b) ∧ w'.cell? ⟨w.heap.size, 3, none⟩ = some (.int .i64 o.c))
    (first
      | exact ⟨k0, k1, k2, k3, x0, x1, x2, x3⟩
      | exact ⟨HC.out.k0, HC.out.k1, HC.out.k2, HC.out.k3, HC.out.b0, HC.out.b1, HC.out.b2, HC.out.b3⟩)
    (first | (go_at_call 55; refine (rcheck_c (by repeat (first | exact HC.out | apply RCur.drew | apply RCur.drewN)) x.c).mono ?_; rintro e w2 ⟨rfl, hc2⟩; rw [HERR.out]; have HC' := Lib.hid hc2; clear HC; have HC := HC'; clear hc2 HC'))
  rename_i hHeld
  clear hHeld k0 k1 k2 k3 x0 x1 x2 x3 d1 d2
  have x0 := HC.out.b0
  have x1 := HC.out.b1
  have x2 := HC.out.b2
  have x3 := HC.out.b3
  go_wp2_with fail
  refine (rreg_c (by repeat (first | exact HC.out | apply RCur.drew | apply RCur.drewN)) m o.b (by have := HLEN.out; (try simp only [RSto.put, List.length_append, List.length_singleton]); omega)).mono ?_
  rintro e w3 ⟨rfl, hc3⟩
  have HC' := Lib.hid hc3
  clear HC
  have HC := HC'
  clear hc3 HC'
  go_wp2_with fail
  refine (rnumb_c _ _ (HBD.out m o.b)).mono ?_
  rintro e w4 ⟨rfl, hw⟩
  obtain rfl := hw.symm
  clear hw
  have y0 := HC.out.b0
  have y1 := HC.out.b1
  go_wp2_with fail
  go_region_held3 (fun w' => w'.cell? ⟨w.heap.size, 0, none⟩ = some (.int .i64 o.kind) ∧ w'.cell? ⟨w.heap.size, 1, none⟩ = some (.int .i64 o.a))
    (first
      | exact ⟨y0, y1⟩
      | exact ⟨HC.out.b0, HC.out.b1⟩)
    (first
      | (go_at_call 59; refine (rget_c (by repeat (first | exact HC.out | apply RCur.drew | apply RCur.drewN)) (o.kind - 2) (numb (x.reg m o.b)) 0 (by have := HLEN.out; (try simp only [RSto.put, List.length_append, List.length_singleton]); omega)).mono ?_; rintro e w5 ⟨rfl, hc5⟩; have HC' := Lib.hid hc5; clear HC; have HC := HC'; clear hc5 HC')
      | (go_at_call 56; refine (rput_c (by repeat (first | exact HC.out | apply RCur.drew | apply RCur.drewN)) 0 m o.a (x.get (o.kind - 2) (numb (x.reg m o.b)) 0) (by have := HLEN.out; (try simp only [RSto.put, List.length_append, List.length_singleton]); omega)).mono ?_; rintro e w6 ⟨rfl, hc6⟩; have HC' := Lib.hid hc6; clear HC; have HC := HC'; clear hc6 HC'))
  all_goals
    go_wp2_with fail
    go_ret
    exact ⟨rfl, (show RCur w o T b _ _ from by repeat (first | exact HC.out | apply RCur.drew | apply RCur.drewN)).fin⟩
set_option maxHeartbeats 4000000 in
set_option maxRecDepth 100000 in
theorem rdo_6n (w : World) (T : Nat → Prop) (b : Nat) (x : RSto) (h : IsR w T b x) (m : Int) (o : Opr) (full : Bool) (hlen : x.puts.length ≤ 99990)
    (hbd : ∀ m r, 0 ≤ x.reg m r ∧ x.reg m r < 18446744073709551616) (hm : 0 ≤ m ∧ m < x.c.muts) (herr : o.err x.c = 0) (hk : o.kind = 6) (h63 : o.b < 9223372036854775808) (hn : numb (x.reg m o.a) < 0) :
    Calls Tryd.prog 23 #[.pointer (some ⟨b, 0, none⟩), .int .i64 m, o.v, .bool full] w (RPost w T b (x.did m o full)) := by
  obtain ⟨_, hr⟩ := right_of_err herr
  have HD : Hid (x.did m o full = (x, 4)) := by unfold Hid RSto.did; rw [if_neg (by omega), if_neg (by omega), if_neg (by omega), if_neg (by omega), if_pos (Or.inl hk), if_pos hn]
  rw [HD.out]
  have dn : decide (numb (x.reg m o.a) < 0) = true := by simpa using hn
  have HERR := Lib.hid herr
  have HLEN := Lib.hid hlen
  have HBD := Lib.hid hbd
  have HC : Hid (RCur w o T b x (w.alloc o.obj)) := RCur.start h
  have k0 := HC.out.k0
  have k1 := HC.out.k1
  have k2 := HC.out.k2
  have k3 := HC.out.k3
  have x0 := HC.out.b0
  have x1 := HC.out.b1
  have x2 := HC.out.b2
  have x3 := HC.out.b3
  have d1 : decide (m < 0) = false := by simp; omega
  have d2 : decide (x.c.muts ≤ m) = false := by simp; omega
  have t1 : (o.kind == 1) = false := by rw [beq_eq_false_iff_ne]; omega
  have t2 : (o.kind == 2) = false := by rw [beq_eq_false_iff_ne]; omega
  have t3 : (o.kind == 3) = false := by rw [beq_eq_false_iff_ne]; omega
  have t4 : (o.kind == 4) = false := by rw [beq_eq_false_iff_ne]; omega
  have t5 : (o.kind == 5) = false := by rw [beq_eq_false_iff_ne]; omega
  have t6 : (o.kind == 6) = true := by rw [beq_iff_eq]; omega
  clear hn
  clear h herr hr hm hk hlen hbd
  go_enter Tryd.func23, Tryd.ntmps23
  go_wp2_with fail
  go_region_held3 (fun w' => w'.cell? ⟨b, 0, none⟩ = some (.int .i64 x.c.cells) ∧ w'.cell? ⟨b, 1, none⟩ = some (.int .i64 x.c.muts) ∧ w'.cell? ⟨b, 2, none⟩ = some (.int .i64 x.c.regs) ∧ w'.cell? ⟨b, 3, none⟩ = some (.int .i64 x.c.globs) ∧ w'.cell? ⟨w.heap.size, 0, none⟩ = some (.int .i64 o.kind) ∧ w'.cell? ⟨w.heap.size, 1, none⟩ = some (.int .i64 o.a) ∧ w'.cell? ⟨w.heap.size, 2, none⟩ = some (.int .i64 o.b) ∧ w'.cell? ⟨w.heap.size, 3, none⟩ = some (.int .i64 o.c))
    (first
      | exact ⟨k0, k1, k2, k3, x0, x1, x2, x3⟩
      | exact ⟨HC.out.k0, HC.out.k1, HC.out.k2, HC.out.k3, HC.out.b0, HC.out.b1, HC.out.b2, HC.out.b3⟩)
    (first | (go_at_call 55; refine (rcheck_c (by repeat (first | exact HC.out | apply RCur.drew | apply RCur.drewN)) x.c).mono ?_; rintro e w2 ⟨rfl, hc2⟩; rw [HERR.out]; have HC' := Lib.hid hc2; clear HC; have HC := HC'; clear hc2 HC'))
  rename_i hHeld
  clear hHeld k0 k1 k2 k3 x0 x1 x2 x3 d1 d2
  have x0 := HC.out.b0
  have x1 := HC.out.b1
  have x2 := HC.out.b2
  have x3 := HC.out.b3
  go_wp2_with fail
  refine (rreg_c (by repeat (first | exact HC.out | apply RCur.drew | apply RCur.drewN)) m o.a (by have := HLEN.out; (try simp only [RSto.put, List.length_append, List.length_singleton]); omega)).mono ?_
  rintro e w3 ⟨rfl, hc3⟩
  have HC' := Lib.hid hc3
  clear HC
  have HC := HC'
  clear hc3 HC'
  go_wp2_with fail
  refine (rnumb_c _ _ (HBD.out m o.a)).mono ?_
  rintro e w4 ⟨rfl, hw⟩
  obtain rfl := hw.symm
  clear hw
  clear x0 x1 x2 x3
  go_wp2_with fail
  go_ret
  exact ⟨rfl, (show RCur w o T b _ _ from by repeat (first | exact HC.out | apply RCur.drew | apply RCur.drewN)).fin⟩
set_option maxHeartbeats 4000000 in
set_option maxRecDepth 100000 in
theorem rdo_6s (w : World) (T : Nat → Prop) (b : Nat) (x : RSto) (h : IsR w T b x) (m : Int) (o : Opr) (full : Bool) (hlen : x.puts.length ≤ 99990)
    (hbd : ∀ m r, 0 ≤ x.reg m r ∧ x.reg m r < 18446744073709551616) (hm : 0 ≤ m ∧ m < x.c.muts) (herr : o.err x.c = 0) (hk : o.kind = 6) (h63 : o.b < 9223372036854775808) (hn : ¬ numb (x.reg m o.a) < 0) :
    Calls Tryd.prog 23 #[.pointer (some ⟨b, 0, none⟩), .int .i64 m, o.v, .bool full] w (RPost w T b (x.did m o full)) := by
  obtain ⟨_, hr⟩ := right_of_err herr
  have HD : Hid (x.did m o full = (x.put (o.kind - 4) (numb (x.reg m o.a)) 0 (x.reg m o.b), 1)) := by unfold Hid RSto.did; rw [if_neg (by omega), if_neg (by omega), if_neg (by omega), if_neg (by omega), if_pos (Or.inl hk), if_neg hn]
  rw [HD.out]
  have dn : decide (numb (x.reg m o.a) < 0) = false := by simpa using hn
  have sk : IntKind.i64.wrap (o.kind - 4) = o.kind - 4 := by rw [hk]; decide +kernel
  have HERR := Lib.hid herr
  have HLEN := Lib.hid hlen
  have HBD := Lib.hid hbd
  have HC : Hid (RCur w o T b x (w.alloc o.obj)) := RCur.start h
  have k0 := HC.out.k0
  have k1 := HC.out.k1
  have k2 := HC.out.k2
  have k3 := HC.out.k3
  have x0 := HC.out.b0
  have x1 := HC.out.b1
  have x2 := HC.out.b2
  have x3 := HC.out.b3
  have d1 : decide (m < 0) = false := by simp; omega
  have d2 : decide (x.c.muts ≤ m) = false := by simp; omega
  have t1 : (o.kind == 1) = false := by rw [beq_eq_false_iff_ne]; omega
  have t2 : (o.kind == 2) = false := by rw [beq_eq_false_iff_ne]; omega
  have t3 : (o.kind == 3) = false := by rw [beq_eq_false_iff_ne]; omega
  have t4 : (o.kind == 4) = false := by rw [beq_eq_false_iff_ne]; omega
  have t5 : (o.kind == 5) = false := by rw [beq_eq_false_iff_ne]; omega
  have t6 : (o.kind == 6) = true := by rw [beq_iff_eq]; omega
  clear hn
  clear h herr hr hm hk hlen hbd
  go_enter Tryd.func23, Tryd.ntmps23
  go_wp2_with fail
  go_region_held3 (fun w' => w'.cell? ⟨b, 0, none⟩ = some (.int .i64 x.c.cells) ∧ w'.cell? ⟨b, 1, none⟩ = some (.int .i64 x.c.muts) ∧ w'.cell? ⟨b, 2, none⟩ = some (.int .i64 x.c.regs) ∧ w'.cell? ⟨b, 3, none⟩ = some (.int .i64 x.c.globs) ∧ w'.cell? ⟨w.heap.size, 0, none⟩ = some (.int .i64 o.kind) ∧ w'.cell? ⟨w.heap.size, 1, none⟩ = some (.int .i64 o.a) ∧ w'.cell? ⟨w.heap.size, 2, none⟩ = some (.int .i64 o.b) ∧ w'.cell? ⟨w.heap.size, 3, none⟩ = some (.int .i64 o.c))
    (first
      | exact ⟨k0, k1, k2, k3, x0, x1, x2, x3⟩
      | exact ⟨HC.out.k0, HC.out.k1, HC.out.k2, HC.out.k3, HC.out.b0, HC.out.b1, HC.out.b2, HC.out.b3⟩)
    (first | (go_at_call 55; refine (rcheck_c (by repeat (first | exact HC.out | apply RCur.drew | apply RCur.drewN)) x.c).mono ?_; rintro e w2 ⟨rfl, hc2⟩; rw [HERR.out]; have HC' := Lib.hid hc2; clear HC; have HC := HC'; clear hc2 HC'))
  rename_i hHeld
  clear hHeld k0 k1 k2 k3 x0 x1 x2 x3 d1 d2
  have x0 := HC.out.b0
  have x1 := HC.out.b1
  have x2 := HC.out.b2
  have x3 := HC.out.b3
  go_wp2_with fail
  refine (rreg_c (by repeat (first | exact HC.out | apply RCur.drew | apply RCur.drewN)) m o.a (by have := HLEN.out; (try simp only [RSto.put, List.length_append, List.length_singleton]); omega)).mono ?_
  rintro e w3 ⟨rfl, hc3⟩
  have HC' := Lib.hid hc3
  clear HC
  have HC := HC'
  clear hc3 HC'
  go_wp2_with fail
  refine (rnumb_c _ _ (HBD.out m o.a)).mono ?_
  rintro e w4 ⟨rfl, hw⟩
  obtain rfl := hw.symm
  clear hw
  have y0 := HC.out.b0
  have y2 := HC.out.b2
  go_wp2_with fail
  go_region_held3 (fun w' => w'.cell? ⟨w.heap.size, 0, none⟩ = some (.int .i64 o.kind) ∧ w'.cell? ⟨w.heap.size, 2, none⟩ = some (.int .i64 o.b))
    (first
      | exact ⟨y0, y2⟩
      | exact ⟨HC.out.b0, HC.out.b2⟩)
    (first
      | (go_at_call 57; refine (rreg_c (by repeat (first | exact HC.out | apply RCur.drew | apply RCur.drewN)) m o.b (by have := HLEN.out; (try simp only [RSto.put, List.length_append, List.length_singleton]); omega)).mono ?_; rintro e w5 ⟨rfl, hc5⟩; have HC' := Lib.hid hc5; clear HC; have HC := HC'; clear hc5 HC')
      | (go_at_call 56; refine (rput_c (by repeat (first | exact HC.out | apply RCur.drew | apply RCur.drewN)) (o.kind - 4) (numb (x.reg m o.a)) 0 (x.reg m o.b) (by have := HLEN.out; (try simp only [RSto.put, List.length_append, List.length_singleton]); omega)).mono ?_; rintro e w6 ⟨rfl, hc6⟩; have HC' := Lib.hid hc6; clear HC; have HC := HC'; clear hc6 HC'))
  all_goals
    go_wp2_with fail
    go_ret
    exact ⟨rfl, (show RCur w o T b _ _ from by repeat (first | exact HC.out | apply RCur.drew | apply RCur.drewN)).fin⟩
set_option maxHeartbeats 4000000 in
set_option maxRecDepth 100000 in
theorem rdo_7n (w : World) (T : Nat → Prop) (b : Nat) (x : RSto) (h : IsR w T b x) (m : Int) (o : Opr) (full : Bool) (hlen : x.puts.length ≤ 99990)
    (hbd : ∀ m r, 0 ≤ x.reg m r ∧ x.reg m r < 18446744073709551616) (hm : 0 ≤ m ∧ m < x.c.muts) (herr : o.err x.c = 0) (hk : o.kind = 7) (h63 : o.b < 9223372036854775808) (hn : numb (x.reg m o.a) < 0) :
    Calls Tryd.prog 23 #[.pointer (some ⟨b, 0, none⟩), .int .i64 m, o.v, .bool full] w (RPost w T b (x.did m o full)) := by
  obtain ⟨_, hr⟩ := right_of_err herr
  have HD : Hid (x.did m o full = (x, 4)) := by unfold Hid RSto.did; rw [if_neg (by omega), if_neg (by omega), if_neg (by omega), if_neg (by omega), if_pos (Or.inr hk), if_pos hn]
  rw [HD.out]
  have dn : decide (numb (x.reg m o.a) < 0) = true := by simpa using hn
  have HERR := Lib.hid herr
  have HLEN := Lib.hid hlen
  have HBD := Lib.hid hbd
  have HC : Hid (RCur w o T b x (w.alloc o.obj)) := RCur.start h
  have k0 := HC.out.k0
  have k1 := HC.out.k1
  have k2 := HC.out.k2
  have k3 := HC.out.k3
  have x0 := HC.out.b0
  have x1 := HC.out.b1
  have x2 := HC.out.b2
  have x3 := HC.out.b3
  have d1 : decide (m < 0) = false := by simp; omega
  have d2 : decide (x.c.muts ≤ m) = false := by simp; omega
  have t1 : (o.kind == 1) = false := by rw [beq_eq_false_iff_ne]; omega
  have t2 : (o.kind == 2) = false := by rw [beq_eq_false_iff_ne]; omega
  have t3 : (o.kind == 3) = false := by rw [beq_eq_false_iff_ne]; omega
  have t4 : (o.kind == 4) = false := by rw [beq_eq_false_iff_ne]; omega
  have t5 : (o.kind == 5) = false := by rw [beq_eq_false_iff_ne]; omega
  have t6 : (o.kind == 6) = false := by rw [beq_eq_false_iff_ne]; omega
  have t7 : (o.kind == 7) = true := by rw [beq_iff_eq]; omega
  clear hn
  clear h herr hr hm hk hlen hbd
  go_enter Tryd.func23, Tryd.ntmps23
  go_wp2_with fail
  go_region_held3 (fun w' => w'.cell? ⟨b, 0, none⟩ = some (.int .i64 x.c.cells) ∧ w'.cell? ⟨b, 1, none⟩ = some (.int .i64 x.c.muts) ∧ w'.cell? ⟨b, 2, none⟩ = some (.int .i64 x.c.regs) ∧ w'.cell? ⟨b, 3, none⟩ = some (.int .i64 x.c.globs) ∧ w'.cell? ⟨w.heap.size, 0, none⟩ = some (.int .i64 o.kind) ∧ w'.cell? ⟨w.heap.size, 1, none⟩ = some (.int .i64 o.a) ∧ w'.cell? ⟨w.heap.size, 2, none⟩ = some (.int .i64 o.b) ∧ w'.cell? ⟨w.heap.size, 3, none⟩ = some (.int .i64 o.c))
    (first
      | exact ⟨k0, k1, k2, k3, x0, x1, x2, x3⟩
      | exact ⟨HC.out.k0, HC.out.k1, HC.out.k2, HC.out.k3, HC.out.b0, HC.out.b1, HC.out.b2, HC.out.b3⟩)
    (first | (go_at_call 55; refine (rcheck_c (by repeat (first | exact HC.out | apply RCur.drew | apply RCur.drewN)) x.c).mono ?_; rintro e w2 ⟨rfl, hc2⟩; rw [HERR.out]; have HC' := Lib.hid hc2; clear HC; have HC := HC'; clear hc2 HC'))
  rename_i hHeld
  clear hHeld k0 k1 k2 k3 x0 x1 x2 x3 d1 d2
  have x0 := HC.out.b0
  have x1 := HC.out.b1
  have x2 := HC.out.b2
  have x3 := HC.out.b3
  go_wp2_with fail
  refine (rreg_c (by repeat (first | exact HC.out | apply RCur.drew | apply RCur.drewN)) m o.a (by have := HLEN.out; (try simp only [RSto.put, List.length_append, List.length_singleton]); omega)).mono ?_
  rintro e w3 ⟨rfl, hc3⟩
  have HC' := Lib.hid hc3
  clear HC
  have HC := HC'
  clear hc3 HC'
  go_wp2_with fail
  refine (rnumb_c _ _ (HBD.out m o.a)).mono ?_
  rintro e w4 ⟨rfl, hw⟩
  obtain rfl := hw.symm
  clear hw
  clear x0 x1 x2 x3
  go_wp2_with fail
  go_ret
  exact ⟨rfl, (show RCur w o T b _ _ from by repeat (first | exact HC.out | apply RCur.drew | apply RCur.drewN)).fin⟩
set_option maxHeartbeats 4000000 in
set_option maxRecDepth 100000 in
theorem rdo_7s (w : World) (T : Nat → Prop) (b : Nat) (x : RSto) (h : IsR w T b x) (m : Int) (o : Opr) (full : Bool) (hlen : x.puts.length ≤ 99990)
    (hbd : ∀ m r, 0 ≤ x.reg m r ∧ x.reg m r < 18446744073709551616) (hm : 0 ≤ m ∧ m < x.c.muts) (herr : o.err x.c = 0) (hk : o.kind = 7) (h63 : o.b < 9223372036854775808) (hn : ¬ numb (x.reg m o.a) < 0) :
    Calls Tryd.prog 23 #[.pointer (some ⟨b, 0, none⟩), .int .i64 m, o.v, .bool full] w (RPost w T b (x.did m o full)) := by
  obtain ⟨_, hr⟩ := right_of_err herr
  have HD : Hid (x.did m o full = (x.put (o.kind - 4) (numb (x.reg m o.a)) 0 (x.reg m o.b), 1)) := by unfold Hid RSto.did; rw [if_neg (by omega), if_neg (by omega), if_neg (by omega), if_neg (by omega), if_pos (Or.inr hk), if_neg hn]
  rw [HD.out]
  have dn : decide (numb (x.reg m o.a) < 0) = false := by simpa using hn
  have sk : IntKind.i64.wrap (o.kind - 4) = o.kind - 4 := by rw [hk]; decide +kernel
  have HERR := Lib.hid herr
  have HLEN := Lib.hid hlen
  have HBD := Lib.hid hbd
  have HC : Hid (RCur w o T b x (w.alloc o.obj)) := RCur.start h
  have k0 := HC.out.k0
  have k1 := HC.out.k1
  have k2 := HC.out.k2
  have k3 := HC.out.k3
  have x0 := HC.out.b0
  have x1 := HC.out.b1
  have x2 := HC.out.b2
  have x3 := HC.out.b3
  have d1 : decide (m < 0) = false := by simp; omega
  have d2 : decide (x.c.muts ≤ m) = false := by simp; omega
  have t1 : (o.kind == 1) = false := by rw [beq_eq_false_iff_ne]; omega
  have t2 : (o.kind == 2) = false := by rw [beq_eq_false_iff_ne]; omega
  have t3 : (o.kind == 3) = false := by rw [beq_eq_false_iff_ne]; omega
  have t4 : (o.kind == 4) = false := by rw [beq_eq_false_iff_ne]; omega
  have t5 : (o.kind == 5) = false := by rw [beq_eq_false_iff_ne]; omega
  have t6 : (o.kind == 6) = false := by rw [beq_eq_false_iff_ne]; omega
  have t7 : (o.kind == 7) = true := by rw [beq_iff_eq]; omega
  clear hn
  clear h herr hr hm hk hlen hbd
  go_enter Tryd.func23, Tryd.ntmps23
  go_wp2_with fail
  go_region_held3 (fun w' => w'.cell? ⟨b, 0, none⟩ = some (.int .i64 x.c.cells) ∧ w'.cell? ⟨b, 1, none⟩ = some (.int .i64 x.c.muts) ∧ w'.cell? ⟨b, 2, none⟩ = some (.int .i64 x.c.regs) ∧ w'.cell? ⟨b, 3, none⟩ = some (.int .i64 x.c.globs) ∧ w'.cell? ⟨w.heap.size, 0, none⟩ = some (.int .i64 o.kind) ∧ w'.cell? ⟨w.heap.size, 1, none⟩ = some (.int .i64 o.a) ∧ w'.cell? ⟨w.heap.size, 2, none⟩ = some (.int .i64 o.b) ∧ w'.cell? ⟨w.heap.size, 3, none⟩ = some (.int .i64 o.c))
    (first
      | exact ⟨k0, k1, k2, k3, x0, x1, x2, x3⟩
      | exact ⟨HC.out.k0, HC.out.k1, HC.out.k2, HC.out.k3, HC.out.b0, HC.out.b1, HC.out.b2, HC.out.b3⟩)
    (first | (go_at_call 55; refine (rcheck_c (by repeat (first | exact HC.out | apply RCur.drew | apply RCur.drewN)) x.c).mono ?_; rintro e w2 ⟨rfl, hc2⟩; rw [HERR.out]; have HC' := Lib.hid hc2; clear HC; have HC := HC'; clear hc2 HC'))
  rename_i hHeld
  clear hHeld k0 k1 k2 k3 x0 x1 x2 x3 d1 d2
  have x0 := HC.out.b0
  have x1 := HC.out.b1
  have x2 := HC.out.b2
  have x3 := HC.out.b3
  go_wp2_with fail
  refine (rreg_c (by repeat (first | exact HC.out | apply RCur.drew | apply RCur.drewN)) m o.a (by have := HLEN.out; (try simp only [RSto.put, List.length_append, List.length_singleton]); omega)).mono ?_
  rintro e w3 ⟨rfl, hc3⟩
  have HC' := Lib.hid hc3
  clear HC
  have HC := HC'
  clear hc3 HC'
  go_wp2_with fail
  refine (rnumb_c _ _ (HBD.out m o.a)).mono ?_
  rintro e w4 ⟨rfl, hw⟩
  obtain rfl := hw.symm
  clear hw
  have y0 := HC.out.b0
  have y2 := HC.out.b2
  go_wp2_with fail
  go_region_held3 (fun w' => w'.cell? ⟨w.heap.size, 0, none⟩ = some (.int .i64 o.kind) ∧ w'.cell? ⟨w.heap.size, 2, none⟩ = some (.int .i64 o.b))
    (first
      | exact ⟨y0, y2⟩
      | exact ⟨HC.out.b0, HC.out.b2⟩)
    (first
      | (go_at_call 57; refine (rreg_c (by repeat (first | exact HC.out | apply RCur.drew | apply RCur.drewN)) m o.b (by have := HLEN.out; (try simp only [RSto.put, List.length_append, List.length_singleton]); omega)).mono ?_; rintro e w5 ⟨rfl, hc5⟩; have HC' := Lib.hid hc5; clear HC; have HC := HC'; clear hc5 HC')
      | (go_at_call 56; refine (rput_c (by repeat (first | exact HC.out | apply RCur.drew | apply RCur.drewN)) (o.kind - 4) (numb (x.reg m o.a)) 0 (x.reg m o.b) (by have := HLEN.out; (try simp only [RSto.put, List.length_append, List.length_singleton]); omega)).mono ?_; rintro e w6 ⟨rfl, hc6⟩; have HC' := Lib.hid hc6; clear HC; have HC := HC'; clear hc6 HC'))
  all_goals
    go_wp2_with fail
    go_ret
    exact ⟨rfl, (show RCur w o T b _ _ from by repeat (first | exact HC.out | apply RCur.drew | apply RCur.drewN)).fin⟩
end Go.Proofs.YtipoklnoknkfhaaDoor
namespace Go.Proofs.YtipoklnoknkfhaaDoor
open Go Go.RowKit
set_option linter.unusedSimpArgs false
set_option linter.unusedVariables false

set_option maxHeartbeats 4000000 in
set_option maxRecDepth 100000 in
theorem rdo_8 (w : World) (T : Nat → Prop) (b : Nat) (x : RSto) (h : IsR w T b x) (m : Int) (o : Opr) (full : Bool) (hlen : x.puts.length ≤ 99990)
    (hbd : ∀ m r, 0 ≤ x.reg m r ∧ x.reg m r < 18446744073709551616) (hm : 0 ≤ m ∧ m < x.c.muts) (herr : o.err x.c = 0) (hk : o.kind = 8) (h63 : o.b < 9223372036854775808) :
    Calls Tryd.prog 23 #[.pointer (some ⟨b, 0, none⟩), .int .i64 m, o.v, .bool full] w (RPost w T b (x.did m o full)) := by
  obtain ⟨_, hr⟩ := right_of_err herr
  have HD : Hid (x.did m o full = (x.put 0 m o.a (x.get 1 o.b 0), 1)) := by unfold Hid RSto.did; rw [if_neg (by omega), if_neg (by omega), if_neg (by omega), if_neg (by omega), if_neg (by omega), if_pos hk]
  rw [HD.out]
  have HERR := Lib.hid herr
  have HLEN := Lib.hid hlen
  have HBD := Lib.hid hbd
  have HC : Hid (RCur w o T b x (w.alloc o.obj)) := RCur.start h
  have k0 := HC.out.k0
  have k1 := HC.out.k1
  have k2 := HC.out.k2
  have k3 := HC.out.k3
  have x0 := HC.out.b0
  have x1 := HC.out.b1
  have x2 := HC.out.b2
  have x3 := HC.out.b3
  have d1 : decide (m < 0) = false := by simp; omega
  have d2 : decide (x.c.muts ≤ m) = false := by simp; omega
  have t1 : (o.kind == 1) = false := by rw [beq_eq_false_iff_ne]; omega
  have t2 : (o.kind == 2) = false := by rw [beq_eq_false_iff_ne]; omega
  have t3 : (o.kind == 3) = false := by rw [beq_eq_false_iff_ne]; omega
  have t4 : (o.kind == 4) = false := by rw [beq_eq_false_iff_ne]; omega
  have t5 : (o.kind == 5) = false := by rw [beq_eq_false_iff_ne]; omega
  have t6 : (o.kind == 6) = false := by rw [beq_eq_false_iff_ne]; omega
  have t7 : (o.kind == 7) = false := by rw [beq_eq_false_iff_ne]; omega
  have t8 : (o.kind == 8) = true := by rw [beq_iff_eq]; omega
  clear h herr hr hm hk hlen hbd
  go_enter Tryd.func23, Tryd.ntmps23
  go_wp2_with fail
  go_region_held3 (fun w' => w'.cell? ⟨b, 0, none⟩ = some (.int .i64 x.c.cells) ∧ w'.cell? ⟨b, 1, none⟩ = some (.int .i64 x.c.muts) ∧ w'.cell? ⟨b, 2, none⟩ = some (.int .i64 x.c.regs) ∧ w'.cell? ⟨b, 3, none⟩ = some (.int .i64 x.c.globs) ∧ w'.cell? ⟨w.heap.size, 0, none⟩ = some (.int .i64 o.kind) ∧ w'.cell? ⟨w.heap.size, 1, none⟩ = some (.int .i64 o.a) ∧ w'.cell? ⟨w.heap.size, 2, none⟩ = some (.int .i64 o.b) ∧ w'.cell? ⟨w.heap.size, 3, none⟩ = some (.int .i64 o.c))
    (first
      | exact ⟨k0, k1, k2, k3, x0, x1, x2, x3⟩
      | exact ⟨HC.out.k0, HC.out.k1, HC.out.k2, HC.out.k3, HC.out.b0, HC.out.b1, HC.out.b2, HC.out.b3⟩)
    (first | (go_at_call 55; refine (rcheck_c (by repeat (first | exact HC.out | apply RCur.drew | apply RCur.drewN)) x.c).mono ?_; rintro e w2 ⟨rfl, hc2⟩; rw [HERR.out]; have HC' := Lib.hid hc2; clear HC; have HC := HC'; clear hc2 HC'))
  rename_i hHeld
  clear hHeld k0 k1 k2 k3 x0 x1 x2 x3 d1 d2
  have x0 := HC.out.b0
  have x1 := HC.out.b1
  have x2 := HC.out.b2
  have x3 := HC.out.b3
  have y1 := HC.out.b1
  have y2 := HC.out.b2
  go_wp2_with fail
  go_region_held3 (fun w' => w'.cell? ⟨w.heap.size, 1, none⟩ = some (.int .i64 o.a) ∧ w'.cell? ⟨w.heap.size, 2, none⟩ = some (.int .i64 o.b))
    (first
      | exact ⟨y1, y2⟩
      | exact ⟨HC.out.b1, HC.out.b2⟩)
    (first
      | (go_at_call 59; refine (rget_c (by repeat (first | exact HC.out | apply RCur.drew | apply RCur.drewN)) 1 o.b 0 (by have := HLEN.out; (try simp only [RSto.put, List.length_append, List.length_singleton]); omega)).mono ?_; rintro e w3 ⟨rfl, hc3⟩; have HC' := Lib.hid hc3; clear HC; have HC := HC'; clear hc3 HC')
      | (go_at_call 56; refine (rput_c (by repeat (first | exact HC.out | apply RCur.drew | apply RCur.drewN)) 0 m o.a (x.get 1 o.b 0) (by have := HLEN.out; (try simp only [RSto.put, List.length_append, List.length_singleton]); omega)).mono ?_; rintro e w4 ⟨rfl, hc4⟩; have HC' := Lib.hid hc4; clear HC; have HC := HC'; clear hc4 HC'))
  all_goals
    go_wp2_with fail
    go_ret
    exact ⟨rfl, (show RCur w o T b _ _ from by repeat (first | exact HC.out | apply RCur.drew | apply RCur.drewN)).fin⟩
set_option maxHeartbeats 4000000 in
set_option maxRecDepth 100000 in
theorem rdo_9 (w : World) (T : Nat → Prop) (b : Nat) (x : RSto) (h : IsR w T b x) (m : Int) (o : Opr) (full : Bool) (hlen : x.puts.length ≤ 99990)
    (hbd : ∀ m r, 0 ≤ x.reg m r ∧ x.reg m r < 18446744073709551616) (hm : 0 ≤ m ∧ m < x.c.muts) (herr : o.err x.c = 0) (hk : o.kind = 9) (h63 : o.b < 9223372036854775808) :
    Calls Tryd.prog 23 #[.pointer (some ⟨b, 0, none⟩), .int .i64 m, o.v, .bool full] w (RPost w T b (x.did m o full)) := by
  obtain ⟨_, hr⟩ := right_of_err herr
  have HD : Hid (x.did m o full = (x.put 1 o.a 0 (x.reg m o.b), 1)) := by unfold Hid RSto.did; rw [if_neg (by omega), if_neg (by omega), if_neg (by omega), if_neg (by omega), if_neg (by omega), if_neg (by omega), if_pos hk]
  rw [HD.out]
  have HERR := Lib.hid herr
  have HLEN := Lib.hid hlen
  have HBD := Lib.hid hbd
  have HC : Hid (RCur w o T b x (w.alloc o.obj)) := RCur.start h
  have k0 := HC.out.k0
  have k1 := HC.out.k1
  have k2 := HC.out.k2
  have k3 := HC.out.k3
  have x0 := HC.out.b0
  have x1 := HC.out.b1
  have x2 := HC.out.b2
  have x3 := HC.out.b3
  have d1 : decide (m < 0) = false := by simp; omega
  have d2 : decide (x.c.muts ≤ m) = false := by simp; omega
  have t1 : (o.kind == 1) = false := by rw [beq_eq_false_iff_ne]; omega
  have t2 : (o.kind == 2) = false := by rw [beq_eq_false_iff_ne]; omega
  have t3 : (o.kind == 3) = false := by rw [beq_eq_false_iff_ne]; omega
  have t4 : (o.kind == 4) = false := by rw [beq_eq_false_iff_ne]; omega
  have t5 : (o.kind == 5) = false := by rw [beq_eq_false_iff_ne]; omega
  have t6 : (o.kind == 6) = false := by rw [beq_eq_false_iff_ne]; omega
  have t7 : (o.kind == 7) = false := by rw [beq_eq_false_iff_ne]; omega
  have t8 : (o.kind == 8) = false := by rw [beq_eq_false_iff_ne]; omega
  have t9 : (o.kind == 9) = true := by rw [beq_iff_eq]; omega
  clear h herr hr hm hk hlen hbd
  go_enter Tryd.func23, Tryd.ntmps23
  go_wp2_with fail
  go_region_held3 (fun w' => w'.cell? ⟨b, 0, none⟩ = some (.int .i64 x.c.cells) ∧ w'.cell? ⟨b, 1, none⟩ = some (.int .i64 x.c.muts) ∧ w'.cell? ⟨b, 2, none⟩ = some (.int .i64 x.c.regs) ∧ w'.cell? ⟨b, 3, none⟩ = some (.int .i64 x.c.globs) ∧ w'.cell? ⟨w.heap.size, 0, none⟩ = some (.int .i64 o.kind) ∧ w'.cell? ⟨w.heap.size, 1, none⟩ = some (.int .i64 o.a) ∧ w'.cell? ⟨w.heap.size, 2, none⟩ = some (.int .i64 o.b) ∧ w'.cell? ⟨w.heap.size, 3, none⟩ = some (.int .i64 o.c))
    (first
      | exact ⟨k0, k1, k2, k3, x0, x1, x2, x3⟩
      | exact ⟨HC.out.k0, HC.out.k1, HC.out.k2, HC.out.k3, HC.out.b0, HC.out.b1, HC.out.b2, HC.out.b3⟩)
    (first | (go_at_call 55; refine (rcheck_c (by repeat (first | exact HC.out | apply RCur.drew | apply RCur.drewN)) x.c).mono ?_; rintro e w2 ⟨rfl, hc2⟩; rw [HERR.out]; have HC' := Lib.hid hc2; clear HC; have HC := HC'; clear hc2 HC'))
  rename_i hHeld
  clear hHeld k0 k1 k2 k3 x0 x1 x2 x3 d1 d2
  have x0 := HC.out.b0
  have x1 := HC.out.b1
  have x2 := HC.out.b2
  have x3 := HC.out.b3
  have y1 := HC.out.b1
  have y2 := HC.out.b2
  go_wp2_with fail
  go_region_held3 (fun w' => w'.cell? ⟨w.heap.size, 1, none⟩ = some (.int .i64 o.a) ∧ w'.cell? ⟨w.heap.size, 2, none⟩ = some (.int .i64 o.b))
    (first
      | exact ⟨y1, y2⟩
      | exact ⟨HC.out.b1, HC.out.b2⟩)
    (first
      | (go_at_call 57; refine (rreg_c (by repeat (first | exact HC.out | apply RCur.drew | apply RCur.drewN)) m o.b (by have := HLEN.out; (try simp only [RSto.put, List.length_append, List.length_singleton]); omega)).mono ?_; rintro e w3 ⟨rfl, hc3⟩; have HC' := Lib.hid hc3; clear HC; have HC := HC'; clear hc3 HC')
      | (go_at_call 56; refine (rput_c (by repeat (first | exact HC.out | apply RCur.drew | apply RCur.drewN)) 1 o.a 0 (x.reg m o.b) (by have := HLEN.out; (try simp only [RSto.put, List.length_append, List.length_singleton]); omega)).mono ?_; rintro e w4 ⟨rfl, hc4⟩; have HC' := Lib.hid hc4; clear HC; have HC := HC'; clear hc4 HC'))
  all_goals
    go_wp2_with fail
    go_ret
    exact ⟨rfl, (show RCur w o T b _ _ from by repeat (first | exact HC.out | apply RCur.drew | apply RCur.drewN)).fin⟩
set_option maxHeartbeats 4000000 in
set_option maxRecDepth 100000 in
theorem rdo_11 (w : World) (T : Nat → Prop) (b : Nat) (x : RSto) (h : IsR w T b x) (m : Int) (o : Opr) (full : Bool) (hlen : x.puts.length ≤ 99990)
    (hbd : ∀ m r, 0 ≤ x.reg m r ∧ x.reg m r < 18446744073709551616) (hm : 0 ≤ m ∧ m < x.c.muts) (herr : o.err x.c = 0) (hk : o.kind = 11) (h63 : o.b < 9223372036854775808) :
    Calls Tryd.prog 23 #[.pointer (some ⟨b, 0, none⟩), .int .i64 m, o.v, .bool full] w (RPost w T b (x.did m o full)) := by
  obtain ⟨_, hr⟩ := right_of_err herr
  have hq : (if decide (numb (x.reg m o.a) < 0) = true then (2 : Int) else 3) = (if numb (x.reg m o.a) < 0 then 2 else 3) := by simp
  have HD : Hid (x.did m o full = (x, if numb (x.reg m o.a) < 0 then 2 else 3)) := by unfold Hid RSto.did; rw [if_neg (by omega), if_neg (by omega), if_neg (by omega), if_neg (by omega), if_neg (by omega), if_neg (by omega), if_neg (by omega), if_neg (by omega)]
  rw [HD.out]
  generalize (if numb (x.reg m o.a) < 0 then (2 : Int) else 3) = q at hq ⊢
  have HQ := Lib.hid hq
  clear hq
  have HERR := Lib.hid herr
  have HLEN := Lib.hid hlen
  have HBD := Lib.hid hbd
  have HC : Hid (RCur w o T b x (w.alloc o.obj)) := RCur.start h
  have k0 := HC.out.k0
  have k1 := HC.out.k1
  have k2 := HC.out.k2
  have k3 := HC.out.k3
  have x0 := HC.out.b0
  have x1 := HC.out.b1
  have x2 := HC.out.b2
  have x3 := HC.out.b3
  have d1 : decide (m < 0) = false := by simp; omega
  have d2 : decide (x.c.muts ≤ m) = false := by simp; omega
  have t1 : (o.kind == 1) = false := by rw [beq_eq_false_iff_ne]; omega
  have t2 : (o.kind == 2) = false := by rw [beq_eq_false_iff_ne]; omega
  have t3 : (o.kind == 3) = false := by rw [beq_eq_false_iff_ne]; omega
  have t4 : (o.kind == 4) = false := by rw [beq_eq_false_iff_ne]; omega
  have t5 : (o.kind == 5) = false := by rw [beq_eq_false_iff_ne]; omega
  have t6 : (o.kind == 6) = false := by rw [beq_eq_false_iff_ne]; omega
  have t7 : (o.kind == 7) = false := by rw [beq_eq_false_iff_ne]; omega
  have t8 : (o.kind == 8) = false := by rw [beq_eq_false_iff_ne]; omega
  have t9 : (o.kind == 9) = false := by rw [beq_eq_false_iff_ne]; omega
  have t10 : (o.kind == 10) = false := by rw [beq_eq_false_iff_ne]; omega
  have t11 : (o.kind == 11) = true := by rw [beq_iff_eq]; omega
  clear h herr hr hm hk hlen hbd
  go_enter Tryd.func23, Tryd.ntmps23
  go_wp2_with fail
  go_region_held3 (fun w' => w'.cell? ⟨b, 0, none⟩ = some (.int .i64 x.c.cells) ∧ w'.cell? ⟨b, 1, none⟩ = some (.int .i64 x.c.muts) ∧ w'.cell? ⟨b, 2, none⟩ = some (.int .i64 x.c.regs) ∧ w'.cell? ⟨b, 3, none⟩ = some (.int .i64 x.c.globs) ∧ w'.cell? ⟨w.heap.size, 0, none⟩ = some (.int .i64 o.kind) ∧ w'.cell? ⟨w.heap.size, 1, none⟩ = some (.int .i64 o.a) ∧ w'.cell? ⟨w.heap.size, 2, none⟩ = some (.int .i64 o.b) ∧ w'.cell? ⟨w.heap.size, 3, none⟩ = some (.int .i64 o.c))
    (first
      | exact ⟨k0, k1, k2, k3, x0, x1, x2, x3⟩
      | exact ⟨HC.out.k0, HC.out.k1, HC.out.k2, HC.out.k3, HC.out.b0, HC.out.b1, HC.out.b2, HC.out.b3⟩)
    (first | (go_at_call 55; refine (rcheck_c (by repeat (first | exact HC.out | apply RCur.drew | apply RCur.drewN)) x.c).mono ?_; rintro e w2 ⟨rfl, hc2⟩; rw [HERR.out]; have HC' := Lib.hid hc2; clear HC; have HC := HC'; clear hc2 HC'))
  rename_i hHeld
  clear hHeld k0 k1 k2 k3 x0 x1 x2 x3 d1 d2
  have x0 := HC.out.b0
  have x1 := HC.out.b1
  have x2 := HC.out.b2
  have x3 := HC.out.b3
  go_wp2_with fail
  refine (rreg_c (by repeat (first | exact HC.out | apply RCur.drew | apply RCur.drewN)) m o.a (by have := HLEN.out; (try simp only [RSto.put, List.length_append, List.length_singleton]); omega)).mono ?_
  rintro e w3 ⟨rfl, hc3⟩
  have HC' := Lib.hid hc3
  clear HC
  have HC := HC'
  clear hc3 HC'
  go_wp2_with fail
  refine (rnumb_c _ _ (HBD.out m o.a)).mono ?_
  rintro e w4 ⟨rfl, hw⟩
  obtain rfl := hw.symm
  clear hw
  go_wp2_with fail
  refine (rtruth_any _ _).mono ?_
  rintro e w5 ⟨rfl, hw⟩
  obtain rfl := hw.symm
  clear hw
  rw [HQ.out]
  clear x0 x1 x2 x3
  go_wp2_with fail
  go_ret
  exact ⟨rfl, (show RCur w o T b _ _ from by repeat (first | exact HC.out | apply RCur.drew | apply RCur.drewN)).fin⟩
set_option maxHeartbeats 4000000 in
set_option maxRecDepth 100000 in
theorem rdo_3f (w : World) (T : Nat → Prop) (b : Nat) (x : RSto) (h : IsR w T b x) (m : Int) (o : Opr) (full : Bool) (hlen : x.puts.length ≤ 99990)
    (hbd : ∀ m r, 0 ≤ x.reg m r ∧ x.reg m r < 18446744073709551616) (hm : 0 ≤ m ∧ m < x.c.muts) (herr : o.err x.c = 0) (hk : o.kind = 3) (h63 : o.b < 9223372036854775808) (hf : full = true) :
    Calls Tryd.prog 23 #[.pointer (some ⟨b, 0, none⟩), .int .i64 m, o.v, .bool full] w (RPost w T b (x.did m o full)) := by
  obtain ⟨_, hr⟩ := right_of_err herr
  subst hf
  have HD : Hid (x.did m o true = (x, 5)) := by unfold Hid RSto.did; rw [if_neg (by omega), if_neg (by omega), if_pos hk, if_pos rfl]
  rw [HD.out]
  have HERR := Lib.hid herr
  have HLEN := Lib.hid hlen
  have HBD := Lib.hid hbd
  have HC : Hid (RCur w o T b x (w.alloc o.obj)) := RCur.start h
  have k0 := HC.out.k0
  have k1 := HC.out.k1
  have k2 := HC.out.k2
  have k3 := HC.out.k3
  have x0 := HC.out.b0
  have x1 := HC.out.b1
  have x2 := HC.out.b2
  have x3 := HC.out.b3
  have d1 : decide (m < 0) = false := by simp; omega
  have d2 : decide (x.c.muts ≤ m) = false := by simp; omega
  have t1 : (o.kind == 1) = false := by rw [beq_eq_false_iff_ne]; omega
  have t2 : (o.kind == 2) = false := by rw [beq_eq_false_iff_ne]; omega
  have t3 : (o.kind == 3) = true := by rw [beq_iff_eq]; omega
  clear h herr hr hm hk hlen hbd
  go_enter Tryd.func23, Tryd.ntmps23
  go_wp2_with fail
  go_region_held3 (fun w' => w'.cell? ⟨b, 0, none⟩ = some (.int .i64 x.c.cells) ∧ w'.cell? ⟨b, 1, none⟩ = some (.int .i64 x.c.muts) ∧ w'.cell? ⟨b, 2, none⟩ = some (.int .i64 x.c.regs) ∧ w'.cell? ⟨b, 3, none⟩ = some (.int .i64 x.c.globs) ∧ w'.cell? ⟨w.heap.size, 0, none⟩ = some (.int .i64 o.kind) ∧ w'.cell? ⟨w.heap.size, 1, none⟩ = some (.int .i64 o.a) ∧ w'.cell? ⟨w.heap.size, 2, none⟩ = some (.int .i64 o.b) ∧ w'.cell? ⟨w.heap.size, 3, none⟩ = some (.int .i64 o.c))
    (first
      | exact ⟨k0, k1, k2, k3, x0, x1, x2, x3⟩
      | exact ⟨HC.out.k0, HC.out.k1, HC.out.k2, HC.out.k3, HC.out.b0, HC.out.b1, HC.out.b2, HC.out.b3⟩)
    (first | (go_at_call 55; refine (rcheck_c (by repeat (first | exact HC.out | apply RCur.drew | apply RCur.drewN)) x.c).mono ?_; rintro e w2 ⟨rfl, hc2⟩; rw [HERR.out]; have HC' := Lib.hid hc2; clear HC; have HC := HC'; clear hc2 HC'))
  rename_i hHeld
  clear hHeld k0 k1 k2 k3 x0 x1 x2 x3 d1 d2
  have x0 := HC.out.b0
  have x1 := HC.out.b1
  have x2 := HC.out.b2
  have x3 := HC.out.b3
  clear x1 x2 x3
  go_wp2_with fail
  go_ret
  exact ⟨rfl, (show RCur w o T b _ _ from by repeat (first | exact HC.out | apply RCur.drew | apply RCur.drewN)).fin⟩
set_option maxHeartbeats 4000000 in
set_option maxRecDepth 100000 in
theorem rdo_bad (w : World) (T : Nat → Prop) (b : Nat) (x : RSto) (h : IsR w T b x) (m : Int) (o : Opr) (full : Bool) (hf : ¬ x.fits m o = true) :
    Calls Tryd.prog 23 #[.pointer (some ⟨b, 0, none⟩), .int .i64 m, o.v, .bool full] w (RPost w T b (x, 6)) := by
  have HC : Hid (RCur w o T b x (w.alloc o.obj)) := RCur.start h
  have k0 := HC.out.k0
  have k1 := HC.out.k1
  have k2 := HC.out.k2
  have k3 := HC.out.k3
  have x0 := HC.out.b0
  have x1 := HC.out.b1
  have x2 := HC.out.b2
  have x3 := HC.out.b3
  clear h
  by_cases h0 : m < 0
  · have d1 : decide (m < 0) = true := by simpa using h0
    clear hf h0 k0 k1 k2 k3 x0 x1 x2 x3
    go_enter Tryd.func23, Tryd.ntmps23
    go_wp2_with fail
    go_quiet (fail)
    go_wp2_with fail
    go_ret
    exact ⟨rfl, (HC.out.drewN _).fin⟩
  have d1 : decide (m < 0) = false := by simpa using h0
  by_cases h1 : x.c.muts ≤ m
  · have d2 : decide (x.c.muts ≤ m) = true := by simpa using h1
    clear hf h0 h1 k0 k2 k3 x0 x1 x2 x3
    go_enter Tryd.func23, Tryd.ntmps23
    go_wp2_with fail
    go_quiet (fail)
    go_wp2_with fail
    go_ret
    exact ⟨rfl, (HC.out.drewN _).fin⟩
  have d2 : decide (x.c.muts ≤ m) = false := by simpa using h1
  obtain ⟨er, her⟩ : ∃ er, o.err x.c = er := ⟨_, rfl⟩
  have HERR := Lib.hid her
  have hne : (er != 0) = true := by
    unfold RSto.fits at hf
    rw [Bool.and_eq_true, decide_eq_true_iff, beq_iff_eq] at hf
    rw [bne_iff_ne]
    intro e
    exact hf ⟨by omega, her.trans e⟩
  clear hf h0 h1 her
  go_enter Tryd.func23, Tryd.ntmps23
  go_wp2_with fail
  go_region_held3 (fun w' => w'.cell? ⟨b, 0, none⟩ = some (.int .i64 x.c.cells) ∧ w'.cell? ⟨b, 1, none⟩ = some (.int .i64 x.c.muts) ∧ w'.cell? ⟨b, 2, none⟩ = some (.int .i64 x.c.regs) ∧ w'.cell? ⟨b, 3, none⟩ = some (.int .i64 x.c.globs) ∧ w'.cell? ⟨w.heap.size, 0, none⟩ = some (.int .i64 o.kind) ∧ w'.cell? ⟨w.heap.size, 1, none⟩ = some (.int .i64 o.a) ∧ w'.cell? ⟨w.heap.size, 2, none⟩ = some (.int .i64 o.b) ∧ w'.cell? ⟨w.heap.size, 3, none⟩ = some (.int .i64 o.c))
    (first
      | exact ⟨k0, k1, k2, k3, x0, x1, x2, x3⟩
      | exact ⟨HC.out.k0, HC.out.k1, HC.out.k2, HC.out.k3, HC.out.b0, HC.out.b1, HC.out.b2, HC.out.b3⟩)
    (first | (go_at_call 55; refine (rcheck_c (by repeat (first | exact HC.out | apply RCur.drew | apply RCur.drewN)) x.c).mono ?_; rintro e w2 ⟨rfl, hc2⟩; rw [HERR.out]; have HC' := Lib.hid hc2; clear HC; have HC := HC'; clear hc2 HC'))
  all_goals
    go_wp2_with fail
    go_ret
    exact ⟨rfl, (show RCur w o T b _ _ from by repeat (first | exact HC.out | apply RCur.drew | apply RCur.drewN)).fin⟩
end Go.Proofs.YtipoklnoknkfhaaDoor
namespace Go.Proofs.YtipoklnoknkfhaaDoor
open Go Go.RowKit
set_option linter.unusedSimpArgs false
set_option linter.unusedVariables false

set_option maxHeartbeats 4000000 in
set_option maxRecDepth 100000 in
theorem rdo_10 (w : World) (T : Nat → Prop) (b : Nat) (x : RSto) (h : IsR w T b x) (m : Int) (o : Opr) (full : Bool) (hlen : x.puts.length ≤ 99990)
    (hbd : ∀ m r, 0 ≤ x.reg m r ∧ x.reg m r < 18446744073709551616) (hm : 0 ≤ m ∧ m < x.c.muts) (herr : o.err x.c = 0) (hk : o.kind = 10) (h63 : o.b < 9223372036854775808) :
    Calls Tryd.prog 23 #[.pointer (some ⟨b, 0, none⟩), .int .i64 m, o.v, .bool full] w (RPost w T b (x.did m o full)) := by
  obtain ⟨_, hr⟩ := right_of_err herr
  have HD : Hid (x.did m o full = (x, if x.reg m o.a = x.reg m o.b then 2 else 3)) := by unfold Hid RSto.did; rw [if_neg (by omega), if_neg (by omega), if_neg (by omega), if_neg (by omega), if_neg (by omega), if_neg (by omega), if_neg (by omega), if_pos hk]
  rw [HD.out]
  have hq : (if (x.reg m o.a == x.reg m o.b) = true then (2 : Int) else 3) = (if x.reg m o.a = x.reg m o.b then 2 else 3) := by simp
  generalize (if x.reg m o.a = x.reg m o.b then (2 : Int) else 3) = q at hq ⊢
  have HQ := Lib.hid hq
  clear hq
  have HERR := Lib.hid herr
  have HLEN := Lib.hid hlen
  have HBD := Lib.hid hbd
  have HC : Hid (RCur w o T b x (w.alloc o.obj)) := RCur.start h
  have k0 := HC.out.k0
  have k1 := HC.out.k1
  have k2 := HC.out.k2
  have k3 := HC.out.k3
  have x0 := HC.out.b0
  have x1 := HC.out.b1
  have x2 := HC.out.b2
  have x3 := HC.out.b3
  have d1 : decide (m < 0) = false := by simp; omega
  have d2 : decide (x.c.muts ≤ m) = false := by simp; omega
  have t1 : (o.kind == 1) = false := by rw [beq_eq_false_iff_ne]; omega
  have t2 : (o.kind == 2) = false := by rw [beq_eq_false_iff_ne]; omega
  have t3 : (o.kind == 3) = false := by rw [beq_eq_false_iff_ne]; omega
  have t4 : (o.kind == 4) = false := by rw [beq_eq_false_iff_ne]; omega
  have t5 : (o.kind == 5) = false := by rw [beq_eq_false_iff_ne]; omega
  have t6 : (o.kind == 6) = false := by rw [beq_eq_false_iff_ne]; omega
  have t7 : (o.kind == 7) = false := by rw [beq_eq_false_iff_ne]; omega
  have t8 : (o.kind == 8) = false := by rw [beq_eq_false_iff_ne]; omega
  have t9 : (o.kind == 9) = false := by rw [beq_eq_false_iff_ne]; omega
  have t10 : (o.kind == 10) = true := by rw [beq_iff_eq]; omega
  clear h herr hr hm hk hlen hbd
  go_enter Tryd.func23, Tryd.ntmps23
  go_wp2_with fail
  go_region_held3 (fun w' => w'.cell? ⟨b, 0, none⟩ = some (.int .i64 x.c.cells) ∧ w'.cell? ⟨b, 1, none⟩ = some (.int .i64 x.c.muts) ∧ w'.cell? ⟨b, 2, none⟩ = some (.int .i64 x.c.regs) ∧ w'.cell? ⟨b, 3, none⟩ = some (.int .i64 x.c.globs) ∧ w'.cell? ⟨w.heap.size, 0, none⟩ = some (.int .i64 o.kind) ∧ w'.cell? ⟨w.heap.size, 1, none⟩ = some (.int .i64 o.a) ∧ w'.cell? ⟨w.heap.size, 2, none⟩ = some (.int .i64 o.b) ∧ w'.cell? ⟨w.heap.size, 3, none⟩ = some (.int .i64 o.c))
    (first
      | exact ⟨k0, k1, k2, k3, x0, x1, x2, x3⟩
      | exact ⟨HC.out.k0, HC.out.k1, HC.out.k2, HC.out.k3, HC.out.b0, HC.out.b1, HC.out.b2, HC.out.b3⟩)
    (first | (go_at_call 55; refine (rcheck_c (by repeat (first | exact HC.out | apply RCur.drew | apply RCur.drewN)) x.c).mono ?_; rintro e w2 ⟨rfl, hc2⟩; rw [HERR.out]; have HC' := Lib.hid hc2; clear HC; have HC := HC'; clear hc2 HC'))
  rename_i hHeld
  clear hHeld k0 k1 k2 k3 x0 x1 x2 x3 d1 d2
  have x0 := HC.out.b0
  have x1 := HC.out.b1
  have x2 := HC.out.b2
  have x3 := HC.out.b3
  have y1 := HC.out.b1
  have y2 := HC.out.b2
  go_wp2_with fail
  go_region_held3 (fun w' => w'.cell? ⟨w.heap.size, 1, none⟩ = some (.int .i64 o.a) ∧ w'.cell? ⟨w.heap.size, 2, none⟩ = some (.int .i64 o.b))
    (first
      | exact ⟨y1, y2⟩
      | exact ⟨HC.out.b1, HC.out.b2⟩)
    (first
      | (go_at_call 57; refine (rreg_c (by repeat (first | exact HC.out | apply RCur.drew | apply RCur.drewN)) m _ (by have := HLEN.out; (try simp only [RSto.put, List.length_append, List.length_singleton]); omega)).mono ?_; rintro e w3 ⟨rfl, hc3⟩; have HC' := Lib.hid hc3; clear HC; have HC := HC'; clear hc3 HC')
      | (go_at_call 60; refine (rtruth_any _ _).mono ?_; rintro e w5 ⟨rfl, hw⟩; obtain rfl := hw.symm; clear hw; rw [HQ.out]))
  all_goals
    go_wp2_with fail
    go_ret
    exact ⟨rfl, (show RCur w o T b _ _ from by repeat (first | exact HC.out | apply RCur.drew | apply RCur.drewN)).fin⟩
set_option maxHeartbeats 4000000 in
set_option maxRecDepth 100000 in
theorem rdo_3 (w : World) (T : Nat → Prop) (b : Nat) (x : RSto) (h : IsR w T b x) (m : Int) (o : Opr) (full : Bool) (hlen : x.puts.length ≤ 99990)
    (hbd : ∀ m r, 0 ≤ x.reg m r ∧ x.reg m r < 18446744073709551616) (hm : 0 ≤ m ∧ m < x.c.muts) (herr : o.err x.c = 0) (hk : o.kind = 3) (h63 : o.b < 9223372036854775808)  (hf : full = false) (hn : 0 ≤ x.n ∧ x.n < 1000000) :
    Calls Tryd.prog 23 #[.pointer (some ⟨b, 0, none⟩), .int .i64 m, o.v, .bool full] w (RPost w T b (x.did m o full)) := by
  obtain ⟨_, hr⟩ := right_of_err herr
  subst hf
  have HD : Hid (x.did m o false = ({ (((x.put 2 x.n 0 (x.reg m o.b)).put 3 x.n 0 (x.reg m o.c)).put 0 m o.a (x.n * 2 + 1)) with n := x.n + 1 }, 1)) := by unfold Hid RSto.did; rw [if_neg (by omega), if_neg (by omega), if_pos hk, if_neg (by simp)]
  rw [HD.out]
  have s1 : IntKind.u64.wrap x.n = x.n := by rw [IntKind.wrap_u64]; omega
  have s2 : IntKind.u64.wrap (x.n * 2) = x.n * 2 := by rw [IntKind.wrap_u64]; omega
  have s3 : IntKind.u64.wrap (x.n * 2 + 1) = x.n * 2 + 1 := by rw [IntKind.wrap_u64]; omega
  have s4 : IntKind.i64.wrap (x.n + 1) = x.n + 1 := IntWalk.i64_in _ (by omega)
  have HERR := Lib.hid herr
  have HLEN := Lib.hid hlen
  have HBD := Lib.hid hbd
  have HC : Hid (RCur w o T b x (w.alloc o.obj)) := RCur.start h
  have k0 := HC.out.k0
  have k1 := HC.out.k1
  have k2 := HC.out.k2
  have k3 := HC.out.k3
  have x0 := HC.out.b0
  have x1 := HC.out.b1
  have x2 := HC.out.b2
  have x3 := HC.out.b3
  have d1 : decide (m < 0) = false := by simp; omega
  have d2 : decide (x.c.muts ≤ m) = false := by simp; omega
  have t1 : (o.kind == 1) = false := by rw [beq_eq_false_iff_ne]; omega
  have t2 : (o.kind == 2) = false := by rw [beq_eq_false_iff_ne]; omega
  have t3 : (o.kind == 3) = true := by rw [beq_iff_eq]; omega
  clear hn
  clear h herr hr hm hk hlen hbd
  go_enter Tryd.func23, Tryd.ntmps23
  go_wp2_with fail
  go_region_held3 (fun w' => w'.cell? ⟨b, 0, none⟩ = some (.int .i64 x.c.cells) ∧ w'.cell? ⟨b, 1, none⟩ = some (.int .i64 x.c.muts) ∧ w'.cell? ⟨b, 2, none⟩ = some (.int .i64 x.c.regs) ∧ w'.cell? ⟨b, 3, none⟩ = some (.int .i64 x.c.globs) ∧ w'.cell? ⟨w.heap.size, 0, none⟩ = some (.int .i64 o.kind) ∧ w'.cell? ⟨w.heap.size, 1, none⟩ = some (.int .i64 o.a) ∧ w'.cell? ⟨w.heap.size, 2, none⟩ = some (.int .i64 o.b) ∧ w'.cell? ⟨w.heap.size, 3, none⟩ = some (.int .i64 o.c))
    (first
      | exact ⟨k0, k1, k2, k3, x0, x1, x2, x3⟩
      | exact ⟨HC.out.k0, HC.out.k1, HC.out.k2, HC.out.k3, HC.out.b0, HC.out.b1, HC.out.b2, HC.out.b3⟩)
    (first | (go_at_call 55; refine (rcheck_c (by repeat (first | exact HC.out | apply RCur.drew | apply RCur.drewN)) x.c).mono ?_; rintro e w2 ⟨rfl, hc2⟩; rw [HERR.out]; have HC' := Lib.hid hc2; clear HC; have HC := HC'; clear hc2 HC'))
  rename_i hHeld
  clear hHeld k0 k1 k2 k3 x0 x1 x2 x3 d1 d2
  have x0 := HC.out.b0
  have x1 := HC.out.b1
  have x2 := HC.out.b2
  have x3 := HC.out.b3
  go_wp2_with fail
  refine (rreg_c (by repeat (first | exact HC.out | apply RCur.drew | apply RCur.drewN)) m o.b (by have := HLEN.out; (try simp only [RSto.put, List.length_append, List.length_singleton]); omega)).mono ?_
  rintro e w3 ⟨rfl, hc3⟩
  have HC' := Lib.hid hc3
  clear HC
  have HC := HC'
  clear hc3 HC'
  have x3 := HC.out.b3
  go_wp2_with fail
  refine (rreg_c (by repeat (first | exact HC.out | apply RCur.drew | apply RCur.drewN)) m o.c (by have := HLEN.out; (try simp only [RSto.put, List.length_append, List.length_singleton]); omega)).mono ?_
  rintro e w4 ⟨rfl, hc4⟩
  have HC' := Lib.hid hc4
  clear HC
  have HC := HC'
  clear hc4 HC'
  have k5 := HC.out.k5
  clear x0 x1 x2 x3
  go_wp2_with fail
  refine (rput_c (by repeat (first | exact HC.out | apply RCur.drew | apply RCur.drewN)) 2 x.n 0 (x.reg m o.b) (by have := HLEN.out; (try simp only [RSto.put, List.length_append, List.length_singleton]); omega)).mono ?_
  rintro e w5 ⟨rfl, hc5⟩
  have HC' := Lib.hid hc5
  clear HC
  have HC := HC'
  clear hc5 HC'
  clear k5
  have k5 : w5.cell? ⟨b, 5, none⟩ = some (.int .i64 x.n) := HC.out.k5
  go_wp2_with fail
  refine (rput_c (by repeat (first | exact HC.out | apply RCur.drew | apply RCur.drewN)) 3 x.n 0 (x.reg m o.c) (by have := HLEN.out; (try simp only [RSto.put, List.length_append, List.length_singleton]); omega)).mono ?_
  rintro e w6 ⟨rfl, hc6⟩
  have HC' := Lib.hid hc6
  clear HC
  have HC := HC'
  clear hc6 HC'
  clear k5
  have k5 : w6.cell? ⟨b, 5, none⟩ = some (.int .i64 x.n) := HC.out.k5
  have y1 := HC.out.b1
  go_wp2_with fail
  go_region_held3 (fun w' => w'.cell? ⟨w.heap.size, 1, none⟩ = some (.int .i64 o.a) ∧ w'.cell? ⟨b, 5, none⟩ = some (.int .i64 x.n))
    (first
      | exact ⟨y1, k5⟩
      | exact ⟨HC.out.b1, HC.out.k5⟩)
    (first
      | (go_at_call 56; refine (rput_c (by repeat (first | exact HC.out | apply RCur.drew | apply RCur.drewN)) 0 m o.a (x.n * 2 + 1) (by have := HLEN.out; (try simp only [RSto.put, List.length_append, List.length_singleton]); omega)).mono ?_; rintro e w7 ⟨rfl, hc7⟩; have HC' := Lib.hid hc7; clear HC; have HC := HC'; clear hc7 HC'))
  all_goals
    clear y1 k5
    rename_i hHeld
    clear hHeld
    have k5 : w7.cell? ⟨b, 5, none⟩ = some (.int .i64 x.n) := HC.out.k5
    have f5 : w7.frozen? ⟨b, 5, none⟩ = false := HC.out.f5
    have HC' : Hid (RCur w o T b _ _) := HC.out.setN (x.n + 1)
    go_wp2_with fail
    go_ret
    exact ⟨rfl, HC'.out.fin⟩
end Go.Proofs.YtipoklnoknkfhaaDoor
namespace Go.Proofs.YtipoklnoknkfhaaDoor
open Go Go.RowKit
set_option linter.unusedSimpArgs false
set_option linter.unusedVariables false

theorem rdo_any (w : World) (T : Nat → Prop) (b : Nat) (x : RSto) (h : IsR w T b x) (m : Int) (o : Opr) (full : Bool) (hlen : x.puts.length ≤ 99990)
    (hbd : ∀ m r, 0 ≤ x.reg m r ∧ x.reg m r < 18446744073709551616) (h63 : o.b < 9223372036854775808) (hn : 0 ≤ x.n ∧ x.n < 1000000) :
    Calls Tryd.prog 23 #[.pointer (some ⟨b, 0, none⟩), .int .i64 m, o.v, .bool full] w (RPost w T b (x.act m o full)) := by
  unfold RSto.act
  by_cases hf : x.fits m o = true
  case neg => rw [if_neg hf]; exact rdo_bad w T b x h m o full hf
  rw [if_pos hf]
  unfold RSto.fits at hf
  rw [Bool.and_eq_true, decide_eq_true_iff, beq_iff_eq] at hf
  obtain ⟨hm, herr⟩ := hf
  obtain ⟨_, hr⟩ := right_of_err herr
  obtain hk | hk | hk | hk | hk | hk | hk | hk | hk | hk | hk : o.kind = 1 ∨ o.kind = 2 ∨ o.kind = 3 ∨ o.kind = 4 ∨ o.kind = 5 ∨ o.kind = 6 ∨ o.kind = 7 ∨ o.kind = 8 ∨ o.kind = 9 ∨ o.kind = 10 ∨ o.kind = 11 := by have := hr.kind; omega
  · exact rdo_1 w T b x h m o full hlen hbd hm herr hk h63
  · exact rdo_2 w T b x h m o full hlen hbd hm herr hk h63
  · cases full
    · exact rdo_3 w T b x h m o false hlen hbd hm herr hk h63 rfl hn
    · exact rdo_3f w T b x h m o true hlen hbd hm herr hk h63 rfl
  · by_cases hb : numb (x.reg m o.b) < 0
    · exact rdo_4n w T b x h m o full hlen hbd hm herr hk h63 hb
    · exact rdo_4s w T b x h m o full hlen hbd hm herr hk h63 hb
  · by_cases hb : numb (x.reg m o.b) < 0
    · exact rdo_5n w T b x h m o full hlen hbd hm herr hk h63 hb
    · exact rdo_5s w T b x h m o full hlen hbd hm herr hk h63 hb
  · by_cases hb : numb (x.reg m o.a) < 0
    · exact rdo_6n w T b x h m o full hlen hbd hm herr hk h63 hb
    · exact rdo_6s w T b x h m o full hlen hbd hm herr hk h63 hb
  · by_cases hb : numb (x.reg m o.a) < 0
    · exact rdo_7n w T b x h m o full hlen hbd hm herr hk h63 hb
    · exact rdo_7s w T b x h m o full hlen hbd hm herr hk h63 hb
  · exact rdo_8 w T b x h m o full hlen hbd hm herr hk h63
  · exact rdo_9 w T b x h m o full hlen hbd hm herr hk h63
  · exact rdo_10 w T b x h m o full hlen hbd hm herr hk h63
  · exact rdo_11 w T b x h m o full hlen hbd hm herr hk h63
end Go.Proofs.YtipoklnoknkfhaaDoor

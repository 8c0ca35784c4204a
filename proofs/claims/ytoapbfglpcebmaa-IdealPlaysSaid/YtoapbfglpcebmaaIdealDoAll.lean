/- The contract of an ideal store's Do, of every operation. -/
import Derived.Test.YtoapbfglpcebmaaIdealDoB
import Derived.Test.YtoapbfglpcebmaaIdealDoC
import Derived.Test.YtoapbfglpcebmaaIdealDoD
import Derived.Test.YtoapbfglpcebmaaIdealDoE
import Derived.Test.YtoapbfglpcebmaaIdealDoG
namespace Go.Proofs.Ytoapbfglpcebmaa
open Go Go.RowKit
set_option linter.unusedSimpArgs false
set_option linter.unusedVariables false

set_option maxRecDepth 100000 in
theorem ido_out (w : World) (T : Nat → Prop) (b : Nat) (s : Sto) (gr kr : Nat) (vg vc : Value) (h : StoAt w T b s gr kr vg vc) (m : Int) (x : Opr) (full : Bool) (hm : m < 0 ∨ s.c.muts ≤ m) :
    Calls Try.prog 24 #[.pointer (some ⟨b, 0, none⟩), .int .i64 m, x.v, .bool full] w (DoPost w T b (s, 6)) := by
  have HS := Lib.hid (h.below ((Below.refl _ _).alloc (Nat.le_refl _) x.obj))
  obtain ⟨k0, k1, k2, k3, k4, k5, k6, kf⟩ := HS.out.hc
  have hS := Lib.hid h
  clear k0 k2 k3 k4 k5 k6 kf h
  by_cases h1 : m < 0
  · have d1 : decide (m < 0) = true := by simpa using h1
    clear h1 hm k1
    go_enter Try.func24, Try.ntmps24
    go_wp2_with fail
    go_quiet (fail)
    go_wp2_with fail
    go_ret
    exact ⟨rfl, ⟨gr, kr, vg, vc, (HS.out.drewN _).wide (fun _ => Or.inl)⟩, ((Keep.refl T w).alloc _).drewN _⟩
  · have d1 : decide (m < 0) = false := by simpa using h1
    have d2 : decide (s.c.muts ≤ m) = true := by simp; omega
    clear h1 hm
    go_enter Try.func24, Try.ntmps24
    go_wp2_with fail
    go_quiet (fail)
    go_wp2_with fail
    go_ret
    exact ⟨rfl, ⟨gr, kr, vg, vc, (HS.out.drewN _).wide (fun _ => Or.inl)⟩, ((Keep.refl T w).alloc _).drewN _⟩
set_option maxRecDepth 100000 in
theorem ido_nil (w : World) (m : Int) (x : Opr) (full : Bool) :
    Calls Try.prog 24 #[.pointer none, .int .i64 m, x.v, .bool full] w fun e w' => e = .returned (.int .i64 6) ∧ Below w.heap.size w w' := by
  have HB : Hid (Below w.heap.size w (w.alloc x.obj)) := (Below.refl _ _).alloc (Nat.le_refl _) _
  go_enter Try.func24, Try.ntmps24
  go_wp2_with fail
  go_quiet (fail)
  go_wp2_with fail
  go_ret
  exact ⟨rfl, below_drewN HB.out _⟩
set_option maxHeartbeats 4000000 in
set_option maxRecDepth 100000 in
theorem ido_err (w : World) (T : Nat → Prop) (b : Nat) (s : Sto) (gr kr : Nat) (vg vc : Value) (h : StoAt w T b s gr kr vg vc) (m : Int) (x : Opr) (full : Bool)
    (hm : 0 ≤ m ∧ m < s.c.muts) (herr : x.err s.c ≠ 0) :
    Calls Try.prog 24 #[.pointer (some ⟨b, 0, none⟩), .int .i64 m, x.v, .bool full] w (DoPost w T b (s, 6)) := by
  have HS := Lib.hid (h.below ((Below.refl _ _).alloc (Nat.le_refl _) x.obj))
  have HLT := Lib.hid h.lt.1
  obtain ⟨k0, k1, k2, k3, k4, k5, k6, kf⟩ := HS.out.hc
  obtain ⟨x0, x1, x2, x3⟩ := opr_cells (heap_alloc_new w x.obj)
  have d1 : decide (m < 0) = false := by simp; omega
  have d2 : decide (s.c.muts ≤ m) = false := by simp; omega
  obtain ⟨er, her⟩ : ∃ er, x.err s.c = er := ⟨_, rfl⟩
  have HER := Lib.hid her
  rw [her] at herr
  have e1 : (er == 0) = false := by rw [beq_eq_false_iff_ne]; exact herr
  have e2 : (er != 0) = true := by rw [bne, e1]; rfl
  clear k4 k5 k6 kf h herr hm her
  go_enter Try.func24, Try.ntmps24
  go_wp2_with fail
  go_region_held3 (fun w' => w'.cell? ⟨b, 0, none⟩ = some (.int .i64 s.c.cells) ∧ w'.cell? ⟨b, 1, none⟩ = some (.int .i64 s.c.muts) ∧ w'.cell? ⟨b, 2, none⟩ = some (.int .i64 s.c.regs) ∧ w'.cell? ⟨b, 3, none⟩ = some (.int .i64 s.c.globs) ∧ w'.cell? ⟨w.heap.size, 0, none⟩ = some (.int .i64 x.kind) ∧ w'.cell? ⟨w.heap.size, 1, none⟩ = some (.int .i64 x.a) ∧ w'.cell? ⟨w.heap.size, 2, none⟩ = some (.int .i64 x.b) ∧ w'.cell? ⟨w.heap.size, 3, none⟩ = some (.int .i64 x.c) ∧ Below (w.heap.size + 1) (w.alloc x.obj) w')
    (first
      | exact ⟨k0, k1, k2, k3, x0, x1, x2, x3, (Below.refl _ _).drew⟩
      | (go_split_ands; refine ⟨?_, ?_, ?_, ?_, ?_, ?_, ?_, ?_, ?_⟩ <;> first | (rw [hb2.cell (by first | (simp; done) | (have := HLT.out; simp; omega))]; assumption) | exact Below.trans (by assumption) (hb2.mono (by simp))))
    (first | (go_at_call 50; refine (ocheck_any _ s.c x).mono ?_; rintro e w2 ⟨rfl, hb2⟩; rw [HER.out]))
  have HB2 : Hid (Below (w.heap.size + 1) (w.alloc x.obj) w2) := ((Below.refl (w.heap.size + 1) (w.alloc x.obj)).drew).trans (hb2.mono (by simp))
  have HS2 : Hid (StoAt w2 T b s gr kr vg vc) := HS.out.below (by simpa using HB2.out)
  rename_i hHeld
  clear hHeld hb2 k0 k1 k2 k3 x0 x1 x2 x3 d1 d2 HS
  go_wp2_with fail
  go_ret
  exact ⟨rfl, ⟨gr, kr, vg, vc, HS2.out.wide (fun _ => Or.inl)⟩, do_keep HB2.out⟩

theorem ido_any (w : World) (T : Nat → Prop) (b : Nat) (s : Sto) (gr kr : Nat) (vg vc : Value) (h : StoAt w T b s gr kr vg vc) (m : Int) (x : Opr) (full : Bool) (hb : x.b < 9223372036854775808) (hf : s.cs.length < 1000000) :
    Calls Try.prog 24 #[.pointer (some ⟨b, 0, none⟩), .int .i64 m, x.v, .bool full] w (DoPost w T b (s.act m x full)) := by
  unfold Sto.act
  by_cases hfit : s.fits m x = true
  · rw [if_pos hfit]
    unfold Sto.fits at hfit
    rw [Bool.and_eq_true, decide_eq_true_iff, beq_iff_eq] at hfit
    obtain ⟨hm, herr⟩ := hfit
    obtain ⟨_, hr⟩ := right_of_err herr
    obtain hk | hk | hk | hk | hk | hk | hk | hk | hk | hk | hk : x.kind = 1 ∨ x.kind = 2 ∨ x.kind = 3 ∨ x.kind = 4 ∨ x.kind = 5 ∨ x.kind = 6 ∨ x.kind = 7 ∨ x.kind = 8 ∨ x.kind = 9 ∨ x.kind = 10 ∨ x.kind = 11 := by have := hr.kind; omega
    · exact ido_1 w T b s gr kr vg vc h m x full hm herr hk hb
    · exact ido_2 w T b s gr kr vg vc h m x full hm herr hk hb
    · cases hfl : full
      · exact ido_3 w T b s gr kr vg vc h m x false hm herr hk hb hf rfl
      · exact ido_3f w T b s gr kr vg vc h m x true hm herr hk hb rfl
    · rcases hat : s.at_ (s.reg m x.b) with _ | i
      · exact ido_4n w T b s gr kr vg vc h m x full hm herr hk hb hat
      · exact ido_4s w T b s gr kr vg vc h m x full hm herr hk hb i hat
    · rcases hat : s.at_ (s.reg m x.b) with _ | i
      · exact ido_5n w T b s gr kr vg vc h m x full hm herr hk hb hat
      · exact ido_5s w T b s gr kr vg vc h m x full hm herr hk hb i hat
    · rcases hat : s.at_ (s.reg m x.a) with _ | i
      · exact ido_6n w T b s gr kr vg vc h m x full hm herr hk hb hat
      · exact ido_6s w T b s gr kr vg vc h m x full hm herr hk hb i hat
    · rcases hat : s.at_ (s.reg m x.a) with _ | i
      · exact ido_7n w T b s gr kr vg vc h m x full hm herr hk hb hat
      · exact ido_7s w T b s gr kr vg vc h m x full hm herr hk hb i hat
    · exact ido_8 w T b s gr kr vg vc h m x full hm herr hk hb
    · exact ido_9 w T b s gr kr vg vc h m x full hm herr hk hb
    · exact ido_10 w T b s gr kr vg vc h m x full hm herr hk hb
    · rcases hat : s.at_ (s.reg m x.a) with _ | i
      · exact ido_11n w T b s gr kr vg vc h m x full hm herr hk hb hat
      · exact ido_11s w T b s gr kr vg vc h m x full hm herr hk hb i hat
  · rw [if_neg hfit]
    by_cases hm : 0 ≤ m ∧ m < s.c.muts
    · refine ido_err w T b s gr kr vg vc h m x full hm (fun e => hfit ?_)
      unfold Sto.fits
      rw [e]
      simpa using hm
    · exact ido_out w T b s gr kr vg vc h m x full (by omega)
end Go.Proofs.Ytoapbfglpcebmaa

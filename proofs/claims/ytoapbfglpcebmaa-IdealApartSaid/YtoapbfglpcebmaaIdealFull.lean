/- The walk of the law IdealFull. -/
import Derived.Test.YtoapbfglpcebmaaIdealCopy
import Derived.Test.YtoapbfglpcebmaaActs
namespace Go.Proofs.Ytoapbfglpcebmaa
open Go Go.RowKit
set_option linter.unusedSimpArgs false
set_option linter.unusedVariables false

theorem IsSto.wide {w : World} {T T' : Nat → Prop} {b : Nat} {s : Sto} (h : IsSto w T b s) (ht : ∀ x, T x → T' x) : IsSto w T' b s := by
  obtain ⟨gr, kr, vg, vc, h⟩ := h
  exact ⟨gr, kr, vg, vc, h.wide ht⟩
theorem do_is (w : World) (T : Nat → Prop) (b : Nat) (s : Sto) (h : IsSto w T b s) (m : Int) (x : Opr) (full : Bool) (hb : x.b < 9223372036854775808) (hf : s.cs.length < 1000000) :
    Calls Try.prog 24 #[.pointer (some ⟨b, 0, none⟩), .int .i64 m, x.v, .bool full] w fun e w' => e = .returned (.int .i64 (s.act m x full).2) ∧ IsSto w' (fun y => T y ∨ (w.heap.size ≤ y ∧ y < w'.heap.size)) b (s.act m x full).1 ∧ Keep T w w' := by
  obtain ⟨gr, kr, vg, vc, h⟩ := h
  refine (ido_any w T b s gr kr vg vc h m x full hb hf).mono ?_
  rintro e w' ⟨he, ⟨gr', kr', vg', vc', h'⟩, hk⟩
  exact ⟨he, ⟨gr', kr', vg', vc', h'⟩, hk⟩
theorem copy_is (w : World) (T : Nat → Prop) (b : Nat) (s : Sto) (h : IsSto w T b s) :
    Calls Try.prog 31 #[.pointer (some ⟨b, 0, none⟩)] w fun e w' => ∃ b', e = .returned (.pointer (some ⟨b', 0, none⟩)) ∧ IsSto w' (fun x => w.heap.size ≤ x ∧ x < w'.heap.size) b' s ∧ Below w.heap.size w w' := by
  obtain ⟨gr, kr, vg, vc, h⟩ := h
  exact icopy_any w T b s gr kr vg vc h
theorem len_is (w : World) (T : Nat → Prop) (b : Nat) (s : Sto) (h : IsSto w T b s) :
    Calls Try.prog 32 #[.pointer (some ⟨b, 0, none⟩)] w fun e w' => e = .returned (.int .i64 s.cs.length) ∧ w' = w := by
  obtain ⟨gr, kr, vg, vc, h⟩ := h
  exact ilen_any w T b s gr kr vg vc h
theorem IsSto.drew {w : World} {T : Nat → Prop} {b : Nat} {s : Sto} (h : IsSto w T b s) : IsSto w.drew T b s := h.keep ((Keep.refl (fun _ => False) w).drew) (fun _ _ => id)
theorem IsSto.keepOf {w w' : World} {T S : Nat → Prop} {b : Nat} {s : Sto} (h : IsSto w T b s) (k : Keep S w w') (hs : ∀ x, T x → ¬ S x) : IsSto w' T b s := h.keep k hs

/-! what the operations do to one another's answers -/
theorem did_len (s : Sto) (m : Int) (x : Opr) (f : Bool) : (s.did m x f).1.cs.length ≤ s.cs.length + 1 := by
  unfold Sto.did
  repeat' split
  all_goals (simp [Sto.setReg, Sto.push, Sto.setCar, Sto.setCdr] <;> try (split <;> simp [Sto.setReg, Sto.push, Sto.setCar, Sto.setCdr]))
theorem act_len (s : Sto) (m : Int) (x : Opr) (f : Bool) : (s.act m x f).1.cs.length ≤ s.cs.length + 1 := by
  unfold Sto.act
  split
  · exact did_len s m x f
  · simp
theorem act_full (s : Sto) (m : Int) (x : Opr) (h : x.kind ≠ 3) : s.act m x true = s.act m x false := by
  unfold Sto.act Sto.did
  simp only [if_neg h]
theorem act_cons (s : Sto) (m : Int) (x : Opr) (h : x.kind = 3) : (s.act m x true).1 = s ∧ (((s.act m x true).2 = 5 ∧ (s.act m x false).2 = 1 ∧ (s.act m x false).1.cs.length = s.cs.length + 1) ∨ ((s.act m x true).2 = 6 ∧ (s.act m x false).2 = 6)) := by
  unfold Sto.act
  by_cases hf : s.fits m x = true
  · rw [if_pos hf, if_pos hf]
    have e1 : s.did m x true = (s, 5) := by unfold Sto.did; rw [if_neg (by omega), if_neg (by omega), if_pos h]; rfl
    have e2 : s.did m x false = ((s.push (s.reg m x.b, s.reg m x.c)).setReg m x.a (s.cs.length * 2 + 1), 1) := by unfold Sto.did; rw [if_neg (by omega), if_neg (by omega), if_pos h]; rfl
    rw [e1, e2]
    refine ⟨rfl, Or.inl ⟨rfl, rfl, ?_⟩⟩
    simp [Sto.setReg, Sto.push]
  · rw [if_neg hf, if_neg hf]
    exact ⟨rfl, Or.inr ⟨rfl, rfl⟩⟩

set_option maxRecDepth 100000 in
theorem full_none (w : World) (m r g : Int) (A : Option Addr) (c : Nat) (l : List Actn) (ok : ¬ (⟨2, m, r, g⟩ : Cfg).ok = true) :
    Calls Try.prog 7 #[.int .i64 m, .int .i64 r, .int .i64 g, .slice A l.length c] w fun e w' => e = .returned (.bool true) ∧ Below w.heap.size w w' := by
  have OK := Lib.hid ok
  clear ok
  go_enter Try.func7, Try.ntmps7
  go_wp2_with fail
  refine (ideal_awake _).mono ?_
  rintro e w0 ⟨rfl, hB⟩
  have HB0 := Lib.hid hB
  clear hB
  go_wp2_with fail
  refine (inew_any _ m r g).mono ?_
  rintro e w1 ⟨hB, h⟩
  rw [if_neg OK.out] at h
  subst h
  have HB1 : Hid (Below w.heap.size w w1) := HB0.out.trans (hB.mono HB0.out.size)
  clear hB
  go_wp2_with fail
  go_ret
  exact ⟨rfl, HB1.out⟩
def Small (m r g : Int) (n : Nat) : Prop := m ≤ 12 ∧ r ≤ 8 ∧ g ≤ 8 ∧ n ≤ 60
set_option maxRecDepth 100000 in
theorem full_big (w : World) (m r g : Int) (A : Option Addr) (c : Nat) (l : List Actn) (ok : (⟨2, m, r, g⟩ : Cfg).ok = true) (hs : ¬ Small m r g l.length) :
    Calls Try.prog 7 #[.int .i64 m, .int .i64 r, .int .i64 g, .slice A l.length c] w fun e w' => e = .returned (.bool true) ∧ Below w.heap.size w w' := by
  have OK := Lib.hid ok
  clear ok
  unfold Small at hs
  by_cases c0 : 12 < m
  · have d0 : decide (12 < m) = true := by simpa using c0
    clear hs c0
    go_enter Try.func7, Try.ntmps7
    go_wp2_with fail
    refine (ideal_awake _).mono ?_
    rintro e w0 ⟨rfl, hB⟩
    have HB0 := Lib.hid hB
    clear hB
    go_wp2_with fail
    refine (new_at _ m r g OK.out).mono ?_
    rintro e w1 ⟨⟨b, rfl, hs⟩, hB⟩
    have HB1 : Hid (Below w.heap.size w w1) := HB0.out.trans (hB.mono HB0.out.size)
    clear hB hs
    go_wp2_with fail
    go_ret
    exact ⟨rfl, HB1.out⟩
  have d0 : decide (12 < m) = false := by simpa using c0
  by_cases c1 : 8 < r
  · have d1 : decide (8 < r) = true := by simpa using c1
    clear hs c1
    go_enter Try.func7, Try.ntmps7
    go_wp2_with fail
    refine (ideal_awake _).mono ?_
    rintro e w0 ⟨rfl, hB⟩
    have HB0 := Lib.hid hB
    clear hB
    go_wp2_with fail
    refine (new_at _ m r g OK.out).mono ?_
    rintro e w1 ⟨⟨b, rfl, hs⟩, hB⟩
    have HB1 : Hid (Below w.heap.size w w1) := HB0.out.trans (hB.mono HB0.out.size)
    clear hB hs
    go_wp2_with fail
    go_ret
    exact ⟨rfl, HB1.out⟩
  have d1 : decide (8 < r) = false := by simpa using c1
  by_cases c2 : 8 < g
  · have d2 : decide (8 < g) = true := by simpa using c2
    clear hs c2
    go_enter Try.func7, Try.ntmps7
    go_wp2_with fail
    refine (ideal_awake _).mono ?_
    rintro e w0 ⟨rfl, hB⟩
    have HB0 := Lib.hid hB
    clear hB
    go_wp2_with fail
    refine (new_at _ m r g OK.out).mono ?_
    rintro e w1 ⟨⟨b, rfl, hs⟩, hB⟩
    have HB1 : Hid (Below w.heap.size w w1) := HB0.out.trans (hB.mono HB0.out.size)
    clear hB hs
    go_wp2_with fail
    go_ret
    exact ⟨rfl, HB1.out⟩
  have d2 : decide (8 < g) = false := by simpa using c2
  have d3 : decide (60 < (l.length : Int)) = true := by simp; omega
  clear hs c0 c1 c2
  go_enter Try.func7, Try.ntmps7
  go_wp2_with fail
  refine (ideal_awake _).mono ?_
  rintro e w0 ⟨rfl, hB⟩
  have HB0 := Lib.hid hB
  clear hB
  go_wp2_with fail
  refine (new_at _ m r g OK.out).mono ?_
  rintro e w1 ⟨⟨b, rfl, hs⟩, hB⟩
  have HB1 : Hid (Below w.heap.size w w1) := HB0.out.trans (hB.mono HB0.out.size)
  clear hB hs
  go_wp2_with fail
  go_ret
  exact ⟨rfl, HB1.out⟩
set_option maxHeartbeats 400000000 in
set_option maxRecDepth 100000 in
theorem full_walk (w : World) (m r g : Int) (A : Option Addr) (c : Nat) (l : List Actn) (hl : Acts w w.heap.size A l) (hfit : ∀ a ∈ l, a.fits) :
    Calls Try.prog 7 #[.int .i64 m, .int .i64 r, .int .i64 g, .slice A l.length c] w fun e w' => e = .returned (.bool true) ∧ Below w.heap.size w w' := by
  by_cases ok : (⟨2, m, r, g⟩ : Cfg).ok = true
  case neg => exact full_none w m r g A c l ok
  by_cases hsm : Small m r g l.length
  case neg => exact full_big w m r g A c l ok hsm
  obtain ⟨s0, s1, s2, s3⟩ := hsm
  have HL := Lib.hid hl
  have HF := Lib.hid hfit
  have OK := Lib.hid ok
  have d0 : decide (12 < m) = false := by simp; omega
  have d1 : decide (8 < r) = false := by simp; omega
  have d2 : decide (8 < g) = false := by simp; omega
  have d3 : decide (60 < (l.length : Int)) = false := by simp; omega
  clear hl hfit ok
  go_enter Try.func7, Try.ntmps7
  go_wp2_with fail
  refine (ideal_awake _).mono ?_
  rintro e w0 ⟨rfl, hB⟩
  have HB0 := Lib.hid hB
  clear hB
  go_wp2_with fail
  refine (new_at _ m r g OK.out).mono ?_
  rintro e w1 ⟨⟨b, rfl, hs⟩, hB⟩
  have HB1 : Hid (Below w.heap.size w w1) := HB0.out.trans (hB.mono HB0.out.size)
  have HS1 := Lib.hid hs
  have HZ0 := Lib.hid HB0.out.size
  obtain ⟨_, _, hm0', _, hr0', _, _, _⟩ := Cfg.ok_iff _ |>.1 OK.out
  have hm0 : 0 ≤ m := by simp only at hm0'; omega
  have hr0 : 0 ≤ r := by simp only at hr0'; omega
  clear hm0' hr0'
  have HZ1 := Lib.hid hB.size
  clear hB hs
  go_wp2_with fail
  go_loopw [11, 12, 13, 14, 15, 16, 17] (fun i _ _ _ _ _ _ wr => ∃ (k : Nat) (s : Sto), k ≤ l.length ∧ i = .int .i64 k ∧ s.cs.length ≤ k ∧ IsSto wr (fun y => w0.heap.size ≤ y ∧ y < wr.heap.size) b s ∧ Below w.heap.size w wr ∧ w0.heap.size ≤ wr.heap.size) (fun i _ _ _ _ _ _ _ => l.length - (intOf i).toNat)
  case atStart => exact ⟨0, Sto.new m r g, Nat.zero_le _, rfl, by simp [Sto.new], HS1.out, HB1.out, HZ1.out⟩
  case round =>
    obtain ⟨k, s, hk, rfl, hsl, hs, hB, hz⟩ := hrel
    have HS := Lib.hid hs
    have HB := Lib.hid hB
    have HZ := Lib.hid hz
    clear hs hB hz HS1
    by_cases hlt : k < l.length
    · obtain ⟨ak, hak⟩ : ∃ ak, l[k]? = some ak := ⟨_, List.getElem?_eq_getElem hlt⟩
      obtain ⟨ad, rfl, hadB, hac⟩ := HL.out.cell HB.out hak
      have hfk := HF.out _ (List.mem_of_getElem? hak)
      have HAC := Lib.hid hac
      have HFK := Lib.hid hfk
      have hadb : (ad.add (k * 6)).block < w.heap.size := by rw [block_of_add]; exact hadB
      have HADB := Lib.hid hadb
      have HSL := Lib.hid hsl
      have HXB : Hid (ak.x.b < 9223372036854775808) := by have := hfk.2.2.2.1.2; unfold Hid; omega
      have HAK := Lib.hid hak
      clear hac hfk hadb hadB hsl hak
      go_wp2_with fail
      -- the two copies
      refine (copy_is _ _ b s HS.out).mono ?_
      rintro e wa ⟨ba, rfl, hsa, hBa⟩
      have HSA := Lib.hid hsa
      have HS_a := Lib.hid (HS.out.below hBa)
      have HBa : Hid (Below w.heap.size w wa) := HB.out.trans (hBa.mono HB.out.size)
      have HZa := Lib.hid hBa.size
      clear hsa hBa
      go_wp2_with fail
      refine (copy_is _ _ b s HS_a.out).mono ?_
      rintro e wb ⟨bb, rfl, hsb, hBb⟩
      have HSBb := Lib.hid hsb
      have HS_b := Lib.hid (HS_a.out.below hBb)
      have HSA_b := Lib.hid (HSA.out.below hBb)
      have HBb : Hid (Below w.heap.size w wb) := HBa.out.trans (hBb.mono HBa.out.size)
      have HZb := Lib.hid hBb.size
      have HBW := Lib.hid HB.out.size
      clear hsb hBb HS_a HSA
      obtain ⟨q0, q1, q2, q3, q4, q5⟩ : ActCells wb (ad.add (k * 6)) ak := by
        obtain ⟨ad', hE, _, h⟩ := HL.out.cell HBb.out HAK.out
        obtain rfl : ad = ad' := by injection hE
        exact h
      go_wp2_with fail
      go_region_held3 (fun w' => w'.cell? (ad.add (k * 6)) = some (.int .i64 ak.m) ∧ w'.cell? ⟨(ad.add (k * 6)).block, (ad.add (k * 6)).off + 1, none⟩ = some (.int .i64 ak.x.kind) ∧ w'.cell? ⟨(ad.add (k * 6)).block, (ad.add (k * 6)).off + 2, none⟩ = some (.int .i64 ak.x.a) ∧ w'.cell? ⟨(ad.add (k * 6)).block, (ad.add (k * 6)).off + 3, none⟩ = some (.int .i64 ak.x.b) ∧ w'.cell? ⟨(ad.add (k * 6)).block, (ad.add (k * 6)).off + 4, none⟩ = some (.int .i64 ak.x.c))
        (first
          | exact ⟨q0, q1, q2, q3, q4⟩
          | exact ⟨p0, p1, p2, p3, p4⟩)
        (first | (go_at_call 24; refine (do_is _ _ ba s (by repeat (first | exact HSA_b.out | apply IsSto.drew | apply IsSto.drewN)) ak.m ak.x true HXB.out (by have := HSL.out; omega)).mono ?_; rintro e wc ⟨rfl, hst, hkk⟩; have p0 := (hkk.cell (p := ad.add (k * 6)) (Nat.lt_of_lt_of_le HADB.out HBb.out.size) (fun hx => by have h1 : wr.heap.size ≤ (ad.add (k * 6)).block := hx.1; have := HADB.out; have := HBW.out; omega)).trans q0; have p1 := (hkk.cell (p := ⟨(ad.add (k * 6)).block, (ad.add (k * 6)).off + 1, none⟩) (Nat.lt_of_lt_of_le HADB.out HBb.out.size) (fun hx => by have h1 : wr.heap.size ≤ (ad.add (k * 6)).block := hx.1; have := HADB.out; have := HBW.out; omega)).trans q1; have p2 := (hkk.cell (p := ⟨(ad.add (k * 6)).block, (ad.add (k * 6)).off + 2, none⟩) (Nat.lt_of_lt_of_le HADB.out HBb.out.size) (fun hx => by have h1 : wr.heap.size ≤ (ad.add (k * 6)).block := hx.1; have := HADB.out; have := HBW.out; omega)).trans q2; have p3 := (hkk.cell (p := ⟨(ad.add (k * 6)).block, (ad.add (k * 6)).off + 3, none⟩) (Nat.lt_of_lt_of_le HADB.out HBb.out.size) (fun hx => by have h1 : wr.heap.size ≤ (ad.add (k * 6)).block := hx.1; have := HADB.out; have := HBW.out; omega)).trans q3; have p4 := (hkk.cell (p := ⟨(ad.add (k * 6)).block, (ad.add (k * 6)).off + 4, none⟩) (Nat.lt_of_lt_of_le HADB.out HBb.out.size) (fun hx => by have h1 : wr.heap.size ≤ (ad.add (k * 6)).block := hx.1; have := HADB.out; have := HBW.out; omega)).trans q4; have p5 := (hkk.cell (p := ⟨(ad.add (k * 6)).block, (ad.add (k * 6)).off + 5, none⟩) (Nat.lt_of_lt_of_le HADB.out HBb.out.size) (fun hx => by have h1 : wr.heap.size ≤ (ad.add (k * 6)).block := hx.1; have := HADB.out; have := HBW.out; omega)).trans q5; have HA1 := Lib.hid hst; have HB1' := Lib.hid ((HSBb.out.drew).keep hkk (fun y hy hz => by have := hy.1; have := hz.2; omega)); have HS1' := Lib.hid ((HS_b.out.drew).keep hkk (fun y hy hz => by have := hy.2; have := hz.1; omega)); have HW1 : Hid (Below w.heap.size w wc) := (HBb.out.drew).trans (hkk.below HBb.out.size (fun y hy => by have := hy.1; have := HBW.out; omega)); have HZ1' := Lib.hid hkk.size; clear hst hkk))
      clear q0 q1 q2 q3 q4 q5
      go_wp2_with fail
      go_region_held3 (fun w' => w'.cell? (ad.add (k * 6)) = some (.int .i64 ak.m) ∧ w'.cell? ⟨(ad.add (k * 6)).block, (ad.add (k * 6)).off + 1, none⟩ = some (.int .i64 ak.x.kind) ∧ w'.cell? ⟨(ad.add (k * 6)).block, (ad.add (k * 6)).off + 2, none⟩ = some (.int .i64 ak.x.a) ∧ w'.cell? ⟨(ad.add (k * 6)).block, (ad.add (k * 6)).off + 3, none⟩ = some (.int .i64 ak.x.b) ∧ w'.cell? ⟨(ad.add (k * 6)).block, (ad.add (k * 6)).off + 4, none⟩ = some (.int .i64 ak.x.c))
        (first
          | exact ⟨p0, p1, p2, p3, p4⟩
          | exact ⟨q0, q1, q2, q3, q4⟩)
        (first | (go_at_call 24; refine (do_is _ _ bb s (by repeat (first | exact HB1'.out | apply IsSto.drew | apply IsSto.drewN)) ak.m ak.x false HXB.out (by have := HSL.out; omega)).mono ?_; rintro e wd ⟨rfl, hst, hkk⟩; have q0 := (hkk.cell (p := ad.add (k * 6)) (Nat.lt_of_lt_of_le HADB.out HW1.out.size) (fun hx => by have h1 : wa.heap.size ≤ (ad.add (k * 6)).block := hx.1; have := HADB.out; have := HBW.out; have := HZa.out; omega)).trans p0; have q1 := (hkk.cell (p := ⟨(ad.add (k * 6)).block, (ad.add (k * 6)).off + 1, none⟩) (Nat.lt_of_lt_of_le HADB.out HW1.out.size) (fun hx => by have h1 : wa.heap.size ≤ (ad.add (k * 6)).block := hx.1; have := HADB.out; have := HBW.out; have := HZa.out; omega)).trans p1; have q2 := (hkk.cell (p := ⟨(ad.add (k * 6)).block, (ad.add (k * 6)).off + 2, none⟩) (Nat.lt_of_lt_of_le HADB.out HW1.out.size) (fun hx => by have h1 : wa.heap.size ≤ (ad.add (k * 6)).block := hx.1; have := HADB.out; have := HBW.out; have := HZa.out; omega)).trans p2; have q3 := (hkk.cell (p := ⟨(ad.add (k * 6)).block, (ad.add (k * 6)).off + 3, none⟩) (Nat.lt_of_lt_of_le HADB.out HW1.out.size) (fun hx => by have h1 : wa.heap.size ≤ (ad.add (k * 6)).block := hx.1; have := HADB.out; have := HBW.out; have := HZa.out; omega)).trans p3; have q4 := (hkk.cell (p := ⟨(ad.add (k * 6)).block, (ad.add (k * 6)).off + 4, none⟩) (Nat.lt_of_lt_of_le HADB.out HW1.out.size) (fun hx => by have h1 : wa.heap.size ≤ (ad.add (k * 6)).block := hx.1; have := HADB.out; have := HBW.out; have := HZa.out; omega)).trans p4; have q5 := (hkk.cell (p := ⟨(ad.add (k * 6)).block, (ad.add (k * 6)).off + 5, none⟩) (Nat.lt_of_lt_of_le HADB.out HW1.out.size) (fun hx => by have h1 : wa.heap.size ≤ (ad.add (k * 6)).block := hx.1; have := HADB.out; have := HBW.out; have := HZa.out; omega)).trans p5; have HB2 := Lib.hid hst; have HA2 := Lib.hid ((HA1.out.drew).keep hkk (fun y hy hz => by have := hz.1; have := hz.2; have h5 : wb.heap.size = wb.drew.heap.size := rfl; rcases hy with hy | hy <;> (have := hy.1; have := hy.2; omega))); have HS2' := Lib.hid ((HS1'.out.drew).keep hkk (fun y hy hz => by have := hy.2; have := hz.1; have := HZa.out; omega)); have HW2 : Hid (Below w.heap.size w wd) := (HW1.out.drew).trans (hkk.below HW1.out.size (fun y hy => by have := hy.1; have := HBW.out; have := HZa.out; omega)); have HZ2' := Lib.hid hkk.size; clear hst hkk))
      clear p0 p1 p2 p3 p4 p5
      have HW0 := Lib.hid (Nat.le_trans HB0.out.size (Nat.le_refl _))
      by_cases hk3 : ak.x.kind = 3
      · have t3 : (ak.x.kind == 3) = true := by rw [beq_iff_eq]; exact hk3
        obtain ⟨hz, hcase⟩ := act_cons s ak.m ak.x hk3
        rw [hz] at HA2
        have HSLn : s.cs.length ≤ 60 := by have := HSL.out; omega
        clear hz hk3
        rcases hcase with ⟨e5, e1, el⟩ | ⟨e6, e6'⟩
        · rw [e5, e1]
          have EL := Lib.hid el
          clear e5 e1 el
          have s1 : IntKind.i64.wrap ((s.cs.length : Int) + 1) = (s.cs.length : Int) + 1 := IntWalk.i64_in _ (by omega)
          go_wp2_with fail
          refine (len_is _ _ ba _ HA2.out).mono ?_
          rintro e w3 ⟨rfl, hw⟩
          obtain rfl := hw.symm
          clear hw
          go_wp2_with fail
          refine (len_is _ _ b _ HS2'.out).mono ?_
          rintro e w3 ⟨rfl, hw⟩
          obtain rfl := hw.symm
          clear hw
          go_wp2_with fail
          refine (len_is _ _ bb _ HB2.out).mono ?_
          rintro e w3 ⟨rfl, hw⟩
          obtain rfl := hw.symm
          clear hw
          rw [EL.out]
          go_wp2_with fail
          refine (len_is _ _ b _ HS2'.out).mono ?_
          rintro e w3 ⟨rfl, hw⟩
          obtain rfl := hw.symm
          clear hw
          go_wp2_with fail
          refine (copy_is _ _ b s HS2'.out).mono ?_
          rintro e we ⟨bb2, rfl, hsb, hBe⟩
          have HJA := Lib.hid (HA2.out.below hBe)
          have HJB := Lib.hid hsb
          have HJS := Lib.hid (HS2'.out.below hBe)
          have HJW : Hid (Below w.heap.size w we) := HW2.out.trans (hBe.mono HW2.out.size)
          have HJZ : Hid (wr.heap.size ≤ we.heap.size) := Nat.le_trans (Nat.le_trans (Nat.le_trans HZa.out HZb.out) (Nat.le_trans HZ1'.out HZ2'.out)) hBe.size
          obtain ⟨q0, q1, q2, q3, q4, q5⟩ : ActCells we (ad.add (k * 6)) ak := by
            obtain ⟨ad', hE, _, h⟩ := HL.out.cell HJW.out HAK.out
            obtain rfl : ad = ad' := by injection hE
            exact h
          clear hsb hBe
          go_wp2_with fail
          go_loopw [16, 17] (fun mm _ wr' => ∃ (a n : Nat), (a : Int) ≤ m ∧ mm = .int .i64 a ∧ wr' = we.drewN n) (fun mm _ _ => m.toNat - (intOf mm).toNat)
          case atStart => exact ⟨0, 0, hm0, rfl, rfl⟩
          case round =>
            obtain ⟨a, n, ha, rfl, rfl⟩ := hrel
            by_cases hlt2 : (a : Int) < m
            · go_wp2_with fail
              go_loopw [17] (fun rr wr' => ∃ (c' n : Nat), (c' : Int) ≤ r ∧ rr = .int .i64 c' ∧ wr' = we.drewN n) (fun rr _ => r.toNat - (intOf rr).toNat)
              case atStart => exact ⟨0, n, hr0, rfl, rfl⟩
              case round =>
                obtain ⟨c', n', hc', rfl, rfl⟩ := hrel
                by_cases hlt3 : (c' : Int) < r
                · go_wp2_with fail
                  refine (reg_at _ _ ba _ (HJA.out.drewN _) a c').mono ?_
                  rintro e w3 ⟨rfl, n1, rfl⟩
                  go_wp2_with fail
                  refine (reg_at _ _ bb2 _ (HJB.out.drewN _) a c').mono ?_
                  rintro e w4 ⟨rfl, n2, rfl⟩
                  generalize (s).regAt a c' = v
                  have hvv : (v != v) = false := by simp
                  go_wp2_with fail
                  go_roundw
                  case rel => exact ⟨c' + 1, _, by omega, by go_num, rfl⟩
                  case measure => simp [intOf]; omega
                · go_wp2_with fail
                  go_roundw
                  case rel => exact ⟨a + 1, _, by omega, by go_num, rfl⟩
                  case measure => simp [intOf]; omega
            · go_wp2_with fail
              go_region_held3 (fun w' => w'.cell? (ad.add (k * 6)) = some (.int .i64 ak.m) ∧ w'.cell? ⟨(ad.add (k * 6)).block, (ad.add (k * 6)).off + 1, none⟩ = some (.int .i64 ak.x.kind) ∧ w'.cell? ⟨(ad.add (k * 6)).block, (ad.add (k * 6)).off + 2, none⟩ = some (.int .i64 ak.x.a) ∧ w'.cell? ⟨(ad.add (k * 6)).block, (ad.add (k * 6)).off + 3, none⟩ = some (.int .i64 ak.x.b) ∧ w'.cell? ⟨(ad.add (k * 6)).block, (ad.add (k * 6)).off + 4, none⟩ = some (.int .i64 ak.x.c) ∧ w'.cell? ⟨(ad.add (k * 6)).block, (ad.add (k * 6)).off + 5, none⟩ = some (.bool ak.full))
                (first
                  | exact ⟨q0, q1, q2, q3, q4, q5⟩
                  | exact ⟨p0, p1, p2, p3, p4, p5⟩)
                (first | (go_at_call 24; refine (do_is _ _ b s (by repeat (first | exact HJS.out | apply IsSto.drew | apply IsSto.drewN)) ak.m ak.x ak.full HXB.out (by have := HSL.out; omega)).mono ?_; rintro e wz ⟨rfl, hst, hkk⟩; have p0 := (hkk.cell (p := ad.add (k * 6)) (Nat.lt_of_lt_of_le HADB.out HJW.out.size) (fun hx => by have h1 : w0.heap.size ≤ (ad.add (k * 6)).block := hx.1; have := HADB.out; have := HW0.out; omega)).trans q0; have p1 := (hkk.cell (p := ⟨(ad.add (k * 6)).block, (ad.add (k * 6)).off + 1, none⟩) (Nat.lt_of_lt_of_le HADB.out HJW.out.size) (fun hx => by have h1 : w0.heap.size ≤ (ad.add (k * 6)).block := hx.1; have := HADB.out; have := HW0.out; omega)).trans q1; have p2 := (hkk.cell (p := ⟨(ad.add (k * 6)).block, (ad.add (k * 6)).off + 2, none⟩) (Nat.lt_of_lt_of_le HADB.out HJW.out.size) (fun hx => by have h1 : w0.heap.size ≤ (ad.add (k * 6)).block := hx.1; have := HADB.out; have := HW0.out; omega)).trans q2; have p3 := (hkk.cell (p := ⟨(ad.add (k * 6)).block, (ad.add (k * 6)).off + 3, none⟩) (Nat.lt_of_lt_of_le HADB.out HJW.out.size) (fun hx => by have h1 : w0.heap.size ≤ (ad.add (k * 6)).block := hx.1; have := HADB.out; have := HW0.out; omega)).trans q3; have p4 := (hkk.cell (p := ⟨(ad.add (k * 6)).block, (ad.add (k * 6)).off + 4, none⟩) (Nat.lt_of_lt_of_le HADB.out HJW.out.size) (fun hx => by have h1 : w0.heap.size ≤ (ad.add (k * 6)).block := hx.1; have := HADB.out; have := HW0.out; omega)).trans q4; have p5 := (hkk.cell (p := ⟨(ad.add (k * 6)).block, (ad.add (k * 6)).off + 5, none⟩) (Nat.lt_of_lt_of_le HADB.out HJW.out.size) (fun hx => by have h1 : w0.heap.size ≤ (ad.add (k * 6)).block := hx.1; have := HADB.out; have := HW0.out; omega)).trans q5; have HSF := Lib.hid hst; have HWF : Hid (Below w.heap.size w wz) := (below_drewN HJW.out _).trans (hkk.below HJW.out.size (fun y hy => by have := hy.1; have := HW0.out; omega)); have HZF := Lib.hid hkk.size; clear hst hkk))
              go_wp2_with fail
              go_roundw
              case rel =>
                refine ⟨k + 1, (s.act ak.m ak.x ak.full).1, by omega, by go_num, by have := act_len s ak.m ak.x ak.full; have := HSL.out; omega, HSF.out.wide (fun y hy => ?_), HWF.out, ?_⟩
                · have e1 : we.heap.size = (we.drewN n).heap.size := rfl
                  have e2 := HZF.out
                  have e3 := HJZ.out
                  have e4 := HZ.out
                  rcases hy with hy | hy
                  · exact ⟨hy.1, Nat.lt_of_lt_of_le hy.2 (Nat.le_trans e3 e2)⟩
                  · exact ⟨Nat.le_trans (Nat.le_trans e4 e3) hy.1, hy.2⟩
                · exact Nat.le_trans (Nat.le_trans HZ.out HJZ.out) HZF.out
              case measure => simp [intOf]; omega
        · rw [e6, e6']
          clear e6 e6'
          go_wp2_with fail
          refine (copy_is _ _ b s HS2'.out).mono ?_
          rintro e we ⟨bb2, rfl, hsb, hBe⟩
          have HJA := Lib.hid (HA2.out.below hBe)
          have HJB := Lib.hid hsb
          have HJS := Lib.hid (HS2'.out.below hBe)
          have HJW : Hid (Below w.heap.size w we) := HW2.out.trans (hBe.mono HW2.out.size)
          have HJZ : Hid (wr.heap.size ≤ we.heap.size) := Nat.le_trans (Nat.le_trans (Nat.le_trans HZa.out HZb.out) (Nat.le_trans HZ1'.out HZ2'.out)) hBe.size
          obtain ⟨q0, q1, q2, q3, q4, q5⟩ : ActCells we (ad.add (k * 6)) ak := by
            obtain ⟨ad', hE, _, h⟩ := HL.out.cell HJW.out HAK.out
            obtain rfl : ad = ad' := by injection hE
            exact h
          clear hsb hBe
          go_wp2_with fail
          go_loopw [16, 17] (fun mm _ wr' => ∃ (a n : Nat), (a : Int) ≤ m ∧ mm = .int .i64 a ∧ wr' = we.drewN n) (fun mm _ _ => m.toNat - (intOf mm).toNat)
          case atStart => exact ⟨0, 0, hm0, rfl, rfl⟩
          case round =>
            obtain ⟨a, n, ha, rfl, rfl⟩ := hrel
            by_cases hlt2 : (a : Int) < m
            · go_wp2_with fail
              go_loopw [17] (fun rr wr' => ∃ (c' n : Nat), (c' : Int) ≤ r ∧ rr = .int .i64 c' ∧ wr' = we.drewN n) (fun rr _ => r.toNat - (intOf rr).toNat)
              case atStart => exact ⟨0, n, hr0, rfl, rfl⟩
              case round =>
                obtain ⟨c', n', hc', rfl, rfl⟩ := hrel
                by_cases hlt3 : (c' : Int) < r
                · go_wp2_with fail
                  refine (reg_at _ _ ba _ (HJA.out.drewN _) a c').mono ?_
                  rintro e w3 ⟨rfl, n1, rfl⟩
                  go_wp2_with fail
                  refine (reg_at _ _ bb2 _ (HJB.out.drewN _) a c').mono ?_
                  rintro e w4 ⟨rfl, n2, rfl⟩
                  generalize (s).regAt a c' = v
                  have hvv : (v != v) = false := by simp
                  go_wp2_with fail
                  go_roundw
                  case rel => exact ⟨c' + 1, _, by omega, by go_num, rfl⟩
                  case measure => simp [intOf]; omega
                · go_wp2_with fail
                  go_roundw
                  case rel => exact ⟨a + 1, _, by omega, by go_num, rfl⟩
                  case measure => simp [intOf]; omega
            · go_wp2_with fail
              go_region_held3 (fun w' => w'.cell? (ad.add (k * 6)) = some (.int .i64 ak.m) ∧ w'.cell? ⟨(ad.add (k * 6)).block, (ad.add (k * 6)).off + 1, none⟩ = some (.int .i64 ak.x.kind) ∧ w'.cell? ⟨(ad.add (k * 6)).block, (ad.add (k * 6)).off + 2, none⟩ = some (.int .i64 ak.x.a) ∧ w'.cell? ⟨(ad.add (k * 6)).block, (ad.add (k * 6)).off + 3, none⟩ = some (.int .i64 ak.x.b) ∧ w'.cell? ⟨(ad.add (k * 6)).block, (ad.add (k * 6)).off + 4, none⟩ = some (.int .i64 ak.x.c) ∧ w'.cell? ⟨(ad.add (k * 6)).block, (ad.add (k * 6)).off + 5, none⟩ = some (.bool ak.full))
                (first
                  | exact ⟨q0, q1, q2, q3, q4, q5⟩
                  | exact ⟨p0, p1, p2, p3, p4, p5⟩)
                (first | (go_at_call 24; refine (do_is _ _ b s (by repeat (first | exact HJS.out | apply IsSto.drew | apply IsSto.drewN)) ak.m ak.x ak.full HXB.out (by have := HSL.out; omega)).mono ?_; rintro e wz ⟨rfl, hst, hkk⟩; have p0 := (hkk.cell (p := ad.add (k * 6)) (Nat.lt_of_lt_of_le HADB.out HJW.out.size) (fun hx => by have h1 : w0.heap.size ≤ (ad.add (k * 6)).block := hx.1; have := HADB.out; have := HW0.out; omega)).trans q0; have p1 := (hkk.cell (p := ⟨(ad.add (k * 6)).block, (ad.add (k * 6)).off + 1, none⟩) (Nat.lt_of_lt_of_le HADB.out HJW.out.size) (fun hx => by have h1 : w0.heap.size ≤ (ad.add (k * 6)).block := hx.1; have := HADB.out; have := HW0.out; omega)).trans q1; have p2 := (hkk.cell (p := ⟨(ad.add (k * 6)).block, (ad.add (k * 6)).off + 2, none⟩) (Nat.lt_of_lt_of_le HADB.out HJW.out.size) (fun hx => by have h1 : w0.heap.size ≤ (ad.add (k * 6)).block := hx.1; have := HADB.out; have := HW0.out; omega)).trans q2; have p3 := (hkk.cell (p := ⟨(ad.add (k * 6)).block, (ad.add (k * 6)).off + 3, none⟩) (Nat.lt_of_lt_of_le HADB.out HJW.out.size) (fun hx => by have h1 : w0.heap.size ≤ (ad.add (k * 6)).block := hx.1; have := HADB.out; have := HW0.out; omega)).trans q3; have p4 := (hkk.cell (p := ⟨(ad.add (k * 6)).block, (ad.add (k * 6)).off + 4, none⟩) (Nat.lt_of_lt_of_le HADB.out HJW.out.size) (fun hx => by have h1 : w0.heap.size ≤ (ad.add (k * 6)).block := hx.1; have := HADB.out; have := HW0.out; omega)).trans q4; have p5 := (hkk.cell (p := ⟨(ad.add (k * 6)).block, (ad.add (k * 6)).off + 5, none⟩) (Nat.lt_of_lt_of_le HADB.out HJW.out.size) (fun hx => by have h1 : w0.heap.size ≤ (ad.add (k * 6)).block := hx.1; have := HADB.out; have := HW0.out; omega)).trans q5; have HSF := Lib.hid hst; have HWF : Hid (Below w.heap.size w wz) := (below_drewN HJW.out _).trans (hkk.below HJW.out.size (fun y hy => by have := hy.1; have := HW0.out; omega)); have HZF := Lib.hid hkk.size; clear hst hkk))
              go_wp2_with fail
              go_roundw
              case rel =>
                refine ⟨k + 1, (s.act ak.m ak.x ak.full).1, by omega, by go_num, by have := act_len s ak.m ak.x ak.full; have := HSL.out; omega, HSF.out.wide (fun y hy => ?_), HWF.out, ?_⟩
                · have e1 : we.heap.size = (we.drewN n).heap.size := rfl
                  have e2 := HZF.out
                  have e3 := HJZ.out
                  have e4 := HZ.out
                  rcases hy with hy | hy
                  · exact ⟨hy.1, Nat.lt_of_lt_of_le hy.2 (Nat.le_trans e3 e2)⟩
                  · exact ⟨Nat.le_trans (Nat.le_trans e4 e3) hy.1, hy.2⟩
                · exact Nat.le_trans (Nat.le_trans HZ.out HJZ.out) HZF.out
              case measure => simp [intOf]; omega
      · have t3 : (ak.x.kind == 3) = false := by rw [beq_eq_false_iff_ne]; exact hk3
        have haf := act_full s ak.m ak.x hk3
        rw [haf] at HA2 ⊢
        have HJA := HA2
        have HJB := HB2
        have HJS := HS2'
        have HJW := HW2
        have HJZ : Hid (wr.heap.size ≤ wd.heap.size) := Nat.le_trans (Nat.le_trans HZa.out HZb.out) (Nat.le_trans HZ1'.out HZ2'.out)
        generalize (s.act ak.m ak.x false).2 = rt
        have hrr : (rt != rt) = false := by simp
        clear haf hk3 HA2 HB2 HS2' HW2
        go_wp2_with fail
        go_loopw [16, 17] (fun mm _ wr' => ∃ (a n : Nat), (a : Int) ≤ m ∧ mm = .int .i64 a ∧ wr' = wd.drewN n) (fun mm _ _ => m.toNat - (intOf mm).toNat)
        case atStart => exact ⟨0, 0, hm0, rfl, rfl⟩
        case round =>
          obtain ⟨a, n, ha, rfl, rfl⟩ := hrel
          by_cases hlt2 : (a : Int) < m
          · go_wp2_with fail
            go_loopw [17] (fun rr wr' => ∃ (c' n : Nat), (c' : Int) ≤ r ∧ rr = .int .i64 c' ∧ wr' = wd.drewN n) (fun rr _ => r.toNat - (intOf rr).toNat)
            case atStart => exact ⟨0, n, hr0, rfl, rfl⟩
            case round =>
              obtain ⟨c', n', hc', rfl, rfl⟩ := hrel
              by_cases hlt3 : (c' : Int) < r
              · go_wp2_with fail
                refine (reg_at _ _ ba _ (HJA.out.drewN _) a c').mono ?_
                rintro e w3 ⟨rfl, n1, rfl⟩
                go_wp2_with fail
                refine (reg_at _ _ bb _ (HJB.out.drewN _) a c').mono ?_
                rintro e w4 ⟨rfl, n2, rfl⟩
                generalize ((s.act ak.m ak.x false).1).regAt a c' = v
                have hvv : (v != v) = false := by simp
                go_wp2_with fail
                go_roundw
                case rel => exact ⟨c' + 1, _, by omega, by go_num, rfl⟩
                case measure => simp [intOf]; omega
              · go_wp2_with fail
                go_roundw
                case rel => exact ⟨a + 1, _, by omega, by go_num, rfl⟩
                case measure => simp [intOf]; omega
          · go_wp2_with fail
            go_region_held3 (fun w' => w'.cell? (ad.add (k * 6)) = some (.int .i64 ak.m) ∧ w'.cell? ⟨(ad.add (k * 6)).block, (ad.add (k * 6)).off + 1, none⟩ = some (.int .i64 ak.x.kind) ∧ w'.cell? ⟨(ad.add (k * 6)).block, (ad.add (k * 6)).off + 2, none⟩ = some (.int .i64 ak.x.a) ∧ w'.cell? ⟨(ad.add (k * 6)).block, (ad.add (k * 6)).off + 3, none⟩ = some (.int .i64 ak.x.b) ∧ w'.cell? ⟨(ad.add (k * 6)).block, (ad.add (k * 6)).off + 4, none⟩ = some (.int .i64 ak.x.c) ∧ w'.cell? ⟨(ad.add (k * 6)).block, (ad.add (k * 6)).off + 5, none⟩ = some (.bool ak.full))
              (first
                | exact ⟨q0, q1, q2, q3, q4, q5⟩
                | exact ⟨p0, p1, p2, p3, p4, p5⟩)
              (first | (go_at_call 24; refine (do_is _ _ b s (by repeat (first | exact HJS.out | apply IsSto.drew | apply IsSto.drewN)) ak.m ak.x ak.full HXB.out (by have := HSL.out; omega)).mono ?_; rintro e wz ⟨rfl, hst, hkk⟩; have p0 := (hkk.cell (p := ad.add (k * 6)) (Nat.lt_of_lt_of_le HADB.out HJW.out.size) (fun hx => by have h1 : w0.heap.size ≤ (ad.add (k * 6)).block := hx.1; have := HADB.out; have := HW0.out; omega)).trans q0; have p1 := (hkk.cell (p := ⟨(ad.add (k * 6)).block, (ad.add (k * 6)).off + 1, none⟩) (Nat.lt_of_lt_of_le HADB.out HJW.out.size) (fun hx => by have h1 : w0.heap.size ≤ (ad.add (k * 6)).block := hx.1; have := HADB.out; have := HW0.out; omega)).trans q1; have p2 := (hkk.cell (p := ⟨(ad.add (k * 6)).block, (ad.add (k * 6)).off + 2, none⟩) (Nat.lt_of_lt_of_le HADB.out HJW.out.size) (fun hx => by have h1 : w0.heap.size ≤ (ad.add (k * 6)).block := hx.1; have := HADB.out; have := HW0.out; omega)).trans q2; have p3 := (hkk.cell (p := ⟨(ad.add (k * 6)).block, (ad.add (k * 6)).off + 3, none⟩) (Nat.lt_of_lt_of_le HADB.out HJW.out.size) (fun hx => by have h1 : w0.heap.size ≤ (ad.add (k * 6)).block := hx.1; have := HADB.out; have := HW0.out; omega)).trans q3; have p4 := (hkk.cell (p := ⟨(ad.add (k * 6)).block, (ad.add (k * 6)).off + 4, none⟩) (Nat.lt_of_lt_of_le HADB.out HJW.out.size) (fun hx => by have h1 : w0.heap.size ≤ (ad.add (k * 6)).block := hx.1; have := HADB.out; have := HW0.out; omega)).trans q4; have p5 := (hkk.cell (p := ⟨(ad.add (k * 6)).block, (ad.add (k * 6)).off + 5, none⟩) (Nat.lt_of_lt_of_le HADB.out HJW.out.size) (fun hx => by have h1 : w0.heap.size ≤ (ad.add (k * 6)).block := hx.1; have := HADB.out; have := HW0.out; omega)).trans q5; have HSF := Lib.hid hst; have HWF : Hid (Below w.heap.size w wz) := (below_drewN HJW.out _).trans (hkk.below HJW.out.size (fun y hy => by have := hy.1; have := HW0.out; omega)); have HZF := Lib.hid hkk.size; clear hst hkk))
            go_wp2_with fail
            go_roundw
            case rel =>
              refine ⟨k + 1, (s.act ak.m ak.x ak.full).1, by omega, by go_num, by have := act_len s ak.m ak.x ak.full; have := HSL.out; omega, HSF.out.wide (fun y hy => ?_), HWF.out, ?_⟩
              · have e1 : wd.heap.size = (wd.drewN n).heap.size := rfl
                have e2 := HZF.out
                have e3 := HJZ.out
                have e4 := HZ.out
                rcases hy with hy | hy
                · exact ⟨hy.1, Nat.lt_of_lt_of_le hy.2 (Nat.le_trans e3 e2)⟩
                · exact ⟨Nat.le_trans (Nat.le_trans e4 e3) hy.1, hy.2⟩
              · exact Nat.le_trans (Nat.le_trans HZ.out HJZ.out) HZF.out
            case measure => simp [intOf]; omega
    · go_wp2_with fail
      go_ret
      exact ⟨rfl, HB.out⟩
end Go.Proofs.Ytoapbfglpcebmaa

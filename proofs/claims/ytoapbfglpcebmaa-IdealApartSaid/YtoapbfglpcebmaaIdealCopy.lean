/- The contract of an ideal store's Copy. -/
import Derived.Test.YtoapbfglpcebmaaIdealUse
import Derived.Lib.SliceRun
namespace Go.Proofs.Ytoapbfglpcebmaa
open Go Go.RowKit
set_option linter.unusedSimpArgs false
set_option linter.unusedVariables false

theorem ownsRow_more {w : World} {B B' : Nat} {E : TypeId} {size n : Nat} {v : Value} {xs : List Value} (h : w.ownsRow B E size v n xs) (hb : B' ≤ B) : w.ownsRow B' E size v n xs := by
  refine ⟨h.1, ?_⟩
  rcases h.2 with h0 | ⟨g, cap, cur, hv, hg, r⟩
  · exact .inl h0
  · exact .inr ⟨g, cap, cur, hv, by omega, r⟩
theorem flat_one : ∀ (cs : List (Int × Int)), ∀ u ∈ flat cs, u.oneCell' = true
  | [], u, h => by cases h
  | p :: r, u, h => by
    simp [flat] at h
    rcases h with rfl | rfl | h
    · rfl
    · rfl
    · exact flat_one r u h
theorem info_cell' : ∃ i, Try.prog.info? 86 = some i ∧ i.zero = some (.agg #[.int .u64 0, .int .u64 0]) ∧ i.size = 2 ∧ i.bytes = 16 := by
  have := info_cell
  cases hh : Try.prog.info? 86 with
  | none => rw [hh] at this; cases this
  | some i =>
    rw [hh] at this
    simp at this
    exact ⟨i, rfl, this⟩
theorem info_word' : ∃ i, Try.prog.info? 56 = some i ∧ i.zero = some (.int .u64 0) ∧ i.size = 1 ∧ i.bytes = 8 := by
  have := info_iword
  cases hh : Try.prog.info? 56 with
  | none => rw [hh] at this; cases this
  | some i =>
    rw [hh] at this
    simp at this
    exact ⟨i, rfl, this⟩
set_option maxRecDepth 100000 in
theorem clone_w (w : World) (v : Value) (xs : List Int) (h : w.ownsRow 0 56 1 v xs.length (xs.map (Value.int .u64))) (hl : xs.length ≤ 1000000) :
    Calls Try.prog 74 #[v] w fun e w' => ∃ v', e = .returned v' ∧ w'.ownsRow w.heap.size 56 1 v' xs.length (xs.map (Value.int .u64)) ∧ Below w.heap.size w w' := by
  rcases h.2 with ⟨rfl, h0⟩ | ⟨g, cap, cur, rfl, _, hg, _⟩
  · have hx : xs = [] := List.eq_nil_of_length_eq_zero h0
    subst hx
    have e0 := Lib.run_eql_slice_nil (P := Try.prog) w 77 56 none 0 0 0 0 Try.underlying77
    go_enter Try.func74, Try.ntmps74
    go_wp2_with fail
    go_ret
    exact ⟨_, rfl, ⟨rfl, .inl ⟨rfl, rfl⟩⟩, Below.refl _ _⟩
  · have HR := Lib.hid (Reads.of_own h)
    have HX := Lib.hid (ints_oneCell .u64 xs)
    obtain ⟨i0, hi0, hz0, hz1, hz2⟩ := info_word'
    have hb0 : Hid (Below w.heap.size w (w.alloc (.cells #[] 56))) := (Below.refl _ _).alloc (Nat.le_refl _) _
    have hown : Hid ((w.alloc (.cells #[] 56)).ownsRow w.heap.size 56 1 (.slice (some ⟨w.heap.size, 0, none⟩) 0 0) 0 []) := ⟨by simp, .inr ⟨w.heap.size, 0, #[], rfl, Nat.le_refl _, heap_alloc_new w _, by simp, by simp, by simp, by simp⟩⟩
    have e0 := Lib.run_eql_slice_nil (P := Try.prog) w 77 56 (some ⟨g, 0, none⟩) xs.length cap 0 0 Try.underlying77
    clear h hg
    go_enter Try.func74, Try.ntmps74
    go_wp2_with (first
      | (at_builtin
         refine wpList_append_any _ rfl (.tmp 5) (.tmp 6) _ rfl w.heap.size 56 i0 _ 1 8 Try.underlying77 hi0 hz0 hz1 hz2 rfl (by omega) (.slice (some ⟨w.heap.size, 0, none⟩) 0 0) 0 [] rfl
           hown.out w.heap.size _ xs.length cap _ rfl (HR.out.below hb0.out) HX.out (by unfold maxLen; omega) (by omega) (by simp) ?_
         intro v1 w1 hown1 hg1 hat1
         have HO := Lib.hid hown1
         have HB : Hid (Below w.heap.size w w1) := hb0.out.grown hg1 (by simp) (fun k hk => by simp [Value.ownBlock] at hk; omega)
         clear hown1 hg1 hat1))
    go_ret
    have h2 := HO.out
    rw [Nat.zero_add, List.nil_append] at h2
    exact ⟨v1, rfl, h2, HB.out⟩
set_option maxRecDepth 100000 in
theorem again_w (w : World) (v : Value) (xs : List Int) (h : w.ownsRow 0 56 1 v xs.length (xs.map (Value.int .u64))) (hl : xs.length ≤ 1000000) :
    Calls Try.prog 61 #[v] w fun e w' => ∃ v', e = .returned v' ∧ w'.ownsRow w.heap.size 56 1 v' xs.length (xs.map (Value.int .u64)) ∧ Below w.heap.size w w' := by
  have H := Lib.hid h
  clear h
  go_enter Try.func61, Try.ntmps61
  go_wp2_with fail
  refine (clone_w _ v xs H.out hl).mono ?_
  rintro e w' ⟨v', rfl, ho, hb⟩
  have HO := Lib.hid ho
  have HB := Lib.hid hb
  clear ho hb
  go_wp2_with fail
  go_ret
  exact ⟨v', rfl, HO.out, HB.out⟩
set_option maxRecDepth 100000 in
theorem clone_c (w : World) (v : Value) (xs : List (Int × Int)) (h : w.ownsRow 0 86 2 v xs.length (flat xs)) (hl : xs.length ≤ 1000000) :
    Calls Try.prog 75 #[v] w fun e w' => ∃ v', e = .returned v' ∧ w'.ownsRow w.heap.size 86 2 v' xs.length (flat xs) ∧ Below w.heap.size w w' := by
  rcases h.2 with ⟨rfl, h0⟩ | ⟨g, cap, cur, rfl, _, hg, _⟩
  · have hx : xs = [] := List.eq_nil_of_length_eq_zero h0
    subst hx
    have e0 := Lib.run_eql_slice_nil (P := Try.prog) w 78 86 none 0 0 0 0 Try.underlying78
    go_enter Try.func75, Try.ntmps75
    go_wp2_with fail
    go_ret
    exact ⟨_, rfl, ⟨rfl, .inl ⟨rfl, rfl⟩⟩, Below.refl _ _⟩
  · have HR := Lib.hid (Reads.of_own h)
    have HX := Lib.hid (flat_one xs)
    obtain ⟨i0, hi0, hz0, hz1, hz2⟩ := info_cell'
    have hb0 : Hid (Below w.heap.size w (w.alloc (.cells #[] 86))) := (Below.refl _ _).alloc (Nat.le_refl _) _
    have hown : Hid ((w.alloc (.cells #[] 86)).ownsRow w.heap.size 86 2 (.slice (some ⟨w.heap.size, 0, none⟩) 0 0) 0 []) := ⟨by simp, .inr ⟨w.heap.size, 0, #[], rfl, Nat.le_refl _, heap_alloc_new w _, by simp, by simp, by simp, by simp⟩⟩
    have e0 := Lib.run_eql_slice_nil (P := Try.prog) w 78 86 (some ⟨g, 0, none⟩) xs.length cap 0 0 Try.underlying78
    clear h hg
    go_enter Try.func75, Try.ntmps75
    go_wp2_with (first
      | (at_builtin
         refine wpList_append_any _ rfl (.tmp 5) (.tmp 6) _ rfl w.heap.size 86 i0 _ 2 16 Try.underlying78 hi0 hz0 hz1 hz2 rfl (by omega) (.slice (some ⟨w.heap.size, 0, none⟩) 0 0) 0 [] rfl
           hown.out w.heap.size _ xs.length cap _ rfl (HR.out.below hb0.out) HX.out (by unfold maxLen; omega) (by omega) (by simp) ?_
         intro v1 w1 hown1 hg1 hat1
         have HO := Lib.hid hown1
         have HB : Hid (Below w.heap.size w w1) := hb0.out.grown hg1 (by simp) (fun k hk => by simp [Value.ownBlock] at hk; omega)
         clear hown1 hg1 hat1))
    go_ret
    have h2 := HO.out
    rw [Nat.zero_add, List.nil_append] at h2
    exact ⟨v1, rfl, h2, HB.out⟩
set_option maxRecDepth 100000 in
theorem again_c (w : World) (v : Value) (xs : List (Int × Int)) (h : w.ownsRow 0 86 2 v xs.length (flat xs)) (hl : xs.length ≤ 1000000) :
    Calls Try.prog 62 #[v] w fun e w' => ∃ v', e = .returned v' ∧ w'.ownsRow w.heap.size 86 2 v' xs.length (flat xs) ∧ Below w.heap.size w w' := by
  have H := Lib.hid h
  clear h
  go_enter Try.func62, Try.ntmps62
  go_wp2_with fail
  refine (clone_c _ v xs H.out hl).mono ?_
  rintro e w' ⟨v', rfl, ho, hb⟩
  have HO := Lib.hid ho
  have HB := Lib.hid hb
  clear ho hb
  go_wp2_with fail
  go_ret
  exact ⟨v', rfl, HO.out, HB.out⟩

theorem own_slice {w : World} {B : Nat} {E : TypeId} {size n : Nat} {v : Value} {xs : List Value} (h : w.ownsRow B E size v n xs) : ∃ A c, v = .slice A n c := by
  rcases h.2 with ⟨rfl, h0⟩ | ⟨g, cap, cur, rfl, _⟩
  · exact ⟨none, 0, by rw [h0]⟩
  · exact ⟨_, _, rfl⟩
theorem icopy_nil (w : World) : Calls Try.prog 31 #[.pointer none] w fun e w' => e = .returned (.pointer none) ∧ w' = w := by
  go_enter Try.func31, Try.ntmps31
  go_wp2_with fail
  go_ret
  exact ⟨rfl, rfl⟩
theorem copy_sto {w wa wb wc : World} {T : Nat → Prop} {b : Nat} {s : Sto} {gr kr : Nat} {vg vc : Value} (h : StoAt w T b s gr kr vg vc) {B : Nat} {va vb vd : Value}
    (ha : wa.ownsRow w.heap.size 56 1 va s.rs.length (s.rs.map (Value.int .u64))) (hb : wb.ownsRow wa.heap.size 56 1 vb s.gs.length (s.gs.map (Value.int .u64))) (hc : wc.ownsRow wb.heap.size 86 2 vd s.cs.length (flat s.cs))
    (h0 : B ≤ w.heap.size) (h1 : w.heap.size ≤ wa.heap.size) (h2 : Below wa.heap.size wa wb) (h3 : Below wb.heap.size wb wc) :
    ∃ gr' kr', va = .slice (some ⟨gr', 0, none⟩) s.rs.length kr' ∧ StoAt (wc.alloc (.cells #[.int .i64 s.c.cells, .int .i64 s.c.muts, .int .i64 s.c.regs, .int .i64 s.c.globs, va, vb, vd] 80)) (fun x => B ≤ x ∧ x < wc.heap.size + 1) wc.heap.size s gr' kr' vb vd := by
  have hrl : 0 < s.rs.length := by
    have := h.ok.rl
    obtain ⟨_, _⟩ := s.c.mr h.ok.ok
    omega
  obtain ⟨gr', kr', rfl, _, _⟩ := ha.form hrl
  have la := ha.lt gr' rfl
  have lb := fun x hx => hb.lt x hx
  have lc := fun x hx => hc.lt x hx
  have s1 := h2.size
  have s2 := h3.size
  have hk1 : Keep (fun _ => False) wa wc := (Keep.of_below h2 _).trans (Keep.of_below h3 _)
  refine ⟨gr', kr', rfl, ?_⟩
  exact {
    head := heap_alloc_new wc _
    r := ownsRow_more ((ownsRow_keep ha hk1 (fun _ _ => id)).alloc _) (Nat.zero_le _)
    g := ownsRow_more ((ownsRow_keep hb (Keep.of_below h3 (fun _ => False)) (fun _ _ => id)).alloc _) (Nat.zero_le _)
    cl := ownsRow_more (hc.alloc _) (Nat.zero_le _)
    tb := ⟨by omega, by omega⟩
    tr := ⟨by omega, by omega⟩
    tg := fun x hx => ⟨by have := lb x hx; omega, by have := lb x hx; omega⟩
    tc := fun x hx => ⟨by have := lc x hx; omega, by have := lc x hx; omega⟩
    br := by omega
    bg := fun e => by have := lb _ e; omega
    bc := fun e => by have := lc _ e; omega
    rg := fun e => by have := lb _ e; omega
    rc := fun e => by have := lc _ e; omega
    gc := fun x hx e => by have := lb x hx; have := lc x e; omega
    ok := h.ok }
set_option maxHeartbeats 4000000 in
set_option maxRecDepth 100000 in
theorem icopy_any (w : World) (T : Nat → Prop) (b : Nat) (s : Sto) (gr kr : Nat) (vg vc : Value) (h : StoAt w T b s gr kr vg vc) :
    Calls Try.prog 31 #[.pointer (some ⟨b, 0, none⟩)] w fun e w' => ∃ b', e = .returned (.pointer (some ⟨b', 0, none⟩)) ∧ IsSto w' (fun x => w.heap.size ≤ x ∧ x < w'.heap.size) b' s ∧ Below w.heap.size w w' := by
  obtain ⟨k0, k1, k2, k3, k4, k5, k6, kf⟩ := h.hc
  have HS := Lib.hid h
  have HLT := Lib.hid h.lt.1
  obtain ⟨_, hmr⟩ := s.c.mr h.ok.ok
  obtain ⟨_, _, _, _, _, _, _, _⟩ := s.c.ok_iff.1 h.ok.ok
  have L1 : Hid (s.rs.length ≤ 1000000) := by have := h.ok.rl; unfold Hid; omega
  have L2 : Hid (s.gs.length ≤ 1000000) := by have := h.ok.gl; unfold Hid; omega
  have L3 := Lib.hid h.ok.few
  clear kf h hmr
  go_enter Try.func31, Try.ntmps31
  go_wp2_with fail
  go_region_held3 (fun w' => w'.cell? ⟨b, 0, none⟩ = some (.int .i64 s.c.cells) ∧ w'.cell? ⟨b, 1, none⟩ = some (.int .i64 s.c.muts) ∧ w'.cell? ⟨b, 2, none⟩ = some (.int .i64 s.c.regs) ∧ w'.cell? ⟨b, 3, none⟩ = some (.int .i64 s.c.globs) ∧ w'.cell? ⟨b, 4, none⟩ = some (.slice (some ⟨gr, 0, none⟩) s.rs.length kr) ∧ w'.cell? ⟨b, 5, none⟩ = some vg ∧ w'.cell? ⟨b, 6, none⟩ = some vc)
    (first
      | exact ⟨k0, k1, k2, k3, k4, k5, k6⟩
      | (go_split_ands; refine ⟨?_, ?_, ?_, ?_, ?_, ?_, ?_⟩ <;> exact (hb3.cell (Nat.lt_of_lt_of_le HLT.out HZ.out)).trans (by assumption))
      | (go_split_ands; refine ⟨?_, ?_, ?_, ?_, ?_, ?_, ?_⟩ <;> exact (World.cell?_alloc_lt _ _ _ (Nat.lt_of_lt_of_le HLT.out (Nat.le_trans HZ.out hb3.size))).trans (by assumption)))
    (first
      | (go_at_call 61; refine (again_w _ (.slice (some ⟨gr, 0, none⟩) s.rs.length kr) s.rs (HS.out.drew).r L1.out).mono ?_; rintro e wa ⟨va, rfl, hoa, hb3⟩; obtain ⟨Aa, ca, rfl⟩ := own_slice hoa; have HOA := Lib.hid hoa; have HBA := Lib.hid hb3; have HZ := Lib.hid (Nat.le_refl w.heap.size); have HSA := Lib.hid (HS.out.drew.below hb3); clear hoa)
      | (go_at_call 61; refine (again_w _ vg s.gs HSA.out.g L2.out).mono ?_; rintro e wb ⟨vb, rfl, hob, hb4⟩; obtain ⟨Ab, cb, rfl⟩ := own_slice hob; have HOB := Lib.hid hob; have HBB := Lib.hid hb4; have HZ2 := Lib.hid HBA.out.size; have HSB := Lib.hid (HSA.out.below hb4); clear hob hb3 HZ; have hb3 := hb4; have HZ := HZ2; clear hb4)
      | (go_at_call 62; refine (again_c _ vc s.cs HSB.out.cl L3.out).mono ?_; rintro e wc ⟨vd, rfl, hoc, hb4⟩; obtain ⟨Ac, cc, rfl⟩ := own_slice hoc; have HOC := Lib.hid hoc; have HBC := Lib.hid hb4; have HZ2 := Lib.hid (Nat.le_trans HBA.out.size HBB.out.size); clear hoc hb3 HZ; have hb3 := hb4; have HZ := HZ2; clear hb4))
  go_wp2_with fail
  go_ret
  have hz2 : Below w.heap.size w wb := (Below.trans ((Below.refl w.heap.size w).drew) HBA.out).trans (HBB.out.mono HBA.out.size)
  have hz3 : Below w.heap.size w wc := hz2.trans (HBC.out.mono hz2.size)
  obtain ⟨gr', kr', hv, hst⟩ := copy_sto (B := w.heap.size) (w := w) HS.out HOA.out HOB.out HOC.out (Nat.le_refl _) HBA.out.size HBB.out HBC.out
  exact ⟨wc.heap.size, rfl, ⟨gr', kr', _, _, by simpa using hst⟩, hz3.alloc hz3.size _⟩
end Go.Proofs.Ytoapbfglpcebmaa

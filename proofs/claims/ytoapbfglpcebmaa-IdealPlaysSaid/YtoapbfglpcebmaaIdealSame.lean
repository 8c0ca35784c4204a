/- The two stores at once, and the law's same. -/
import Derived.Test.YtoapbfglpcebmaaRDoAll
import Derived.Test.YtoapbfglpcebmaaIdealUse
namespace Go.Proofs.Ytoapbfglpcebmaa
open Go Go.RowKit
set_option linter.unusedSimpArgs false
set_option linter.unusedVariables false

theorem did_len' (s : Sto) (m : Int) (x : Opr) (f : Bool) : (s.did m x f).1.cs.length ≤ s.cs.length + 1 ∧ (s.did m x f).1.c = s.c := by
  unfold Sto.did
  repeat' split
  all_goals (simp [Sto.setReg, Sto.push, Sto.setCar, Sto.setCdr] <;> try (split <;> simp [Sto.setReg, Sto.push, Sto.setCar, Sto.setCdr]))
theorem act_len' (s : Sto) (m : Int) (x : Opr) (f : Bool) : (s.act m x f).1.cs.length ≤ s.cs.length + 1 ∧ (s.act m x f).1.c = s.c := by
  unfold Sto.act
  split
  · exact did_len' s m x f
  · simp
theorem rdid_len (x : RSto) (m : Int) (o : Opr) (f : Bool) : (x.did m o f).1.puts.length ≤ x.puts.length + 3 := by
  unfold RSto.did
  repeat' split
  all_goals (simp [RSto.put] <;> try (split <;> simp [RSto.put]))
theorem ract_len (x : RSto) (m : Int) (o : Opr) (f : Bool) : (x.act m o f).1.puts.length ≤ x.puts.length + 3 := by
  unfold RSto.act
  split
  · exact rdid_len x m o f
  · simp
theorem regAt_bd {s : Sto} (h : s.Ok) (m r : Int) : 0 ≤ s.regAt m r ∧ s.regAt m r < 18446744073709551616 := by
  unfold Sto.regAt
  split
  · rename_i hc
    have := h.regW hc.1 hc.2.1 hc.2.2.1 hc.2.2.2
    exact ⟨this.1, this.2.1⟩
  · exact ⟨by omega, by omega⟩

/-- both stores, apart from one another and from all below B -/
def Both (B : Nat) (w : World) (b : Nat) (s : Sto) (b' : Nat) (x : RSto) : Prop :=
  ∃ Ts Tr : Nat → Prop, IsSto w Ts b s ∧ IsR w Tr b' x ∧ (∀ y, Ts y → ¬ Tr y) ∧ (∀ y, Ts y → B ≤ y ∧ y < w.heap.size) ∧ (∀ y, Tr y → B ≤ y ∧ y < w.heap.size)
section
variable {B : Nat} {w w' : World} {b b' : Nat} {s : Sto} {x : RSto}
theorem Both.below (h : Both B w b s b' x) (k : Below w.heap.size w w') : Both B w' b s b' x := by
  obtain ⟨Ts, Tr, h1, h2, h3, h4, h5⟩ := h
  exact ⟨Ts, Tr, h1.below k, h2.below k, h3, fun y hy => ⟨(h4 y hy).1, Nat.lt_of_lt_of_le (h4 y hy).2 k.size⟩, fun y hy => ⟨(h5 y hy).1, Nat.lt_of_lt_of_le (h5 y hy).2 k.size⟩⟩
theorem Both.drew (h : Both B w b s b' x) : Both B w.drew b s b' x := by
  obtain ⟨Ts, Tr, h1, h2, h3, h4, h5⟩ := h
  exact ⟨Ts, Tr, h1.keep ((Keep.refl (fun _ => False) w).drew) (fun _ _ => id), h2.drew, h3, h4, h5⟩
theorem Both.drewN (h : Both B w b s b' x) (n : Nat) : Both B (w.drewN n) b s b' x := by
  obtain ⟨Ts, Tr, h1, h2, h3, h4, h5⟩ := h
  exact ⟨Ts, Tr, h1.drewN n, h2.drewN n, h3, h4, h5⟩
theorem Both.ok (h : Both B w b s b' x) : s.Ok := by
  obtain ⟨Ts, Tr, h1, _⟩ := h
  exact h1.ok
theorem Both.hc (h : Both B w b s b' x) : w.cell? ⟨b', 0, none⟩ = some (.int .i64 x.c.cells) ∧ w.cell? ⟨b', 1, none⟩ = some (.int .i64 x.c.muts) ∧ w.cell? ⟨b', 2, none⟩ = some (.int .i64 x.c.regs) ∧ w.cell? ⟨b', 3, none⟩ = some (.int .i64 x.c.globs) ∧ w.cell? ⟨b', 5, none⟩ = some (.int .i64 x.n) := by
  obtain ⟨Ts, Tr, _, h2, _⟩ := h
  obtain ⟨k0, k1, k2, k3, k5, _⟩ := h2.hc
  exact ⟨k0, k1, k2, k3, k5⟩
theorem Both.reg (h : Both B w b s b' x) (m r : Int) : Calls Try.prog 25 #[.pointer (some ⟨b, 0, none⟩), .int .i64 m, .int .i64 r] w fun e w' => e = .returned (.int .u64 (s.regAt m r)) ∧ Below w.heap.size w w' := by
  obtain ⟨Ts, Tr, h1, _⟩ := h
  refine (reg_at w Ts b s h1 m r).mono ?_
  rintro e w' ⟨he, n, rfl⟩
  exact ⟨he, below_drewN (Below.refl _ _) n⟩
theorem Both.glob (h : Both B w b s b' x) (g : Int) : Calls Try.prog 33 #[.pointer (some ⟨b, 0, none⟩), .int .i64 g] w fun e w' => e = .returned (.int .u64 (s.globAt g)) ∧ Below w.heap.size w w' := by
  obtain ⟨Ts, Tr, ⟨gr, kr, vg, vc, h1⟩, _⟩ := h
  refine (iGlob_any w Ts b s gr kr vg vc h1 g).mono ?_
  rintro e w' ⟨he, rfl⟩
  exact ⟨he, Below.refl _ _⟩
theorem Both.car (h : Both B w b s b' x) (g : Int) : Calls Try.prog 34 #[.pointer (some ⟨b, 0, none⟩), .int .i64 g] w fun e w' => e = .returned (.int .u64 (s.carAt g)) ∧ Below w.heap.size w w' := by
  obtain ⟨Ts, Tr, ⟨gr, kr, vg, vc, h1⟩, _⟩ := h
  exact iCar_any w Ts b s gr kr vg vc h1 g
theorem Both.cdr (h : Both B w b s b' x) (g : Int) : Calls Try.prog 35 #[.pointer (some ⟨b, 0, none⟩), .int .i64 g] w fun e w' => e = .returned (.int .u64 (s.cdrAt g)) ∧ Below w.heap.size w w' := by
  obtain ⟨Ts, Tr, ⟨gr, kr, vg, vc, h1⟩, _⟩ := h
  exact iCdr_any w Ts b s gr kr vg vc h1 g
theorem Both.len (h : Both B w b s b' x) : Calls Try.prog 32 #[.pointer (some ⟨b, 0, none⟩)] w fun e w' => e = .returned (.int .i64 s.cs.length) ∧ w' = w := by
  obtain ⟨Ts, Tr, ⟨gr, kr, vg, vc, h1⟩, _⟩ := h
  exact ilen_any w Ts b s gr kr vg vc h1
theorem Both.rreg (h : Both B w b s b' x) (m r : Int) (hlen : x.puts.length ≤ 100000) : Calls Try.prog 57 #[.pointer (some ⟨b', 0, none⟩), .int .i64 m, .int .i64 r] w fun e w' => e = .returned (.int .u64 (x.get 0 m r)) ∧ Below w.heap.size w w' := by
  obtain ⟨Ts, Tr, _, h2, _⟩ := h
  exact rreg_is w Tr b' x h2 m r hlen
theorem Both.rget (h : Both B w b s b' x) (k a c' : Int) (hlen : x.puts.length ≤ 100000) : Calls Try.prog 59 #[.pointer (some ⟨b', 0, none⟩), .int .i64 k, .int .i64 a, .int .i64 c'] w fun e w' => e = .returned (.int .u64 (x.get k a c')) ∧ Below w.heap.size w w' := by
  obtain ⟨Ts, Tr, _, h2, _⟩ := h
  exact rget_is w Tr b' x h2 k a c' hlen
theorem Both.do_ (h : Both B w b s b' x) (m : Int) (o : Opr) (full : Bool) (hb : o.b < 9223372036854775808) (hf : s.cs.length < 1000000) :
    Calls Try.prog 24 #[.pointer (some ⟨b, 0, none⟩), .int .i64 m, o.v, .bool full] w fun e w' => e = .returned (.int .i64 (s.act m o full).2) ∧ Both B w' b (s.act m o full).1 b' x ∧ Keep (fun y => B ≤ y) w w' := by
  obtain ⟨Ts, Tr, ⟨gr, kr, vg, vc, h1⟩, h2, h3, h4, h5⟩ := h
  refine (ido_any w Ts b s gr kr vg vc h1 m o full hb hf).mono ?_
  rintro e w' ⟨he, ⟨gr', kr', vg', vc', h'⟩, hk⟩
  have hz := hk.size
  have hB : B ≤ w.heap.size := by
    have := (h4 _ h1.tb)
    omega
  refine ⟨he, ⟨_, Tr, ⟨gr', kr', vg', vc', h'⟩, h2.keep hk (fun y hy hn => h3 y hn hy), fun y hy hn => ?_, fun y hy => ?_, fun y hy => ?_⟩, hk.mono (fun y _ hy => (h4 y hy).1)⟩
  · rcases hy with hy | hy
    · exact h3 y hy hn
    · have := h5 y hn; omega
  · rcases hy with hy | hy
    · have := h4 y hy; omega
    · omega
  · have := h5 y hy; omega
theorem Both.rdo (h : Both B w b s b' x) (m : Int) (o : Opr) (full : Bool) (hlen : x.puts.length ≤ 99990) (hbd : ∀ m r, 0 ≤ x.reg m r ∧ x.reg m r < 18446744073709551616) (h63 : o.b < 9223372036854775808) (hn : 0 ≤ x.n ∧ x.n < 1000000) :
    Calls Try.prog 29 #[.pointer (some ⟨b', 0, none⟩), .int .i64 m, o.v, .bool full] w fun e w' => e = .returned (.int .i64 (x.act m o full).2) ∧ Both B w' b s b' (x.act m o full).1 ∧ Keep (fun y => B ≤ y) w w' := by
  obtain ⟨Ts, Tr, h1, h2, h3, h4, h5⟩ := h
  refine (rdo_any w Tr b' x h2 m o full hlen hbd h63 hn).mono ?_
  rintro e w' ⟨he, h', hk⟩
  have hz := hk.size
  have hB : B ≤ w.heap.size := by
    have := (h5 _ h2.tb)
    omega
  refine ⟨he, ⟨Ts, _, h1.keep hk (fun y hy hn => h3 y hy hn), h', fun y hy hn => ?_, fun y hy => ?_, fun y hy => ?_⟩, hk.mono (fun y _ hy => (h5 y hy).1)⟩
  · rcases hn with hn | hn
    · exact h3 y hy hn
    · have := h4 y hy; omega
  · have := h4 y hy; omega
  · rcases hy with hy | hy
    · have := h5 y hy; omega
    · omega
end

set_option maxHeartbeats 8000000 in
set_option maxRecDepth 100000 in
theorem same_is (B : Nat) (w : World) (b b' : Nat) (s : Sto) (x : RSto) (h : Both B w b s b' x) (R : Rel s x) (hlen : x.puts.length ≤ 99990) (hn : s.cs.length ≤ 1000000) :
    Calls Try.prog 30 #[.pointer (some ⟨b, 0, none⟩), .pointer (some ⟨b', 0, none⟩)] w fun e w' => e = .returned (.bool true) ∧ Below w.heap.size w w' := by
  obtain ⟨_, _, m0, m1, r0, r1, g0, g1⟩ := s.c.ok_iff.1 h.ok.ok
  have HRel := Lib.hid R
  have HT := Lib.hid h
  have HLEN : Hid (x.puts.length ≤ 100000) := by unfold Hid; omega
  have k5 : w.cell? ⟨b', 5, none⟩ = some (.int .i64 (s.cs.length : Int)) := by rw [← R.n]; exact h.hc.2.2.2.2
  have hnn : ((s.cs.length : Int) != (s.cs.length : Int)) = false := by simp
  have CM : Hid (s.c.muts = x.c.muts) := by unfold Hid; rw [R.c]
  have CR : Hid (s.c.regs = x.c.regs) := by unfold Hid; rw [R.c]
  have CG : Hid (s.c.globs = x.c.globs) := by unfold Hid; rw [R.c]
  have CN : Hid ((s.cs.length : Int) = x.n) := by unfold Hid; rw [R.n]
  generalize s.c.muts = M at CM m0 m1
  generalize s.c.regs = Rg at CR r0 r1
  generalize s.c.globs = G at CG g0 g1
  clear R h hlen
  go_enter Try.func30, Try.ntmps30
  go_wp2_with fail
  go_region_held3 (fun w' => w'.cell? ⟨b', 5, none⟩ = some (.int .i64 (s.cs.length : Int)))
    (first | exact k5)
    (first | (go_at_call 32; refine (Both.len (by repeat (first | exact HT.out | apply Both.drew))).mono ?_; rintro e w3 ⟨rfl, hw⟩; obtain rfl := hw.symm; clear hw))
  rename_i hHeld
  clear hHeld
  go_wp2_with fail
  have HB0 : Hid (Below w.heap.size w w.drew) := (Below.refl _ _).drew
  clear k5 hnn
  go_loopw [5, 6] (fun mm _ wr => ∃ a : Int, -1 ≤ a ∧ a ≤ M + 1 ∧ mm = .int .i64 a ∧ Below w.heap.size w wr) (fun mm _ _ => (M + 1 - intOf mm).toNat)
  case atStart => exact ⟨-1, by omega, by omega, rfl, by first | exact HB0.out | exact Below.refl _ _⟩
  case round =>
    obtain ⟨a, ha, ha', rfl, hb⟩ := hrel
    have HB := Lib.hid hb
    clear hb
    have k1 : wr.cell? ⟨b', 1, none⟩ = some (.int .i64 M) := by rw [CM.out]; exact (HT.out.below HB.out).hc.2.1
    by_cases hlt : a ≤ M
    · have dl : decide (a ≤ M) = true := by simpa using hlt
      go_wp2_with fail
      clear k1
      go_loopw [6] (fun rr wr' => ∃ c : Int, -1 ≤ c ∧ c ≤ Rg + 1 ∧ rr = .int .i64 c ∧ Below w.heap.size w wr') (fun rr _ => (Rg + 1 - intOf rr).toNat)
      case atStart => exact ⟨-1, by omega, by omega, rfl, HB.out⟩
      case round =>
        clear HB
        obtain ⟨c, hc, hc', rfl, hb⟩ := hrel
        have HB := Lib.hid hb
        clear hb
        have k2 : wr.cell? ⟨b', 2, none⟩ = some (.int .i64 Rg) := by rw [CR.out]; exact (HT.out.below HB.out).hc.2.2.1
        by_cases hlt2 : c ≤ Rg
        · have dl2 : decide (c ≤ Rg) = true := by simpa using hlt2
          have sc : IntKind.i64.wrap (c + 1) = c + 1 := IntWalk.i64_in _ (by omega)
          go_wp2_with fail
          refine (Both.reg (HT.out.below HB.out) a c).mono ?_
          rintro e w3 ⟨rfl, hb⟩
          have HB' : Hid (Below w.heap.size w w3) := HB.out.trans (hb.mono HB.out.size)
          clear hb
          go_wp2_with fail
          refine (Both.rreg (HT.out.below HB'.out) a c HLEN.out).mono ?_
          rintro e w4 ⟨rfl, hb⟩
          have HB2 : Hid (Below w.heap.size w w4) := HB'.out.trans (hb.mono HB'.out.size)
          clear hb HB'
          rw [show x.get 0 a c = s.regAt a c from HRel.out.r a c]
          generalize s.regAt a c = v
          have hvv : (v != v) = false := by simp
          go_wp2_with fail
          go_roundw
          case rel => exact ⟨c + 1, by omega, by omega, rfl, HB2.out⟩
          case measure => (simp [intOf] <;> omega)
        · have dl2 : decide (c ≤ Rg) = false := by simpa using hlt2
          have sa : IntKind.i64.wrap (a + 1) = a + 1 := IntWalk.i64_in _ (by omega)
          go_wp2_with fail
          go_roundw
          case rel => exact ⟨a + 1, by omega, by omega, rfl, HB.out⟩
          case measure => (simp [intOf] <;> omega)
    · have dl : decide (a ≤ M) = false := by simpa using hlt
      go_wp2_with fail
      clear k1 dl hlt
      go_loopw [7] (fun rr wr' => ∃ c : Int, -1 ≤ c ∧ c ≤ G + 1 ∧ rr = .int .i64 c ∧ Below w.heap.size w wr') (fun rr _ => (G + 1 - intOf rr).toNat)
      case atStart => exact ⟨-1, by omega, by omega, rfl, HB.out⟩
      case round =>
        clear HB
        obtain ⟨c, hc, hc', rfl, hb⟩ := hrel
        have HB := Lib.hid hb
        clear hb
        have k2 : wr.cell? ⟨b', 3, none⟩ = some (.int .i64 G) := by rw [CG.out]; exact (HT.out.below HB.out).hc.2.2.2.1
        by_cases hlt2 : c ≤ G
        · have dl2 : decide (c ≤ G) = true := by simpa using hlt2
          have sc : IntKind.i64.wrap (c + 1) = c + 1 := IntWalk.i64_in _ (by omega)
          go_wp2_with fail
          refine (Both.glob (HT.out.below HB.out) c).mono ?_
          rintro e w3 ⟨rfl, hb⟩
          have HB' : Hid (Below w.heap.size w w3) := HB.out.trans (hb.mono HB.out.size)
          clear hb
          go_wp2_with fail
          refine (Both.rget (HT.out.below HB'.out) 1 c 0 HLEN.out).mono ?_
          rintro e w4 ⟨rfl, hb⟩
          have HB2 : Hid (Below w.heap.size w w4) := HB'.out.trans (hb.mono HB'.out.size)
          clear hb HB'
          rw [show x.get 1 c 0 = s.globAt c from HRel.out.g c]
          generalize s.globAt c = v
          have hvv : (v != v) = false := by simp
          go_wp2_with fail
          go_roundw
          case rel => exact ⟨c + 1, by omega, by omega, rfl, HB2.out⟩
          case measure => (simp [intOf] <;> omega)
        · have dl2 : decide (c ≤ G) = false := by simpa using hlt2
          go_wp2_with fail
          clear k2 dl2 hlt2
          go_loopw [8] (fun rr wr2 => ∃ c : Int, -1 ≤ c ∧ c ≤ s.cs.length + 1 ∧ rr = .int .i64 c ∧ Below w.heap.size w wr2) (fun rr _ => ((s.cs.length : Int) + 1 - intOf rr).toNat)
          case atStart => exact ⟨-1, by omega, by omega, rfl, HB.out⟩
          case round =>
            clear HB
            obtain ⟨c, hc, hc', rfl, hb⟩ := hrel
            have HB := Lib.hid hb
            clear hb
            have k2 : wr.cell? ⟨b', 5, none⟩ = some (.int .i64 (s.cs.length : Int)) := by rw [CN.out]; exact (HT.out.below HB.out).hc.2.2.2.2
            by_cases hlt2 : c ≤ (s.cs.length : Int)
            · have dl2 : decide (c ≤ (s.cs.length : Int)) = true := by simpa using hlt2
              have sc : IntKind.i64.wrap (c + 1) = c + 1 := IntWalk.i64_in _ (by omega)
              go_wp2_with fail
              refine (Both.car (HT.out.below HB.out) c).mono ?_
              rintro e w3 ⟨rfl, hb⟩
              have HB' : Hid (Below w.heap.size w w3) := HB.out.trans (hb.mono HB.out.size)
              clear hb
              go_wp2_with fail
              refine (Both.rget (HT.out.below HB'.out) 2 c 0 HLEN.out).mono ?_
              rintro e w4 ⟨rfl, hb⟩
              have HB2 : Hid (Below w.heap.size w w4) := HB'.out.trans (hb.mono HB'.out.size)
              clear hb HB'
              rw [show x.get 2 c 0 = s.carAt c from HRel.out.a c]
              generalize s.carAt c = v
              have hvv : (v != v) = false := by simp
              go_wp2_with fail
              clear HB
              have HB := HB2
              clear HB2
              refine (Both.cdr (HT.out.below HB.out) c).mono ?_
              rintro e w5 ⟨rfl, hb⟩
              have HB' : Hid (Below w.heap.size w w5) := HB.out.trans (hb.mono HB.out.size)
              clear hb
              go_wp2_with fail
              refine (Both.rget (HT.out.below HB'.out) 3 c 0 HLEN.out).mono ?_
              rintro e w6 ⟨rfl, hb⟩
              have HB2 : Hid (Below w.heap.size w w6) := HB'.out.trans (hb.mono HB'.out.size)
              clear hb HB'
              rw [show x.get 3 c 0 = s.cdrAt c from HRel.out.d c]
              generalize s.cdrAt c = u
              have huu : (u != u) = false := by simp
              go_wp2_with fail
              go_roundw
              case rel => exact ⟨c + 1, by omega, by omega, rfl, HB2.out⟩
              case measure => (simp [intOf] <;> omega)
            · have dl2 : decide (c ≤ (s.cs.length : Int)) = false := by simpa using hlt2
              go_wp2_with fail
              go_ret
              exact ⟨rfl, HB.out⟩
end Go.Proofs.Ytoapbfglpcebmaa

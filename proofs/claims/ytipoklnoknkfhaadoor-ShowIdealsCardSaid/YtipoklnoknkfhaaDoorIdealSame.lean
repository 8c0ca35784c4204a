/- The two stores at once, and the law's same. -/
import Derived.Test.YtipoklnoknkfhaaDoorRDoM
import Derived.Test.YtipoklnoknkfhaaDoorIdealUse
namespace Go.Proofs.YtipoklnoknkfhaaDoor
open Go Go.RowKit
set_option linter.unusedSimpArgs false
set_option linter.unusedVariables false

theorem did_len' (s : Sto) (m : Int) (x : Opr) (f : Bool) : (s.did m x f).1.cs.length ≤ s.cs.length + 1 ∧ (s.did m x f).1.c = s.c := by
  unfold Sto.did
  repeat' split
  all_goals (simp [Sto.setReg, Sto.push, Sto.setCar, Sto.setCdr] <;> try (split <;> simp [Sto.setReg, Sto.push, Sto.setCar, Sto.setCdr]))
theorem act_len' (s : Sto) (m : Int) (x : Opr) (f : Bool) : (s.act m x f).1.cs.length ≤ s.cs.length + 1 ∧ (s.act m x f).1.c = s.c := by
  unfold Sto.act
  split
  · exact did_len' s m x f
  · simp
theorem rdid_len (x : RSto) (m : Int) (o : Opr) (f : Bool) : (x.did m o f).1.puts.length ≤ x.puts.length + 3 := by
  unfold RSto.did
  repeat' split
  all_goals (simp [RSto.put] <;> try (split <;> simp [RSto.put]))
theorem ract_len (x : RSto) (m : Int) (o : Opr) (f : Bool) : (x.act m o f).1.puts.length ≤ x.puts.length + 3 := by
  unfold RSto.act
  split
  · exact rdid_len x m o f
  · simp
theorem regAt_bd {s : Sto} (h : s.Ok) (m r : Int) : 0 ≤ s.regAt m r ∧ s.regAt m r < 18446744073709551616 := by
  unfold Sto.regAt
  split
  · rename_i hc
    have := h.regW hc.1 hc.2.1 hc.2.2.1 hc.2.2.2
    exact ⟨this.1, this.2.1⟩
  · exact ⟨by omega, by omega⟩

/-- both stores, apart from one another and from all below B -/
def Both (B : Nat) (w : World) (b : Nat) (s : Sto) (b' : Nat) (x : RSto) : Prop :=
  ∃ Ts Tr : Nat → Prop, IsSto w Ts b s ∧ IsR w Tr b' x ∧ (∀ y, Ts y → ¬ Tr y) ∧ (∀ y, Ts y → B ≤ y ∧ y < w.heap.size) ∧ (∀ y, Tr y → B ≤ y ∧ y < w.heap.size)
section
variable {B : Nat} {w w' : World} {b b' : Nat} {s : Sto} {x : RSto}
theorem Both.below (h : Both B w b s b' x) (k : Below w.heap.size w w') : Both B w' b s b' x := by
  obtain ⟨Ts, Tr, h1, h2, h3, h4, h5⟩ := h
  exact ⟨Ts, Tr, h1.below k, h2.below k, h3, fun y hy => ⟨(h4 y hy).1, Nat.lt_of_lt_of_le (h4 y hy).2 k.size⟩, fun y hy => ⟨(h5 y hy).1, Nat.lt_of_lt_of_le (h5 y hy).2 k.size⟩⟩
theorem Both.drew (h : Both B w b s b' x) : Both B w.drew b s b' x := by
  obtain ⟨Ts, Tr, h1, h2, h3, h4, h5⟩ := h
  exact ⟨Ts, Tr, h1.keep ((Keep.refl (fun _ => False) w).drew) (fun _ _ => id), h2.drew, h3, h4, h5⟩
theorem Both.drewN (h : Both B w b s b' x) (n : Nat) : Both B (w.drewN n) b s b' x := by
  obtain ⟨Ts, Tr, h1, h2, h3, h4, h5⟩ := h
  exact ⟨Ts, Tr, h1.drewN n, h2.drewN n, h3, h4, h5⟩
theorem Both.ok (h : Both B w b s b' x) : s.Ok := by
  obtain ⟨Ts, Tr, h1, _⟩ := h
  exact h1.ok
theorem Both.hc (h : Both B w b s b' x) : w.cell? ⟨b', 0, none⟩ = some (.int .i64 x.c.cells) ∧ w.cell? ⟨b', 1, none⟩ = some (.int .i64 x.c.muts) ∧ w.cell? ⟨b', 2, none⟩ = some (.int .i64 x.c.regs) ∧ w.cell? ⟨b', 3, none⟩ = some (.int .i64 x.c.globs) ∧ w.cell? ⟨b', 5, none⟩ = some (.int .i64 x.n) := by
  obtain ⟨Ts, Tr, _, h2, _⟩ := h
  obtain ⟨k0, k1, k2, k3, k5, _⟩ := h2.hc
  exact ⟨k0, k1, k2, k3, k5⟩
theorem Both.car (h : Both B w b s b' x) (g : Int) : Calls Tryd.prog 200 #[.pointer (some ⟨b, 0, none⟩), .int .i64 g] w fun e w' => e = .returned (.int .u64 (s.carAt g)) ∧ Below w.heap.size w w' := by
  obtain ⟨Ts, Tr, ⟨gr, kr, vg, vc, h1⟩, _⟩ := h
  exact iCar_any w Ts b s gr kr vg vc h1 g
theorem Both.cdr (h : Both B w b s b' x) (g : Int) : Calls Tryd.prog 201 #[.pointer (some ⟨b, 0, none⟩), .int .i64 g] w fun e w' => e = .returned (.int .u64 (s.cdrAt g)) ∧ Below w.heap.size w w' := by
  obtain ⟨Ts, Tr, ⟨gr, kr, vg, vc, h1⟩, _⟩ := h
  exact iCdr_any w Ts b s gr kr vg vc h1 g
theorem Both.len (h : Both B w b s b' x) : Calls Tryd.prog 194 #[.pointer (some ⟨b, 0, none⟩)] w fun e w' => e = .returned (.int .i64 s.cs.length) ∧ w' = w := by
  obtain ⟨Ts, Tr, ⟨gr, kr, vg, vc, h1⟩, _⟩ := h
  exact ilen_any w Ts b s gr kr vg vc h1
theorem Both.rreg (h : Both B w b s b' x) (m r : Int) (hlen : x.puts.length ≤ 100000) : Calls Tryd.prog 57 #[.pointer (some ⟨b', 0, none⟩), .int .i64 m, .int .i64 r] w fun e w' => e = .returned (.int .u64 (x.get 0 m r)) ∧ Below w.heap.size w w' := by
  obtain ⟨Ts, Tr, _, h2, _⟩ := h
  exact rreg_is w Tr b' x h2 m r hlen
theorem Both.rget (h : Both B w b s b' x) (k a c' : Int) (hlen : x.puts.length ≤ 100000) : Calls Tryd.prog 59 #[.pointer (some ⟨b', 0, none⟩), .int .i64 k, .int .i64 a, .int .i64 c'] w fun e w' => e = .returned (.int .u64 (x.get k a c')) ∧ Below w.heap.size w w' := by
  obtain ⟨Ts, Tr, _, h2, _⟩ := h
  exact rget_is w Tr b' x h2 k a c' hlen
theorem Both.do_ (h : Both B w b s b' x) (m : Int) (o : Opr) (full : Bool) (hb : o.b < 9223372036854775808) (hf : s.cs.length < 1000000) :
    Calls Tryd.prog 22 #[.pointer (some ⟨b, 0, none⟩), .int .i64 m, o.v, .bool full] w fun e w' => e = .returned (.int .i64 (s.act m o full).2) ∧ Both B w' b (s.act m o full).1 b' x ∧ Keep (fun y => B ≤ y) w w' := by
  obtain ⟨Ts, Tr, ⟨gr, kr, vg, vc, h1⟩, h2, h3, h4, h5⟩ := h
  refine (ido_any w Ts b s gr kr vg vc h1 m o full hb hf).mono ?_
  rintro e w' ⟨he, ⟨gr', kr', vg', vc', h'⟩, hk⟩
  have hz := hk.size
  have hB : B ≤ w.heap.size := by
    have := (h4 _ h1.tb)
    omega
  refine ⟨he, ⟨_, Tr, ⟨gr', kr', vg', vc', h'⟩, h2.keep hk (fun y hy hn => h3 y hn hy), fun y hy hn => ?_, fun y hy => ?_, fun y hy => ?_⟩, hk.mono (fun y _ hy => (h4 y hy).1)⟩
  · rcases hy with hy | hy
    · exact h3 y hy hn
    · have := h5 y hn; omega
  · rcases hy with hy | hy
    · have := h4 y hy; omega
    · omega
  · have := h5 y hy; omega
theorem Both.rdo (h : Both B w b s b' x) (m : Int) (o : Opr) (full : Bool) (hlen : x.puts.length ≤ 99990) (hbd : ∀ m r, 0 ≤ x.reg m r ∧ x.reg m r < 18446744073709551616) (h63 : o.b < 9223372036854775808) (hn : 0 ≤ x.n ∧ x.n < 1000000) :
    Calls Tryd.prog 23 #[.pointer (some ⟨b', 0, none⟩), .int .i64 m, o.v, .bool full] w fun e w' => e = .returned (.int .i64 (x.act m o full).2) ∧ Both B w' b s b' (x.act m o full).1 ∧ Keep (fun y => B ≤ y) w w' := by
  obtain ⟨Ts, Tr, h1, h2, h3, h4, h5⟩ := h
  refine (rdo_any w Tr b' x h2 m o full hlen hbd h63 hn).mono ?_
  rintro e w' ⟨he, h', hk⟩
  have hz := hk.size
  have hB : B ≤ w.heap.size := by
    have := (h5 _ h2.tb)
    omega
  refine ⟨he, ⟨Ts, _, h1.keep hk (fun y hy hn => h3 y hy hn), h', fun y hy hn => ?_, fun y hy => ?_, fun y hy => ?_⟩, hk.mono (fun y _ hy => (h5 y hy).1)⟩
  · rcases hn with hn | hn
    · exact h3 y hy hn
    · have := h4 y hy; omega
  · have := h4 y hy; omega
  · rcases hy with hy | hy
    · have := h5 y hy; omega
    · omega
end

end Go.Proofs.YtipoklnoknkfhaaDoor

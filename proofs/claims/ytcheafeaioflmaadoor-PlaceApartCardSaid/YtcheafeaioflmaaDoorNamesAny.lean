/- The name of any place, by the program and by the reference. -/
import Derived.Test.YtcheafeaioflmaaDoorPlaceName
import Derived.Test.YtcheafeaioflmaaDoorRefNameReg
import Derived.Test.YtcheafeaioflmaaDoorFirst
namespace Go.Proofs.YtcheafeaioflmaaDoor
open Go Go.RowKit
set_option linter.unusedSimpArgs false
set_option linter.unusedVariables false

theorem Cfg.starts (c : Cfg) (ok : c.ok = true) : c.g0 = c.b1 ∧ c.r0 = c.b2 ∧ c.c0 = c.b3 := by
  obtain ⟨h1, h2, h3⟩ := c.begin_ ok
  rw [h1, h2, h3]
  exact ⟨rfl, rfl, rfl⟩
theorem Cfg.name_in (c : Cfg) (k : Int) (ok : c.ok = true) (h : 0 ≤ k ∧ k < c.words) : c.name k = (c.spot k).name := by unfold Cfg.name; rw [if_pos ⟨ok, h⟩]
theorem Cfg.name_not (c : Cfg) (k : Int) (h : ¬ (0 ≤ k ∧ k < c.words)) : c.name k = ⟨#[]⟩ := by unfold Cfg.name; rw [if_neg (fun x => h x.2)]
theorem pname_any (w : World) (c : Cfg) (k : Int) (ht : Tens w) :
    Calls Tryd.prog 57 #[c.v, .int .i64 k] w fun e w' => e = .returned (.string (c.name k)) ∧ Below w.heap.size w w' := by
  by_cases h : 0 ≤ k ∧ k < c.words
  · have ok : c.ok = true := Classical.byContradiction fun x => by rw [c.words_zero x] at h; omega
    have hb := c.bounds ok
    have hw := c.words_b3 ok
    have ho := c.ok_iff.1 ok
    obtain ⟨hg, hr, hc⟩ := c.starts ok
    rw [c.name_in k ok h]
    by_cases h5 : k < 5
    · rw [c.spot_0 k h5]
      exact pname_once w c k c.words c.b3 c.b2 c.b1 ht rfl hc hr hg (by omega) (by omega) (by omega) (by omega) (by omega)
    · by_cases h1 : k < c.b1
      · have e : (c.spot k).name = ⟨#[105, 110, 32]⟩ ++ nat (k - 5) := by
          unfold Cfg.spot
          rw [if_neg h5, if_pos h1]
          rfl
        rw [e]
        exact pname_in w c k c.words c.b3 c.b2 c.b1 ht rfl hc hr hg (by omega) (by omega) (by omega) (by omega) (by omega) (by omega)
      · by_cases h2 : k < c.b2
        · have e : (c.spot k).name = ⟨#[103, 108, 111, 98, 32]⟩ ++ nat (k - c.b1) := by
            unfold Cfg.spot
            rw [if_neg h5, if_neg h1, if_pos h2]
            rfl
          rw [e]
          exact pname_glob w c k c.words c.b3 c.b2 c.b1 ht rfl hc hr hg (by omega) (by omega) (by omega) (by omega) (by omega) (by omega)
        · by_cases h3 : k < c.b3
          · have e : (c.spot k).name = ⟨#[114, 101, 103, 32]⟩ ++ nat ((k - c.b2) / c.regs) ++ ⟨#[32]⟩ ++ nat ((k - c.b2) % c.regs) := by
              unfold Cfg.spot
              rw [if_neg h5, if_neg h1, if_neg h2, if_pos h3]
              rfl
            rw [e]
            exact pname_reg w c k c.words c.b3 c.b2 c.b1 ht rfl hc hr hg (by omega) (by omega) (by omega) (by omega) (by omega) (by omega)
          · have e : (c.spot k).name = kindName (4 + (k - c.b3) % 3) ++ ⟨#[32]⟩ ++ nat ((k - c.b3) / 3) := by
              unfold Cfg.spot Spot.name
              rw [if_neg h5, if_neg h1, if_neg h2, if_neg h3, if_neg (by simp; omega), if_neg (by simp; omega)]
              rfl
            rw [e]
            exact pname_cell ((k - c.b3) % 3) (by omega) w c k c.words c.b3 c.b2 c.b1 ht rfl hc hr hg (by omega) (by omega) (by omega) (by omega) rfl
  · rw [c.name_not k h]
    exact pname_out w c k h
theorem Cfg.nats (c : Cfg) (ok : c.ok = true) : ∃ n m r g T : Nat, c.cells = n ∧ c.muts = m ∧ c.regs = r ∧ c.globs = g ∧ T = 5 + m + g + m * r + 3 * n ∧ c.words = T := by
  have ho := c.ok_iff.1 ok
  refine ⟨c.cells.toNat, c.muts.toNat, c.regs.toNat, c.globs.toNat, _, by omega, by omega, by omega, by omega, rfl, ?_⟩
  rw [c.words_b3 ok]
  unfold Cfg.b3
  have e : ((c.muts.toNat * c.regs.toNat : Nat) : Int) = c.muts * c.regs := by rw [Int.natCast_mul, Int.toNat_of_nonneg (by omega), Int.toNat_of_nonneg (by omega)]
  omega
theorem rname_any (w : World) (c : Cfg) (k : Int) :
    Calls Tryd.prog 71 #[c.v, .int .i64 k] w fun e w' => e = .returned (.string (c.name k)) ∧ Below w.heap.size w w' := by
  by_cases ok : c.ok = true
  · obtain ⟨n, m, r, g, T, hn, hm, hr, hg, hT, hw⟩ := c.nats ok
    by_cases h : 0 ≤ k ∧ k < c.words
    · have hb := c.bounds ok
      have hw2 := c.words_b3 ok
      have ho := c.ok_iff.1 ok
      obtain ⟨j, rfl⟩ : ∃ j : Nat, k = j := ⟨k.toNat, by omega⟩
      have hj : j < T := by omega
      rw [c.name_in _ ok h]
      have hsb := spot_bd c ok (j : Int) (by omega) (by omega)
      obtain ⟨kd, a, b, hs⟩ : ∃ kd a b, c.spot (j : Int) = ⟨kd, a, b⟩ := ⟨_, _, _, rfl⟩
      rw [hs] at hsb ⊢
      simp only at hsb
      by_cases h0 : kd = 0
      · subst h0
        have h5 := spot_kind0 c ok (j : Int) (by omega) (by rw [hs])
        rw [hs] at h5
        simp only at h5
        exact rname_once w c n m r g T hn hm hr hg ok hT j hj a b (by omega) hs
      · by_cases h3 : kd = 3
        · subst h3
          exact rname_reg w c n m r g T hn hm hr hg ok hT j hj a b (by omega) (by omega) hs
        · have e : (Spot.mk kd a b).name = kindName kd ++ spc ++ nat a := by
            unfold Spot.name
            rw [if_neg (by simpa using h0), if_neg (by simpa using h3)]
          rw [e]
          exact rname_kind w c n m r g T hn hm hr hg ok hT j hj kd a b (by omega) h3 (by omega) hs
    · rw [c.name_not k h]
      exact rname_out w c k n m r g hn hm hr hg ok (by rw [← hT, ← hw]; exact h)
  · have e : c.name k = ⟨#[]⟩ := c.name_not k (by rw [c.words_zero ok]; omega)
    rw [e]
    exact rname_no w c k (by simpa using ok)
end Go.Proofs.YtcheafeaioflmaaDoor

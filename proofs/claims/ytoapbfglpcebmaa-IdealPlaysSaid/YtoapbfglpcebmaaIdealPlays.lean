/- The walk of the law IdealPlays. -/
import Derived.Test.YtoapbfglpcebmaaIdealSame
import Derived.Test.YtoapbfglpcebmaaActs
namespace Go.Proofs.Ytoapbfglpcebmaa
open Go Go.RowKit
set_option linter.unusedSimpArgs false
set_option linter.unusedVariables false

set_option maxRecDepth 100000 in
theorem plays_great (w : World) (m r g : Int) (A : Option Addr) (c : Nat) (l : List Actn) (hg : great ⟨2, m, r, g⟩ = true) :
    Calls Try.prog 6 #[.int .i64 m, .int .i64 r, .int .i64 g, .slice A l.length c] w fun e w' => e = .returned (.bool true) ∧ Below w.heap.size w w' := by
  have HG := Lib.hid hg
  clear hg
  go_enter Try.func6, Try.ntmps6
  go_wp2_with fail
  refine (ideal_awake _).mono ?_
  rintro e w0 ⟨rfl, hB⟩
  have HB0 := Lib.hid hB
  clear hB
  have HBc : Hid (Below w.heap.size w (w0.alloc (Cfg.obj ⟨2, m, r, g⟩))) := HB0.out.alloc HB0.out.size _
  have HC0 : Hid ((w0.alloc (Cfg.obj ⟨2, m, r, g⟩)).heap[w0.heap.size]? = some (Cfg.obj ⟨2, m, r, g⟩)) := heap_alloc_new w0 _
  obtain ⟨a0, a1, a2, a3⟩ := Cfg.cells_at HC0.out
  go_wp2_with fail
  refine (great_any _ ⟨2, m, r, g⟩).mono ?_
  rintro e w1 ⟨rfl, hB⟩
  rw [HG.out]
  have HB1 : Hid (Below w.heap.size w w1) := HBc.out.trans (hB.mono HBc.out.size)
  have HC1 : Hid (w1.heap[w0.heap.size]? = some (Cfg.obj ⟨2, m, r, g⟩)) := (hB.block _ (block_lt HC0.out)).trans HC0.out
  clear hB a0 a1 a2 a3
  go_wp2_with fail
  go_ret
  exact ⟨rfl, HB1.out⟩
set_option maxRecDepth 100000 in
theorem plays_long (w : World) (m r g : Int) (A : Option Addr) (c : Nat) (l : List Actn) (hg : great ⟨2, m, r, g⟩ = false) (hl : 60 < l.length) :
    Calls Try.prog 6 #[.int .i64 m, .int .i64 r, .int .i64 g, .slice A l.length c] w fun e w' => e = .returned (.bool true) ∧ Below w.heap.size w w' := by
  have HG := Lib.hid hg
  have dl : decide (60 < (l.length : Int)) = true := by simp; omega
  clear hg hl
  go_enter Try.func6, Try.ntmps6
  go_wp2_with fail
  refine (ideal_awake _).mono ?_
  rintro e w0 ⟨rfl, hB⟩
  have HB0 := Lib.hid hB
  clear hB
  have HBc : Hid (Below w.heap.size w (w0.alloc (Cfg.obj ⟨2, m, r, g⟩))) := HB0.out.alloc HB0.out.size _
  have HC0 : Hid ((w0.alloc (Cfg.obj ⟨2, m, r, g⟩)).heap[w0.heap.size]? = some (Cfg.obj ⟨2, m, r, g⟩)) := heap_alloc_new w0 _
  obtain ⟨a0, a1, a2, a3⟩ := Cfg.cells_at HC0.out
  go_wp2_with fail
  refine (great_any _ ⟨2, m, r, g⟩).mono ?_
  rintro e w1 ⟨rfl, hB⟩
  rw [HG.out]
  have HB1 : Hid (Below w.heap.size w w1) := HBc.out.trans (hB.mono HBc.out.size)
  have HC1 : Hid (w1.heap[w0.heap.size]? = some (Cfg.obj ⟨2, m, r, g⟩)) := (hB.block _ (block_lt HC0.out)).trans HC0.out
  clear hB a0 a1 a2 a3
  go_wp2_with fail
  go_ret
  exact ⟨rfl, HB1.out⟩
set_option maxRecDepth 100000 in
theorem plays_none (w : World) (m r g : Int) (A : Option Addr) (c : Nat) (l : List Actn) (hg : great ⟨2, m, r, g⟩ = false) (hl : l.length ≤ 60) (ok : (⟨2, m, r, g⟩ : Cfg).ok = false) :
    Calls Try.prog 6 #[.int .i64 m, .int .i64 r, .int .i64 g, .slice A l.length c] w fun e w' => e = .returned (.bool true) ∧ Below w.heap.size w w' := by
  have HG := Lib.hid hg
  have HO := Lib.hid ok
  have dl : decide (60 < (l.length : Int)) = false := by simp; omega
  clear hg hl ok
  go_enter Try.func6, Try.ntmps6
  go_wp2_with fail
  refine (ideal_awake _).mono ?_
  rintro e w0 ⟨rfl, hB⟩
  have HB0 := Lib.hid hB
  clear hB
  have HBc : Hid (Below w.heap.size w (w0.alloc (Cfg.obj ⟨2, m, r, g⟩))) := HB0.out.alloc HB0.out.size _
  have HC0 : Hid ((w0.alloc (Cfg.obj ⟨2, m, r, g⟩)).heap[w0.heap.size]? = some (Cfg.obj ⟨2, m, r, g⟩)) := heap_alloc_new w0 _
  obtain ⟨a0, a1, a2, a3⟩ := Cfg.cells_at HC0.out
  go_wp2_with fail
  refine (great_any _ ⟨2, m, r, g⟩).mono ?_
  rintro e w1 ⟨rfl, hB⟩
  rw [HG.out]
  have HB1 : Hid (Below w.heap.size w w1) := HBc.out.trans (hB.mono HBc.out.size)
  have HC1 : Hid (w1.heap[w0.heap.size]? = some (Cfg.obj ⟨2, m, r, g⟩)) := (hB.block _ (block_lt HC0.out)).trans HC0.out
  clear hB a0 a1 a2 a3
  go_wp2_with fail
  refine (inew_any _ m r g).mono ?_
  rintro e w2 ⟨hB, h⟩
  rw [if_neg (by rw [HO.out]; simp)] at h
  subst h
  have HB2 : Hid (Below w.heap.size w w2) := HB1.out.trans (hB.mono HB1.out.size)
  have HC2 : Hid (w2.heap[w0.heap.size]? = some (Cfg.obj ⟨2, m, r, g⟩)) := (hB.block _ (block_lt HC1.out)).trans HC1.out
  obtain ⟨a0, a1, a2, a3⟩ := Cfg.cells_at HC2.out
  have HZ2 := Lib.hid (Nat.le_trans HB1.out.size (Nat.le_refl w1.heap.size))
  clear hB
  go_wp2_with fail
  refine (refright_any _ ⟨2, m, r, g⟩).mono ?_
  rintro e w3 ⟨rfl, hB⟩
  rw [HO.out]
  have HB3 : Hid (Below w.heap.size w w3) := HB2.out.trans (hB.mono HB2.out.size)
  clear hB a0 a1 a2 a3
  go_wp2_with fail
  go_ret
  exact ⟨rfl, HB3.out⟩
theorem cells_of {w w' : World} {B : Nat} {ad : Addr} {l : List Actn} (h : Acts w B (some ad) l) (hb : Below B w w') {j : Nat} {a : Actn} (hj : l[j]? = some a) : ActCells w' (ad.add (j * 6)) a := by
  obtain ⟨ad', hE, _, h⟩ := h.cell hb hj
  obtain rfl : ad = ad' := by injection hE
  exact h
set_option maxHeartbeats 400000000 in
set_option maxRecDepth 100000 in
theorem plays_some (w : World) (m r g : Int) (A : Option Addr) (c : Nat) (l : List Actn) (hacts : Acts w w.heap.size A l) (hfit : ∀ a ∈ l, a.fits) (hg : great ⟨2, m, r, g⟩ = false) (hl : l.length ≤ 60) (ok : (⟨2, m, r, g⟩ : Cfg).ok = true) :
    Calls Try.prog 6 #[.int .i64 m, .int .i64 r, .int .i64 g, .slice A l.length c] w fun e w' => e = .returned (.bool true) ∧ Below w.heap.size w w' := by
  have HG := Lib.hid hg
  have HO := Lib.hid ok
  have HL := Lib.hid hacts
  have HF := Lib.hid hfit
  have dl : decide (60 < (l.length : Int)) = false := by simp; omega
  clear hg ok hacts hfit
  go_enter Try.func6, Try.ntmps6
  go_wp2_with fail
  refine (ideal_awake _).mono ?_
  rintro e w0 ⟨rfl, hB⟩
  have HB0 := Lib.hid hB
  clear hB
  have HBc : Hid (Below w.heap.size w (w0.alloc (Cfg.obj ⟨2, m, r, g⟩))) := HB0.out.alloc HB0.out.size _
  have HC0 : Hid ((w0.alloc (Cfg.obj ⟨2, m, r, g⟩)).heap[w0.heap.size]? = some (Cfg.obj ⟨2, m, r, g⟩)) := heap_alloc_new w0 _
  obtain ⟨a0, a1, a2, a3⟩ := Cfg.cells_at HC0.out
  go_wp2_with fail
  refine (great_any _ ⟨2, m, r, g⟩).mono ?_
  rintro e w1 ⟨rfl, hB⟩
  rw [HG.out]
  have HB1 : Hid (Below w.heap.size w w1) := HBc.out.trans (hB.mono HBc.out.size)
  have HC1 : Hid (w1.heap[w0.heap.size]? = some (Cfg.obj ⟨2, m, r, g⟩)) := (hB.block _ (block_lt HC0.out)).trans HC0.out
  clear hB a0 a1 a2 a3
  go_wp2_with fail
  refine (inew_any _ m r g).mono ?_
  rintro e w2 ⟨hB, h⟩
  rw [if_pos HO.out] at h
  obtain ⟨b, gr, kr, vg, rfl, hst⟩ := h
  have HS2 : Hid (IsSto w2 (fun y => w1.heap.size ≤ y ∧ y < w2.heap.size) b (Sto.new m r g)) := ⟨gr, kr, vg, _, hst⟩
  have HB2 : Hid (Below w.heap.size w w2) := HB1.out.trans (hB.mono HB1.out.size)
  have HC2 : Hid (w2.heap[w0.heap.size]? = some (Cfg.obj ⟨2, m, r, g⟩)) := (hB.block _ (block_lt HC1.out)).trans HC1.out
  obtain ⟨a0, a1, a2, a3⟩ := Cfg.cells_at HC2.out
  have HZ2 := Lib.hid (Nat.le_trans HB1.out.size (Nat.le_refl w1.heap.size))
  clear hB
  go_wp2_with fail
  refine (refright_any _ ⟨2, m, r, g⟩).mono ?_
  rintro e w3 ⟨rfl, hB⟩
  rw [HO.out]
  have HB3 : Hid (Below w.heap.size w w3) := HB2.out.trans (hB.mono HB2.out.size)
  have HS3 := Lib.hid (HS2.out.below hB)
  have HZ3 := Lib.hid hB.size
  clear hB a0 a1 a2 a3 hst
  go_wp2_with fail
  refine (rnew_any _ m r g).mono ?_
  rintro e w4 ⟨rfl, n4, rfl⟩
  have HT0 : Hid (Both w.heap.size ((w3.alloc (rstoObj ⟨2, m, r, g⟩ (.slice none 0 0) 0)).drewN n4) b (Sto.new m r g) w3.heap.size ⟨⟨2, m, r, g⟩, [], 0⟩) := by
    have z1 := HB1.out.size
    have z2 := HB3.out.size
    have z3 := HZ3.out
    refine ⟨fun y => w1.heap.size ≤ y ∧ y < w2.heap.size, fun y => y = w3.heap.size, (HS3.out.below ((Below.refl _ _).alloc (Nat.le_refl _) _)).drewN n4, ⟨.slice none 0 0, ?_⟩, fun y hy e => ?_, fun y hy => ?_, fun y hy => ?_⟩
    · exact { head := heap_alloc_new w3 _
              rows := ⟨rfl, Or.inl ⟨rfl, rfl⟩⟩
              tb := rfl
              tv := fun g hg => by cases hg
              ne := fun e => by cases e }
    · omega
    · have e : ((w3.alloc (rstoObj ⟨2, m, r, g⟩ (.slice none 0 0) 0)).drewN n4).heap.size = w3.heap.size + 1 := by simp
      omega
    · have e : ((w3.alloc (rstoObj ⟨2, m, r, g⟩ (.slice none 0 0) 0)).drewN n4).heap.size = w3.heap.size + 1 := by simp
      omega
  have HW0 : Hid (Below w.heap.size w ((w3.alloc (rstoObj ⟨2, m, r, g⟩ (.slice none 0 0) 0)).drewN n4)) := below_drewN (HB3.out.alloc HB3.out.size _) n4
  generalize ((w3.alloc (rstoObj ⟨2, m, r, g⟩ (.slice none 0 0) 0)).drewN n4) = w5 at HT0 HW0 ⊢
  clear HS2 HS3 HZ2 HZ3 HC2 HC1 HC0
  go_wp2_with fail
  go_loopw [13] (fun i wr => ∃ (k : Nat) (s : Sto) (x : RSto), k ≤ l.length ∧ i = .int .i64 k ∧ s.cs.length ≤ k ∧ x.puts.length ≤ 3 * k ∧ Hid (Rel s x) ∧ Both w.heap.size wr b s w3.heap.size x ∧ Below w.heap.size w wr) (fun i _ => l.length - (intOf i).toNat)
  case atStart => exact ⟨0, Sto.new m r g, _, Nat.zero_le _, rfl, by simp [Sto.new], by simp, Lib.hid (new_rel m r g), HT0.out, HW0.out⟩
  case round =>
    obtain ⟨k, s, x, hk, rfl, hsl, hxl, HR, ht, hw⟩ := hrel
    have HT := Lib.hid ht
    have HW := Lib.hid hw
    clear ht hw HT0 HW0
    by_cases hlt : k < l.length
    · obtain ⟨ak, hak⟩ : ∃ ak, l[k]? = some ak := ⟨_, List.getElem?_eq_getElem hlt⟩
      obtain ⟨ad, rfl, hadB, hac⟩ := HL.out.cell HW.out hak
      obtain ⟨q0, q1, q2, q3, q4, q5⟩ := hac
      have hfk := HF.out _ (List.mem_of_getElem? hak)
      have HXB : Hid (ak.x.b < 9223372036854775808) := by have := hfk.2.2.2.1.2; unfold Hid; omega
      have HAK := Lib.hid hak
      have hok := HT.out.ok
      obtain ⟨hret, hrel', _⟩ := rel_step hok (by omega) HR.out ak.m ak.x HXB.out ak.full
      have HBD : Hid (∀ m r, 0 ≤ x.reg m r ∧ x.reg m r < 18446744073709551616) := fun m r => by rw [RSto.reg, HR.out.r]; exact regAt_bd hok m r
      have HN : Hid (0 ≤ x.n ∧ x.n < 1000000) := by unfold Hid; rw [HR.out.n]; omega
      have HSN : Hid (s.cs.length < 1000000) := by unfold Hid; omega
      have HXL : Hid (x.puts.length ≤ 99990) := by unfold Hid; omega
      have HR2 := Lib.hid hrel'
      have HL2 : Hid ((s.act ak.m ak.x ak.full).1.cs.length ≤ k + 1) := by have := (act_len' s ak.m ak.x ak.full).1; unfold Hid; omega
      have HP2 : Hid ((x.act ak.m ak.x ak.full).1.puts.length ≤ 3 * (k + 1)) := by have := ract_len x ak.m ak.x ak.full; unfold Hid; omega
      have HK60 : Hid (k < 60) := by unfold Hid; omega
      obtain ⟨rt, hrt⟩ : ∃ rt, rt = (x.act ak.m ak.x ak.full).2 := ⟨_, rfl⟩
      have HQ1 : Hid ((s.act ak.m ak.x ak.full).2 = rt) := by rw [hrt]; exact hret
      have HQ2 : Hid ((x.act ak.m ak.x ak.full).2 = rt) := hrt.symm
      have hvv : (rt != rt) = false := by simp
      clear hfk hadB hak hok hret hrel' hrt
      go_wp2_with fail
      go_region_held3 (fun w' => w'.cell? (ad.add (k * 6)) = some (.int .i64 ak.m) ∧ w'.cell? ⟨(ad.add (k * 6)).block, (ad.add (k * 6)).off + 1, none⟩ = some (.int .i64 ak.x.kind) ∧ w'.cell? ⟨(ad.add (k * 6)).block, (ad.add (k * 6)).off + 2, none⟩ = some (.int .i64 ak.x.a) ∧ w'.cell? ⟨(ad.add (k * 6)).block, (ad.add (k * 6)).off + 3, none⟩ = some (.int .i64 ak.x.b) ∧ w'.cell? ⟨(ad.add (k * 6)).block, (ad.add (k * 6)).off + 4, none⟩ = some (.int .i64 ak.x.c) ∧ w'.cell? ⟨(ad.add (k * 6)).block, (ad.add (k * 6)).off + 5, none⟩ = some (.bool ak.full))
        (first
          | exact ⟨q0, q1, q2, q3, q4, q5⟩
          | exact ⟨p0, p1, p2, p3, p4, p5⟩)
        (first
          | (go_at_call 24; refine (Both.do_ (by repeat (first | exact HT.out | apply Both.drew | apply Both.drewN)) ak.m ak.x ak.full HXB.out HSN.out).mono ?_; rintro e wa ⟨rfl, ht, hk⟩; rw [HQ1.out]; have HT' := Lib.hid ht; have HW' : Hid (Below w.heap.size w wa) := Below.trans (by first | exact HW.out | exact HW.out.drew) (hk.below HW.out.size (fun y hy => hy)); clear HT HW; have HT := HT'; have HW := HW'; clear HT' HW' ht hk; obtain ⟨p0, p1, p2, p3, p4, p5⟩ := cells_of HL.out HW.out HAK.out)
          | (go_at_call 29; refine (Both.rdo (by repeat (first | exact HT.out | apply Both.drew | apply Both.drewN)) ak.m ak.x ak.full HXL.out HBD.out HXB.out HN.out).mono ?_; rintro e wb ⟨rfl, ht, hk⟩; rw [HQ2.out]; have HT' := Lib.hid ht; have HW' : Hid (Below w.heap.size w wb) := Below.trans (by first | exact HW.out | exact HW.out.drew) (hk.below HW.out.size (fun y hy => hy)); clear HT HW; have HT := HT'; have HW := HW'; clear HT' HW' ht hk; obtain ⟨p0, p1, p2, p3, p4, p5⟩ := cells_of HL.out HW.out HAK.out)
          | (go_at_call 30; refine (same_is w.heap.size _ _ _ _ _ (by repeat (first | exact HT.out | apply Both.drew | apply Both.drewN)) HR2.out (by have := HP2.out; have := HK60.out; omega) (by have := HL2.out; have := HK60.out; omega)).mono ?_; rintro e wd ⟨rfl, hb⟩; have HT' := Lib.hid ((show Both w.heap.size _ b _ _ _ from (by repeat (first | exact HT.out | apply Both.drew | apply Both.drewN))).below hb); have HW' : Hid (Below w.heap.size w wd) := Below.trans (by first | exact HW.out | exact HW.out.drew) (hb.mono HW.out.size); clear HT HW; have HT := HT'; have HW := HW'; clear HT' HW' hb; obtain ⟨p0, p1, p2, p3, p4, p5⟩ := cells_of HL.out HW.out HAK.out))
      go_wp2_with fail
      go_roundw
      case rel => exact ⟨k + 1, _, _, by omega, by go_num, HL2.out, HP2.out, HR2, HT.out, HW.out⟩
      case measure => (simp [intOf] <;> omega)
    · go_wp2_with fail
      refine (same_is _ _ _ _ _ _ HT.out HR.out (by omega) (by omega)).mono ?_
      rintro e w6 ⟨rfl, hb⟩
      have HW' : Hid (Below w.heap.size w w6) := HW.out.trans (hb.mono HW.out.size)
      clear hb
      go_wp2_with fail
      go_ret
      exact ⟨rfl, HW'.out⟩
theorem plays_walk (w : World) (m r g : Int) (A : Option Addr) (c : Nat) (l : List Actn) (hacts : Acts w w.heap.size A l) (hfit : ∀ a ∈ l, a.fits) :
    Calls Try.prog 6 #[.int .i64 m, .int .i64 r, .int .i64 g, .slice A l.length c] w fun e w' => e = .returned (.bool true) ∧ Below w.heap.size w w' := by
  by_cases hg : great ⟨2, m, r, g⟩ = true
  · exact plays_great w m r g A c l hg
  have hg' : great ⟨2, m, r, g⟩ = false := by simpa using hg
  by_cases hl : 60 < l.length
  · exact plays_long w m r g A c l hg' hl
  by_cases ok : (⟨2, m, r, g⟩ : Cfg).ok = true
  · exact plays_some w m r g A c l hacts hfit hg' (by omega) ok
  · exact plays_none w m r g A c l hg' (by omega) (by simpa using ok)
end Go.Proofs.Ytoapbfglpcebmaa

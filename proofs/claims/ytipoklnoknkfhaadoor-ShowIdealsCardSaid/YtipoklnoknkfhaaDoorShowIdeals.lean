/- Any word over any ideal store is written as the document says: the walk. -/
import Derived.Test.YtipoklnoknkfhaaDoorShowAwake
import Derived.Test.YtipoklnoknkfhaaDoorRef29Store
import Derived.Test.YtipoklnoknkfhaaDoorRef29Mem
import Derived.Test.YtipoklnoknkfhaaDoorActs
namespace Go.Proofs.YtipoklnoknkfhaaDoor
open Go Go.RowKit
set_option linter.unusedSimpArgs false
set_option linter.unusedVariables false

def sbad (m r g : Int) (n : Nat) (most : Int) : Bool := decide (12 < m) || decide (8 < r) || decide (8 < g) || decide (60 < n) || decide (60 < most)
set_option maxHeartbeats 4000000 in
set_option maxRecDepth 100000 in
theorem sideals_none (w : World) (m r g : Int) (A : Option Addr) (c : Nat) (l : List Actn) (x most : Int) (ht : Tens w) (ok : (⟨2, m, r, g⟩ : Cfg).ok = false) :
    Calls Tryd.prog 4 #[.int .i64 m, .int .i64 r, .int .i64 g, .slice A l.length c, .int .u64 x, .int .i64 most] w fun e w' => e = .returned (.bool true) ∧ Below w.heap.size w w' := by
  have HAW := Lib.hid (show_awake w ht)
  have HO := Lib.hid ok
  clear ht ok
  go_enter Tryd.func4, Tryd.ntmps4
  go_wp2_with fail
  refine HAW.out.mono ?_
  rintro e w1 ⟨rfl, hb1⟩
  have HB1 := Lib.hid hb1
  clear hb1
  go_wp2_with fail
  refine (inew_any _ m r g).mono ?_
  rintro e w2 ⟨hB, h⟩
  rw [if_neg (by rw [HO.out]; simp)] at h
  subst h
  have HB2 : Hid (Below w.heap.size w w2) := HB1.out.trans (hB.mono HB1.out.size)
  clear hB
  go_wp2_with fail
  refine (ideal_nil _ x most).mono ?_
  rintro e w3 ⟨rfl, hb3⟩
  have HB3 : Hid (Below w.heap.size w w3) := HB2.out.trans (hb3.mono HB2.out.size)
  clear hb3
  go_wp2_with fail
  go_ret
  exact ⟨rfl, HB3.out⟩
set_option maxHeartbeats 4000000 in
set_option maxRecDepth 100000 in
theorem sideals_far (w : World) (m r g : Int) (A : Option Addr) (c : Nat) (l : List Actn) (x most : Int) (ht : Tens w) (ok : (⟨2, m, r, g⟩ : Cfg).ok = true) (hbad : sbad m r g l.length most = true) :
    Calls Tryd.prog 4 #[.int .i64 m, .int .i64 r, .int .i64 g, .slice A l.length c, .int .u64 x, .int .i64 most] w fun e w' => e = .returned (.bool true) ∧ Below w.heap.size w w' := by
  have HAW := Lib.hid (show_awake w ht)
  have HO := Lib.hid ok
  have HBAD := Lib.hid hbad
  clear ht ok hbad
  go_enter Tryd.func4, Tryd.ntmps4
  go_wp2_with fail
  refine HAW.out.mono ?_
  rintro e w1 ⟨rfl, hb1⟩
  have HB1 := Lib.hid hb1
  clear hb1
  go_wp2_with fail
  refine (inew_any _ m r g).mono ?_
  rintro e w2 ⟨hB, h⟩
  rw [if_pos HO.out] at h
  obtain ⟨b, gr, kr, vg, rfl, hst⟩ := h
  have HB2 : Hid (Below w.heap.size w w2) := HB1.out.trans (hB.mono HB1.out.size)
  clear hB hst
  have hcases : 12 < m ∨ (¬ 12 < m ∧ 8 < r) ∨ (¬ 12 < m ∧ ¬ 8 < r ∧ 8 < g) ∨ (¬ 12 < m ∧ ¬ 8 < r ∧ ¬ 8 < g ∧ 60 < l.length) ∨ (¬ 12 < m ∧ ¬ 8 < r ∧ ¬ 8 < g ∧ ¬ 60 < l.length ∧ 60 < most) := by
    have h := HBAD.out
    unfold sbad at h
    simp only [Bool.or_eq_true, decide_eq_true_eq] at h
    omega
  rcases hcases with h | ⟨h, h'⟩ | ⟨h, h', h''⟩ | ⟨h, h', h'', h3⟩ | ⟨h, h', h'', h3, h4⟩
  all_goals
    first | have t1 : decide (12 < m) = true := (by simp; omega) | have t1 : decide (12 < m) = false := (by simp; omega)
    first | have t2 : decide (8 < r) = true := (by simp; omega) | have t2 : decide (8 < r) = false := (by simp; omega) | skip
    first | have t3 : decide (8 < g) = true := (by simp; omega) | have t3 : decide (8 < g) = false := (by simp; omega) | skip
    first | have t4 : decide ((60 : Int) < l.length) = true := (by simp; omega) | have t4 : decide ((60 : Int) < l.length) = false := (by simp; omega) | skip
    first | have t5 : decide (60 < most) = true := (by simp; omega) | skip
    clear HBAD
    go_wp2_with fail
    refine (ideal_nil _ x most).mono ?_
    rintro e w3 ⟨rfl, hb3⟩
    have HB3 : Hid (Below w.heap.size w w3) := HB2.out.trans (hb3.mono HB2.out.size)
    clear hb3
    go_wp2_with fail
    go_ret
    exact ⟨rfl, HB3.out⟩
set_option maxHeartbeats 40000000 in
set_option maxRecDepth 100000 in
theorem sideals_some (w : World) (m r g : Int) (A : Option Addr) (c : Nat) (l : List Actn) (hacts : Acts w w.heap.size A l) (hfit : ∀ a ∈ l, a.fits) (x most : Int) (hx : wok x) (ht : Tens w) (ok : (⟨2, m, r, g⟩ : Cfg).ok = true) (hgood : sbad m r g l.length most = false) :
    Calls Tryd.prog 4 #[.int .i64 m, .int .i64 r, .int .i64 g, .slice A l.length c, .int .u64 x, .int .i64 most] w fun e w' => e = .returned (.bool true) ∧ Below w.heap.size w w' := by
  have HAW := Lib.hid (show_awake w ht)
  have HO := Lib.hid ok
  have HT9 := Lib.hid ht
  have HX9 := Lib.hid hx
  have HL := Lib.hid hacts
  have HF := Lib.hid hfit
  have hg2 := hgood
  unfold sbad at hg2
  simp only [Bool.or_eq_false_iff, decide_eq_false_iff_not] at hg2
  obtain ⟨⟨⟨⟨g1, g2⟩, g3⟩, g4⟩, g5⟩ := hg2
  have t1 : decide (12 < m) = false := by simpa using g1
  have t2 : decide (8 < r) = false := by simpa using g2
  have t3 : decide (8 < g) = false := by simpa using g3
  have t4 : decide ((60 : Int) < l.length) = false := by simp; omega
  have t5 : decide (60 < most) = false := by simpa using g5
  have HL60 : Hid (l.length ≤ 60) := by unfold Hid; omega
  clear ht ok hgood g1 g2 g3 g4 g5 hx hacts hfit
  go_enter Tryd.func4, Tryd.ntmps4
  go_wp2_with fail
  refine HAW.out.mono ?_
  rintro e w1 ⟨rfl, hb1⟩
  have HB1 := Lib.hid hb1
  clear hb1
  go_wp2_with fail
  refine (inew_any _ m r g).mono ?_
  rintro e w2 ⟨hB, h⟩
  rw [if_pos HO.out] at h
  obtain ⟨b, gr, kr, vg, rfl, hst⟩ := h
  have HS2 : Hid (IsSto w2 (fun y => w1.heap.size ≤ y ∧ y < w2.heap.size) b (Sto.new m r g)) := ⟨gr, kr, vg, _, hst⟩
  have HB2 : Hid (Below w.heap.size w w2) := HB1.out.trans (hB.mono HB1.out.size)
  clear hB hst
  go_wp2_with fail
  refine (rnew_any _ m r g).mono ?_
  rintro e w4 ⟨rfl, n4, rfl⟩
  have HT0 : Hid (Both w.heap.size ((w2.alloc (rstoObj ⟨2, m, r, g⟩ (.slice none 0 0) 0)).drewN n4) b (Sto.new m r g) w2.heap.size ⟨⟨2, m, r, g⟩, [], 0⟩) := by
    have z1 := HB1.out.size
    have z2 := HB2.out.size
    refine ⟨fun y => w1.heap.size ≤ y ∧ y < w2.heap.size, fun y => y = w2.heap.size, (HS2.out.below ((Below.refl _ _).alloc (Nat.le_refl _) _)).drewN n4, ⟨.slice none 0 0, ?_⟩, fun y hy e => ?_, fun y hy => ?_, fun y hy => ?_⟩
    · exact { head := heap_alloc_new w2 _
              rows := ⟨rfl, Or.inl ⟨rfl, rfl⟩⟩
              tb := rfl
              tv := fun g hg => by cases hg
              ne := fun e => by cases e }
    · omega
    · have e : ((w2.alloc (rstoObj ⟨2, m, r, g⟩ (.slice none 0 0) 0)).drewN n4).heap.size = w2.heap.size + 1 := by simp
      omega
    · have e : ((w2.alloc (rstoObj ⟨2, m, r, g⟩ (.slice none 0 0) 0)).drewN n4).heap.size = w2.heap.size + 1 := by simp
      omega
  have HW0 : Hid (Below w.heap.size w ((w2.alloc (rstoObj ⟨2, m, r, g⟩ (.slice none 0 0) 0)).drewN n4)) := below_drewN (HB2.out.alloc HB2.out.size _) n4
  generalize ((w2.alloc (rstoObj ⟨2, m, r, g⟩ (.slice none 0 0) 0)).drewN n4) = w5 at HT0 HW0 ⊢
  clear HS2 HAW t1 t2 t3 t4 t5
  go_wp2_with fail
  go_loopw [16] (fun i wr => ∃ (k : Nat) (s : Sto) (y : RSto), k ≤ l.length ∧ i = .int .i64 k ∧ s.cs.length ≤ k ∧ y.puts.length ≤ 3 * k ∧ Hid (Rel s y) ∧ Hid (Both w.heap.size wr b s w2.heap.size y) ∧ Hid (Below w.heap.size w wr)) (fun i _ => leftTo l.length i)
  case atStart => exact ⟨0, Sto.new m r g, _, Nat.zero_le _, rfl, by simp [Sto.new], by simp, Lib.hid (new_rel m r g), HT0, HW0⟩
  case round =>
    obtain ⟨k, s, y, hk, rfl, hsl, hxl, HR, HT, HW⟩ := hrel
    clear HT0 HW0
    by_cases hlt : k < l.length
    · obtain ⟨ak, hak⟩ : ∃ ak, l[k]? = some ak := ⟨_, List.getElem?_eq_getElem hlt⟩
      obtain ⟨ad, rfl, hadB, hac⟩ := HL.out.cell HW.out hak
      have HALL : Hid (∀ W, Below w.heap.size w W → W.cell? (ad.add (k * 6)) = some (.int .i64 ak.m) ∧ W.cell? ⟨(ad.add (k * 6)).block, (ad.add (k * 6)).off + 1, none⟩ = some (.int .i64 ak.x.kind) ∧ W.cell? ⟨(ad.add (k * 6)).block, (ad.add (k * 6)).off + 2, none⟩ = some (.int .i64 ak.x.a) ∧ W.cell? ⟨(ad.add (k * 6)).block, (ad.add (k * 6)).off + 3, none⟩ = some (.int .i64 ak.x.b) ∧ W.cell? ⟨(ad.add (k * 6)).block, (ad.add (k * 6)).off + 4, none⟩ = some (.int .i64 ak.x.c) ∧ W.cell? ⟨(ad.add (k * 6)).block, (ad.add (k * 6)).off + 5, none⟩ = some (.bool ak.full)) := fun W hW => by
        obtain ⟨ad', hE, _, h⟩ := HL.out.cell hW hak
        obtain rfl : ad = ad' := by injection hE
        exact h
      obtain ⟨q0, q1, q2, q3, q4, q5⟩ := hac
      have hfk := HF.out _ (List.mem_of_getElem? hak)
      have HXB : Hid (ak.x.b < 9223372036854775808) := by have := hfk.2.2.2.1.2; unfold Hid; omega
      have hok := HT.out.ok
      have hl60 := HL60.out
      obtain ⟨hret, hrel', _⟩ := rel_step hok (by omega) HR.out ak.m ak.x HXB.out ak.full
      have HBD : Hid (∀ m r, 0 ≤ y.reg m r ∧ y.reg m r < 18446744073709551616) := fun m r => by rw [RSto.reg, HR.out.r]; exact regAt_bd hok m r
      have HN : Hid (0 ≤ y.n ∧ y.n < 1000000) := by unfold Hid; rw [HR.out.n]; omega
      have HSN : Hid (s.cs.length < 1000000) := by unfold Hid; omega
      have HXL : Hid (y.puts.length ≤ 99990) := by unfold Hid; omega
      have HR2 := Lib.hid hrel'
      have HL2 : Hid ((s.act ak.m ak.x ak.full).1.cs.length ≤ k + 1) := by have := (act_len' s ak.m ak.x ak.full).1; unfold Hid; omega
      have HP2 : Hid ((y.act ak.m ak.x ak.full).1.puts.length ≤ 3 * (k + 1)) := by have := ract_len y ak.m ak.x ak.full; unfold Hid; omega
      have wk : wrap64 ((k : Int) + 1) = (k : Int) + 1 := (i64_w _).symm.trans (IntWalk.i64_in _ (by omega))
      have HD1 : Hid (∀ W, Both w.heap.size W b s w2.heap.size y → Calls Tryd.prog 22 #[.pointer (some ⟨b, 0, none⟩), .int .i64 ak.m, ak.x.v, .bool ak.full] W fun e w' => e = .returned (.int .i64 (s.act ak.m ak.x ak.full).2) ∧ Both w.heap.size w' b (s.act ak.m ak.x ak.full).1 w2.heap.size y ∧ Keep (fun y => w.heap.size ≤ y) W w') := fun W h => Both.do_ h ak.m ak.x ak.full HXB.out HSN.out
      have HD2 : Hid (∀ W, Both w.heap.size W b (s.act ak.m ak.x ak.full).1 w2.heap.size y → Calls Tryd.prog 23 #[.pointer (some ⟨w2.heap.size, 0, none⟩), .int .i64 ak.m, ak.x.v, .bool ak.full] W fun e w' => e = .returned (.int .i64 (y.act ak.m ak.x ak.full).2) ∧ Both w.heap.size w' b (s.act ak.m ak.x ak.full).1 w2.heap.size (y.act ak.m ak.x ak.full).1 ∧ Keep (fun y => w.heap.size ≤ y) W w') := fun W h => Both.rdo h ak.m ak.x ak.full HXL.out HBD.out HXB.out HN.out
      clear hfk hadB hak hok hret hrel' hl60 HBD HN HSN HXL HXB
      generalize (s.act ak.m ak.x ak.full).2 = rt1 at *
      generalize (s.act ak.m ak.x ak.full).1 = s9 at *
      generalize (y.act ak.m ak.x ak.full).2 = rt2 at *
      generalize (y.act ak.m ak.x ak.full).1 = y9 at *
      go_wp2_with fail
      go_region_held3 (fun W => W.cell? (ad.add (k * 6)) = some (.int .i64 ak.m) ∧ W.cell? ⟨(ad.add (k * 6)).block, (ad.add (k * 6)).off + 1, none⟩ = some (.int .i64 ak.x.kind) ∧ W.cell? ⟨(ad.add (k * 6)).block, (ad.add (k * 6)).off + 2, none⟩ = some (.int .i64 ak.x.a) ∧ W.cell? ⟨(ad.add (k * 6)).block, (ad.add (k * 6)).off + 3, none⟩ = some (.int .i64 ak.x.b) ∧ W.cell? ⟨(ad.add (k * 6)).block, (ad.add (k * 6)).off + 4, none⟩ = some (.int .i64 ak.x.c) ∧ W.cell? ⟨(ad.add (k * 6)).block, (ad.add (k * 6)).off + 5, none⟩ = some (.bool ak.full))
        (first | exact HALL.out _ HW.out | exact HALL.out _ HW.out.drew | exact HALL.out _ HWa.out | fail)
        (first | (go_at_call 22; refine (HD1.out _ HT.out.drew).mono ?_; rintro e wa ⟨rfl, ht, hk⟩; have HTa := Lib.hid ht; have HWa : Hid (Below w.heap.size w wa) := HW.out.drew.trans (hk.below HW.out.size (fun y hy => hy)); clear ht hk))
      all_goals
        clear q0 q1 q2 q3 q4 q5
        obtain ⟨q0, q1, q2, q3, q4, q5⟩ := HALL.out _ HWa.out
        go_wp2_with fail
        go_region_held3 (fun W => W.cell? (ad.add (k * 6)) = some (.int .i64 ak.m) ∧ W.cell? ⟨(ad.add (k * 6)).block, (ad.add (k * 6)).off + 1, none⟩ = some (.int .i64 ak.x.kind) ∧ W.cell? ⟨(ad.add (k * 6)).block, (ad.add (k * 6)).off + 2, none⟩ = some (.int .i64 ak.x.a) ∧ W.cell? ⟨(ad.add (k * 6)).block, (ad.add (k * 6)).off + 3, none⟩ = some (.int .i64 ak.x.b) ∧ W.cell? ⟨(ad.add (k * 6)).block, (ad.add (k * 6)).off + 4, none⟩ = some (.int .i64 ak.x.c) ∧ W.cell? ⟨(ad.add (k * 6)).block, (ad.add (k * 6)).off + 5, none⟩ = some (.bool ak.full))
          (first | exact HALL.out _ HWa.out | exact HALL.out _ HWa.out.drew | exact HALL.out _ HWb.out | fail)
          (first | (go_at_call 23; refine (HD2.out _ HTa.out.drew).mono ?_; rintro e wb ⟨rfl, ht, hk⟩; have HTb := Lib.hid ht; have HWb : Hid (Below w.heap.size w wb) := HWa.out.drew.trans (hk.below HWa.out.size (fun y hy => hy)); clear ht hk))
        all_goals
          go_wp2_with fail
          go_roundw
          case rel => exact ⟨k + 1, _, _, by omega, by go_num, HL2.out, HP2.out, HR2, HTb, HWb⟩
          case measure => simp only [leftTo]; omega
    · have HPA : Hid (∀ W A D, Ints .u64 W W.heap.size A (srow (fun i => y.get 2 i 0) s.cs.length) → Ints .u64 W W.heap.size D (srow (fun i => y.get 3 i 0) s.cs.length) → PrsAt W W.heap.size (prsSto s) A D) := fun W A D h1 h2 => by
        refine ⟨fun h => ?_, fun h => ?_⟩
        · have h' : 0 < s.cs.length := h
          obtain ⟨ad, e, hB, hcell⟩ := h1.at_ (by rw [srow_len]; exact h')
          refine ⟨ad, e, hB, fun i hi => ?_⟩
          have hi' : i < s.cs.length := hi
          rw [hcell i (by rw [srow_len]; exact hi'), wd_srow _ _ _ hi', HR.out.a, show s.carAt (i : Int) = s.car i from if_pos ⟨by omega, by omega⟩]
          rfl
        · have h' : 0 < s.cs.length := h
          obtain ⟨ad, e, hB, hcell⟩ := h2.at_ (by rw [srow_len]; exact h')
          refine ⟨ad, e, hB, fun i hi => ?_⟩
          have hi' : i < s.cs.length := hi
          rw [hcell i (by rw [srow_len]; exact hi'), wd_srow _ _ _ hi', HR.out.d, show s.cdrAt (i : Int) = s.cdr i from if_pos ⟨by omega, by omega⟩]
          rfl
      have hl60 := HL60.out
      obtain ⟨Ts, Tr, hs, ⟨vr, hr⟩, _, _, _⟩ := HT.out
      have HSS := Lib.hid hs
      have HRR := Lib.hid hr
      have HCS : Hid (s.cs.length ≤ 60) := by unfold Hid; omega
      have HPL : Hid (y.puts.length ≤ 100000) := by unfold Hid; omega
      have HID : Hid (Calls Tryd.prog 20 #[.pointer (some ⟨b, 0, none⟩), .int .u64 x, .int .i64 most] wr fun e w' => e = .returned (.string (wtxt (prsSto s) x most)) ∧ Below wr.heap.size wr w') := ideal_any wr Ts b s HSS.out (by omega) x most HX9.out (HT9.out.below (Nat.le_refl _) HW.out)
      have HST : Hid (∀ W, Below wr.heap.size wr W → Calls Tryd.prog 24 #[.pointer (some ⟨w2.heap.size, 0, none⟩)] W fun e w' => (∃ A D cA cD, e = .returned (.agg #[.slice A s.cs.length cA, .slice D s.cs.length cD]) ∧ PrsAt w' w'.heap.size (prsSto s) A D) ∧ Below W.heap.size W w') := fun W hW => by
        refine (rstore_any W Tr w2.heap.size y vr (HRR.out.below hW) HPL.out s.cs.length HR.out.n (by omega)).mono ?_
        rintro e w7 ⟨⟨PA, PD, cA, cD, rfl, i1, i2, _, _⟩, hb7⟩
        exact ⟨⟨PA, PD, cA, cD, rfl, HPA.out w7 PA PD i1 i2⟩, hb7⟩
      have HWT : Hid (∀ W A D cA cD, PrsAt W W.heap.size (prsSto s) A D → Calls Tryd.prog 16 #[.agg #[.slice A s.cs.length cA, .slice D s.cs.length cD], .int .u64 x, .int .i64 most] W fun e w' => e = .returned (.string (wtxt (prsSto s) x most)) ∧ Below W.heap.size W w') := fun W A D cA cD hP => refwrite_any W W.heap.size A D cA cD (prsSto s) x most (prsSto_fits s HT.out.ok (by omega)) HX9.out (Nat.le_refl _) hP
      generalize wtxt (prsSto s) x most = TT at *
      generalize prsSto s = ps at *
      clear hl60 hs hr HPA HRR HSS HCS HPL HR HT HL HF HX9 HT9
      go_wp2_with fail
      refine HID.out.mono ?_
      rintro e w6 ⟨rfl, hb6⟩
      have HB6 := Lib.hid hb6
      clear hb6 HID
      go_wp2_with fail
      refine (HST.out w6 HB6.out).mono ?_
      rintro e w7 ⟨⟨PA, PD, cA, cD, rfl, hP⟩, hb7⟩
      have HB7 : Hid (Below wr.heap.size wr w7) := HB6.out.trans (hb7.mono HB6.out.size)
      have HP7 := Lib.hid hP
      clear hb7 hP HST
      go_wp2_with fail
      refine (HWT.out w7 PA PD cA cD HP7.out).mono ?_
      rintro e w8 ⟨rfl, hb8⟩
      have HB8 : Hid (Below w.heap.size w w8) := HW.out.trans ((HB7.out.trans (hb8.mono HB7.out.size)).mono HW.out.size)
      clear hb8 HWT
      go_wp2_with fail
      go_ret
      exact ⟨rfl, HB8.out⟩
theorem sideals_walk (w : World) (m r g : Int) (A : Option Addr) (c : Nat) (l : List Actn) (hacts : Acts w w.heap.size A l) (hfit : ∀ a ∈ l, a.fits) (x most : Int) (hx : wok x) (ht : Tens w) :
    Calls Tryd.prog 4 #[.int .i64 m, .int .i64 r, .int .i64 g, .slice A l.length c, .int .u64 x, .int .i64 most] w fun e w' => e = .returned (.bool true) ∧ Below w.heap.size w w' := by
  by_cases ok : (⟨2, m, r, g⟩ : Cfg).ok = true
  · by_cases hb : sbad m r g l.length most = true
    · exact sideals_far w m r g A c l x most ht ok hb
    · exact sideals_some w m r g A c l hacts hfit x most hx ht ok (by simpa using hb)
  · exact sideals_none w m r g A c l x most ht (by simpa using ok)
end Go.Proofs.YtipoklnoknkfhaaDoor

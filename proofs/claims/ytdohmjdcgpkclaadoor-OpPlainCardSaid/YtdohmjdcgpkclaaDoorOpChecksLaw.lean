/- The law OpChecks: awake, and the walk. -/
import Derived.Deep.RegionHeld3
import Derived.Test.YtdohmjdcgpkclaaDoorOpText
import Derived.Test.YtdohmjdcgpkclaaDoorOpMore
import Derived.Test.YtdohmjdcgpkclaaDoorOpCheck
namespace Go.Proofs.YtdohmjdcgpkclaaDoor
open Go Go.RowKit Go.Shelf
set_option linter.unusedSimpArgs false
set_option linter.unusedVariables false
attribute [local go_sem] Oper.semAt_some

theorem oawake_any (w : World) (ht : Tens w) : Calls Tryd.prog 42 #[] w fun e w' => e = .returned (.bool true) ∧ Below w.heap.size w w' := by
  have HT : Hid (otext ⟨3, 0, 1, 2⟩ = ⟨#[99, 111, 110, 115, 32, 48, 32, 49, 32, 50]⟩) := by unfold Hid; decide +kernel
  have HC := Lib.hid (otext_any w ⟨3, 0, 1, 2⟩ (by unfold Opr.fits; decide) ht)
  clear ht
  go_enter Tryd.func42, Tryd.ntmps42
  go_wp2_with fail
  refine HC.out.mono ?_
  rintro e w2 ⟨rfl, hb⟩
  have HB := Lib.hid hb
  clear hb
  rw [HT.out]
  go_wp2_with fail
  go_ret
  exact ⟨rfl, HB.out⟩
/-- is the result's box set? -/
def boxed (r : Addr) (w : World) : Bool := match w.cell? r with
  | some (.bool b) => b
  | _ => false
theorem boxed_of {r : Addr} {w : World} {b : Bool} (h : w.cell? r = some (.bool b)) : w.cell? r = some (.bool (boxed r w)) := by unfold boxed; rw [h]
theorem boxed_set {r : Addr} {w : World} {b : Bool} (h : w.cell? r = some (.bool (boxed r w))) : (w.setCell r (.bool b)).cell? r = some (.bool (boxed r (w.setCell r (.bool b)))) :=
  boxed_of (World.cell?_setCell_same' _ _ _ (by rw [h]; rfl))
theorem boxed_is {k : Nat} {w : World} {b : Bool} (h : (w.setCell ⟨k, 0, none⟩ (.bool b)).cell? ⟨k, 0, none⟩ = some (.bool (boxed ⟨k, 0, none⟩ (w.setCell ⟨k, 0, none⟩ (.bool b))))) : (w.setCell ⟨k, 0, none⟩ (.bool b)).cell? ⟨k, 0, none⟩ = some (.bool b) := by
  cases hc : w.cell? ⟨k, 0, none⟩ with
  | some v => exact World.cell?_setCell_same' _ _ _ (by rw [hc]; rfl)
  | none =>
    exfalso
    have h2 : (w.setCell ⟨k, 0, none⟩ (.bool b)).cell? ⟨k, 0, none⟩ = none := by
      simp only [World.setCell, World.cell?, Array.getElem?_modify, if_true] at hc ⊢
      cases hb : w.heap[k]? with
      | none => simp
      | some o => cases o <;> simp [hb] at hc ⊢ <;> simp_all
    rw [h2] at h
    cases h
theorem own_cells {w : World} {B : Nat} {E : TypeId} {v : Value} {ys : List Int} (h : w.ownsRow B E 1 v ys.length (ys.map (Value.int .i64))) :
    ∃ V vc g, v = .slice V ys.length vc ∧ (0 < ys.length → V = some ⟨g, 0, none⟩) ∧ (∀ i, i < ys.length → w.cell? ⟨g, i, none⟩ = some (.int .i64 (wd ys i))) := by
  rcases h.2 with ⟨rfl, e⟩ | ⟨g, cap, cur, rfl, hr⟩
  · exact ⟨none, 0, 0, by rw [e], fun h => by omega, fun i hi => by omega⟩
  · refine ⟨some ⟨g, 0, none⟩, cap, g, rfl, fun _ => rfl, fun i hi => ?_⟩
    have h1 := h.cellAt i (by omega)
    rw [h1]
    simp [wd, hi]
theorem wd_nthO (xs : List Int) (i : Nat) (h : i < xs.length) : wd xs i = xs[i] := by simp [wd, h]
theorem pre_nextO {pre xs : List Int} {x : Int} (hp : pre <+: xs) (hlt : pre.length < xs.length) (hx : x = wd xs pre.length) : pre ++ [x] <+: xs := by
  obtain ⟨r, rfl⟩ := hp
  cases r with
  | nil => simp at hlt
  | cons y r' =>
    have e : x = y := by rw [hx]; simp [wd]
    exact ⟨r', by rw [e]; simp⟩
set_option maxHeartbeats 8000000 in
set_option maxRecDepth 100000 in
theorem ochecks_walk (w : World) (c : Cfg) (x : Opr) (ret : Int) (hf : x.fits) (ht : Tens w) :
    Calls Tryd.prog 10 #[c.v, x.v, .int .i64 ret] w fun e w' => e = .returned (.bool true) ∧ Below w.heap.size w w' := by
  have HT : Hid (Tens w) := ht
  have HB0 : Hid (Below w.heap.size w (((w.alloc c.obj).alloc x.obj).alloc (.cells #[.bool false] 4))) := (((Below.refl _ w).alloc (Nat.le_refl _) _).alloc (by simp) _).alloc (by simp; omega) _
  have HC0 : Hid ((((w.alloc c.obj).alloc x.obj).alloc (.cells #[.bool false] 4)).heap[w.heap.size]? = some c.obj) := (Below.heap_alloc _ _ _ (by simp; omega)).trans (heap_new1 w c.obj x.obj)
  have HX0 : Hid ((((w.alloc c.obj).alloc x.obj).alloc (.cells #[.bool false] 4)).heap[w.heap.size + 1]? = some x.obj) := (Below.heap_alloc _ _ _ (by simp)).trans (heap_new2 w c.obj x.obj)
  have HR0 : Hid ((((w.alloc c.obj).alloc x.obj).alloc (.cells #[.bool false] 4)).heap[w.heap.size + 2]? = some (.cells #[.bool false] 4)) := by
    have := heap_alloc_new ((w.alloc c.obj).alloc x.obj) (.cells #[.bool false] 4)
    rwa [show ((w.alloc c.obj).alloc x.obj).heap.size = w.heap.size + 2 by simp] at this
  clear ht
  refine callsIn_wide.1 (callsIn_of_wp_marks (n := 3) (F := Fence.wide) Tryd.func10 rfl trivial (wpIn_wide.2 ?_) rfl)
  simp only [Tryd.ntmps10, List.size_toArray, List.length_cons, List.length_nil, Nat.reduceAdd, Nat.reduceSub, Array.replicate_succ, Array.replicate_zero, List.push_toArray, List.append_toArray, List.nil_append, List.cons_append]
  go_wp2_with fail
  refine (oawake_any _ (HT.out.below (Nat.le_refl _) HB0.out)).mono ?_
  rintro e w1 ⟨rfl, hb⟩
  have HB1 : Hid (Below w.heap.size w w1) := HB0.out.trans (hb.mono (by simp; omega))
  have HC1 : Hid (w1.heap[w.heap.size]? = some c.obj) := (hb.block _ (by simp; omega)).trans HC0.out
  have HX1 : Hid (w1.heap[w.heap.size + 1]? = some x.obj) := (hb.block _ (by simp)).trans HX0.out
  have HR1 : Hid (w1.heap[w.heap.size + 2]? = some (.cells #[.bool false] 4)) := (hb.block _ (by simp)).trans HR0.out
  clear hb
  obtain ⟨x0, x1, x2, x3⟩ := opr_cells HX1.out
  go_wp2_with fail
  refine (refregs_any _ x).mono ?_
  rintro e w2 ⟨v, rfl, hrow, hb⟩
  obtain ⟨V, vc, g, hv, hVg, hgc⟩ := own_cells hrow
  have HB2 : Hid (Below w.heap.size w w2) := HB1.out.trans (hb.mono HB1.out.size)
  have HC2 : Hid (w2.heap[w.heap.size]? = some c.obj) := (hb.block _ (block_lt HC1.out)).trans HC1.out
  have HX2 : Hid (w2.heap[w.heap.size + 1]? = some x.obj) := (hb.block _ (block_lt HX1.out)).trans HX1.out
  have HR2 : Hid (w2.heap[w.heap.size + 2]? = some (.cells #[.bool false] 4)) := (hb.block _ (block_lt HR1.out)).trans HR1.out
  have HVG := Lib.hid hVg
  have HGC := Lib.hid hgc
  clear hb hrow x0 x1 x2 x3 hVg hgc
  subst hv
  have HL3 := Lib.hid (oregs_len x)
  have hz2 : w.heap.size + 2 < w2.heap.size := block_lt HR2.out
  have hz1 : w.heap.size + 1 < w2.heap.size := by omega
  have HX3 : Hid (((w2.alloc (.cells #[.slice V (oregs x).length vc] 34)).alloc (.cells #[.int .i64 0] 3)).heap[w.heap.size + 1]? = some x.obj) := (Below.heap_alloc _ _ _ (by simp; omega)).trans ((Below.heap_alloc _ _ _ (by omega)).trans HX2.out)
  obtain ⟨x0, x1, x2, x3⟩ := opr_cells HX3.out
  go_wp2_with fail
  refine (regsMk_any _ x).mono ?_
  rintro e w3 ⟨rfl, hw3⟩
  obtain rfl := hw3.symm
  clear hw3
  have hh1 := heap_new1 w2 (.cells #[.slice V (oregs x).length vc] 34) (.cells #[.int .i64 0] 3)
  have hh2 := heap_new2 w2 (.cells #[.slice V (oregs x).length vc] 34) (.cells #[.int .i64 0] 3)
  have HWK : Hid (Below w2.heap.size w2 ((w2.alloc (.cells #[.slice V (oregs x).length vc] 34)).alloc (.cells #[.int .i64 0] 3))) := ((Below.refl _ w2).alloc (Nat.le_refl _) _).alloc (by simp) _
  have HZ0 : Hid (((w2.alloc (.cells #[.slice V (oregs x).length vc] 34)).alloc (.cells #[.int .i64 0] 3)).heap.size = w2.heap.size + 2) := by unfold Hid; simp
  have HH1 := Lib.hid hh1
  have HH2 := Lib.hid hh2
  clear hh1 hh2 x0 x1 x2 x3
  generalize hw0 : (w2.alloc (.cells #[.slice V (oregs x).length vc] 34)).alloc (.cells #[.int .i64 0] 3) = w0 at *
  clear hw0
  obtain ⟨L, hL⟩ : ∃ L, L = oregs x := ⟨_, rfl⟩
  have HLL := Lib.hid hL
  rw [← hL] at HVG HGC HL3 HH1
  rw [← hL]
  clear hL
  go_wp2_with fail
  have hz0 : w0.heap.size = w2.heap.size + 2 := HZ0.out
  have hx0 : (w0.alloc x.obj).heap[w0.heap.size]? = some x.obj := heap_alloc_new w0 x.obj
  have hb0 : Below w0.heap.size w0 (w0.alloc x.obj) := (Below.refl _ _).alloc (Nat.le_refl _) _
  have hzx : (w0.alloc x.obj).heap.size = w2.heap.size + 3 := by simp; omega
  have HN0 : Hid ((w0.alloc x.obj).heap[w2.heap.size + 1]? = some (.cells #[.int .i64 0] 3)) := (hb0.block _ (by omega)).trans HH2.out
  refine (wpIn_wide (n := 3)).1 (wpIn_rangeFunc_ownF rfl (by omega) (gf := 90) (lb := #[.pointer (some ⟨w0.heap.size, 0, none⟩)]) rfl trivial (enters_of Tryd.func90 (by kernel_rfl) rfl)
    (regs_stops 2 (by omega) w0.heap.size x _ hx0) rkp_t (rkp_b (block_lt hx0)) (Below.refl _ _) (fun _ => rfl)
    (fun pre W => (pre <+: L ∧ W.cell? ⟨w2.heap.size + 1, 0, none⟩ = some (.int .i64 (pre.length : Int)) ∧ W.frozen? ⟨w2.heap.size + 1, 0, none⟩ = false) ∧ Below (w2.heap.size + 1) w0 W)
    (fun c pre W => (c = .ret ∧ ¬ pre <+: L) ∧ Below w.heap.size w W)
    (OwnFrom.and (Own.from (fun s A B row hs hg hr => ⟨hs.1, cell_kept hs.2.1 hg hr, (frozen_kept hs.2.1 hg hr).trans hs.2.2⟩) _) (ownFrom_below (by omega) (by omega)))
    (fun c => OwnFrom.and (Own.from (fun s A B row hs hg hr => hs) _) (ownFrom_below (by omega) (by omega)))
    ⟨⟨List.nil_prefix, cell_of_block HN0.out 0, frozen_of_block HN0.out 0⟩, hb0.mono (by omega)⟩
    (fun y => { tmps := #[c.v, x.v, .int .i64 ret, .pointer (some ⟨w.heap.size, 0, none⟩), .pointer (some ⟨w.heap.size + 1, 0, none⟩), undef, .pointer (some ⟨w.heap.size + 1 + 1, 0, none⟩), .pointer (some ⟨w2.heap.size, 0, none⟩), .pointer (some ⟨w2.heap.size + 1, 0, none⟩), .int .i64 y, .bool true, .bool false, x.v, .slice V L.length vc, x.v, .func (.func 90) #[] #[.pointer (some ⟨w0.heap.size, 0, none⟩)], .int .i64 y, undef, undef, undef, undef, undef, undef, undef, undef, undef, undef, undef, undef, undef, undef, undef, undef, undef, undef, undef, undef, undef, undef, undef, undef, undef, undef, undef, undef, undef, undef, undef, undef, undef, undef, undef, undef, undef, undef, undef, undef, undef, undef, undef], defers := [] }) ?assign ?body ?done ?stop)
  all_goals clear hz0 hzx hx0 hb0
  case assign =>
    intro l y W K hK
    clear HZ0
    gi_wp2
    exact hK
  case body =>
    rintro l pre y W ⟨⟨hp, hcn, hfn⟩, hB⟩ hlt
    rw [← HLL.out] at hlt
    obtain rfl := HVG.out (by omega)
    have dge : decide ((L.length : Int) ≤ (pre.length : Int)) = false := by simp; omega
    have i1 : (0 : Int) ≤ (pre.length : Int) := by omega
    have i2 : (pre.length : Int) < (L.length : Int) := by omega
    have hz0 := HZ0.out
    have hcw : W.cell? ⟨w2.heap.size, 0, none⟩ = some (.slice (some ⟨g, 0, none⟩) L.length vc) := cell_of_block ((hB.block _ (by omega)).trans HH1.out) 0
    have hcg0 := HGC.out pre.length hlt
    have hgz : g < w2.heap.size := World.block_lt_of_cell? _ _ hcg0
    have hcg : W.cell? ⟨g, pre.length, none⟩ = some (.int .i64 (wd L pre.length)) := (hB.cell (by show g < _; omega)).trans ((HWK.out.cell hgz).trans hcg0)
    have sp : IntKind.i64.wrap ((pre.length : Int) + 1) = (pre.length : Int) + 1 := IntWalk.i64_in _ (by have := HL3.out; omega)
    have HRW : W.heap[w.heap.size + 1 + 1]? = some (.cells #[.bool false] 4) := (hB.block _ (by omega)).trans ((HWK.out.block _ (by omega)).trans HR2.out)
    have hcr := cell_of_block HRW 0
    have hfr := frozen_of_block HRW 0
    have HBB := Lib.hid hB
    clear HRW hB
    by_cases hyy : y = wd L pre.length
    · have tne : (y != wd L pre.length) = false := by rw [hyy]; simp
      have HPX := Lib.hid (pre_nextO hp hlt hyy)
      clear hyy hz0
      gi_wp2
      refine ⟨KeepsOthers.setCell _ _ _, rkp_set W (by have := HZ0.out; omega) _, ⟨HPX.out, ?_, ?_⟩, HBB.out.setCell (p := ⟨w2.heap.size + 1, 0, none⟩) (Nat.le_refl _) _⟩
      · rw [List.length_append, List.length_singleton, World.cell?_setCell_same' _ _ _ (by rw [hcn]; rfl)]
        simp
      · rw [World.frozen?_setCell]; exact hfn
    · have tne : (y != wd L pre.length) = true := by simpa using hyy
      have HNX : Hid (¬ (pre ++ [y] <+: L)) := by
        rintro ⟨r, hr⟩
        refine hyy ?_
        have hlt2 : pre.length < (pre ++ [y] ++ r).length := by simp
        rw [wd_nthO _ _ hlt]
        have e : L[pre.length] = (pre ++ [y] ++ r)[pre.length] := by simp only [hr]
        rw [e]
        simp
      have HWB : Hid (Below w.heap.size w W) := HB2.out.trans ((HWK.out.mono (by omega)).trans (HBB.out.mono (by omega)))
      clear hyy hz0
      gi_wp2
      exact ⟨KeepsOthers.setCell _ _ _, ⟨rfl, HNX.out⟩, HWB.out.setCell (p := ⟨w.heap.size + 1 + 1, 0, none⟩) (by simp; omega) _⟩
  case done =>
    rintro D ys W hD rfl ⟨⟨hp, hcn, hfn⟩, hB⟩ hK
    rw [← HLL.out] at hcn
    have hz0 := HZ0.out
    have HC4 : W.heap[w.heap.size]? = some c.obj := (hB.block _ (by omega)).trans ((HWK.out.block _ (by omega)).trans HC2.out)
    have HX4 : W.heap[w.heap.size + 1]? = some x.obj := (hB.block _ (by omega)).trans ((HWK.out.block _ (by omega)).trans HX2.out)
    have HR4 : W.heap[w.heap.size + 1 + 1]? = some (.cells #[.bool false] 4) := (hB.block _ (by omega)).trans ((HWK.out.block _ (by omega)).trans HR2.out)
    have hcw : W.cell? ⟨w2.heap.size, 0, none⟩ = some (.slice V L.length vc) := cell_of_block ((hB.block _ (by omega)).trans HH1.out) 0
    have hcr0 : W.cell? ⟨w.heap.size + 1 + 1, 0, none⟩ = some (.bool false) := cell_of_block HR4 0
    have hcr := boxed_of hcr0
    have hfr := frozen_of_block HR4 0
    obtain ⟨x0, x1, x2, x3⟩ := opr_cells HX4
    obtain ⟨k0, k1, k2, k3⟩ := Cfg.cells_at HC4
    have HWB : Hid (Below w.heap.size w W) := HB2.out.trans ((HWK.out.mono (by omega)).trans (hB.mono (by omega)))
    have hDz : w2.heap.size + 3 ≤ D := by simp at hD; omega
    have HD0 := Lib.hid hDz
    have hDW := block_lt hK
    have hzz : w2.heap.size + 2 < W.heap.size := by omega
    clear hcr0 HR4 hB hz0 hD hDz hDW
    go_wp2_with fail
    go_region_held3 (fun w' => w'.cell? ⟨w.heap.size, 0, none⟩ = some (.int .i64 c.cells) ∧ w'.cell? ⟨w.heap.size, 1, none⟩ = some (.int .i64 c.muts) ∧ w'.cell? ⟨w.heap.size, 2, none⟩ = some (.int .i64 c.regs) ∧ w'.cell? ⟨w.heap.size, 3, none⟩ = some (.int .i64 c.globs) ∧ w'.cell? ⟨w.heap.size + 1, 0, none⟩ = some (.int .i64 x.kind) ∧ w'.cell? ⟨w.heap.size + 1, 1, none⟩ = some (.int .i64 x.a) ∧ w'.cell? ⟨w.heap.size + 1, 2, none⟩ = some (.int .i64 x.b) ∧ w'.cell? ⟨w.heap.size + 1, 3, none⟩ = some (.int .i64 x.c) ∧ w'.cell? ⟨w2.heap.size, 0, none⟩ = some (.slice V L.length vc) ∧ w'.cell? ⟨w2.heap.size + 1, 0, none⟩ = some (.int .i64 L.length) ∧ w'.cell? ⟨w.heap.size + 1 + 1, 0, none⟩ = some (.bool (boxed ⟨w.heap.size + 1 + 1, 0, none⟩ w')) ∧ w'.frozen? ⟨w.heap.size + 1 + 1, 0, none⟩ = false ∧ w'.heap[D]? = some (.deferred (some [])) ∧ w2.heap.size + 2 < w'.heap.size ∧ Below w.heap.size w w')
      (first
        | exact ⟨k0, k1, k2, k3, x0, x1, x2, x3, hcw, hcn, hcr, hfr, hK, hzz, HWB.out⟩
        | exact ⟨k0, k1, k2, k3, x0, x1, x2, x3, hcw, hcn, hcr, hfr, hK, hzz, HWB.out.drew⟩
        | (go_split_ands; refine ⟨?_, ?_, ?_, ?_, ?_, ?_, ?_, ?_, ?_, ?_, ?_, ?_, ?_, ?_, ?_⟩ <;> (first
          | assumption
          | (rw [hb2.cell (by first | (simp; done) | (simp; omega))]; assumption)
          | exact boxed_of ((hb2.cell (by first | omega | (simp; done) | (simp; omega))).trans (by assumption))
          | exact (hb2.frozen (by first | omega | (simp; done) | (simp; omega))).trans (by assumption)
          | exact (hb2.block _ (block_lt (by assumption))).trans (by assumption)
          | exact Nat.lt_of_lt_of_le (by assumption) hb2.size
          | exact Below.trans (by assumption) (hb2.mono (by first | omega | (simp; done) | (simp; omega)))
          | (rw [World.cell?_setCell_far _ _ _ _ (by first | omega | (simp; done) | (simp; omega))]; assumption)
          | exact boxed_set (by assumption)
          | (rw [World.frozen?_setCell]; assumption)
          | exact (Below.heap_setCell _ _ _ _ (by have := HD0.out; first | omega | (simp; omega))).trans (by assumption)
          | (show _ < (World.setCell _ _ _).heap.size; unfold World.setCell; simp; assumption)
          | exact Below.setCell (by assumption) (by first | omega | (simp; done) | (simp; omega)) _
          | exact Below.drew (by assumption)))
        | fail)
      (first
        | (go_at_call 44; refine (ocheck_any _ c x).mono ?_; rintro e wq ⟨rfl, hb2⟩)
        | (go_at_call 48; refine (refcheck_any _ c x).mono ?_; rintro e wq ⟨rfl, hb2⟩)
        | (go_at_call 49; refine (oname_any _ x.kind).mono ?_; rintro e wq ⟨rfl, hb2⟩)
        | (go_at_call 50; refine (refname_any _ x.kind).mono ?_; rintro e wq ⟨rfl, hw2⟩; obtain rfl := hw2.symm; clear hw2)
        | (go_at_call 51; refine (oret_any _ ret).mono ?_; rintro e wq ⟨rfl, hb2⟩)
        | (go_at_call 52; refine (refret_any _ ret).mono ?_; rintro e wq ⟨rfl, hw2⟩; obtain rfl := hw2.symm; clear hw2))
    all_goals
      go_split_ands
      clear x0 x1 x2 x3 k0 k1 k2 k3 hcn hfn hcr hfr hcw
      have HKF := Lib.hid (show (World.setCell _ _ _).heap[D]? = _ by assumption)
      have HCF := Lib.hid (boxed_is (k := w.heap.size + 1 + 1) (b := true) (by assumption))
      have HBF := Lib.hid (show Below w.heap.size w (World.setCell _ _ _) by assumption)
      go_wp2_with fail
      refine ⟨by simp, .inl ⟨_, _, rfl, run_takeDeferred HKF.out, ?_⟩⟩
      have hcF := cell_kept HCF.out (grownBy_putObj' _ D (.deferred none)) (fun r e => by cases e; exact ⟨_, HKF.out, rfl⟩)
      refine ⟨.bool true, ?_, rfl, HBF.out.trans (belowK_b (w := w) (Nat.le_refl _) _ D _ _ (by have := HD0.out; omega) HKF.out rfl rfl)⟩
      simp [results, Tryd.f10, go_sem, hcF]
  case stop =>
    rintro D c' pre W hD hpre ⟨⟨_, hn⟩, _⟩ hK
    rw [← HLL.out] at hpre
    exact (hn hpre).elim
end Go.Proofs.YtdohmjdcgpkclaaDoor

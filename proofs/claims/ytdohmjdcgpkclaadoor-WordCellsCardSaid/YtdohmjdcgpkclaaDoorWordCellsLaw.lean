/- The walk of the law WordCells. -/
import Derived.Test.YtdohmjdcgpkclaaDoorWordCells
namespace Go.Proofs.YtdohmjdcgpkclaaDoor
open Go Go.RowKit Go.Shelf
set_option linter.unusedSimpArgs false
set_option linter.unusedVariables false
attribute [local go_sem] Oper.semAt_some

set_option maxRecDepth 100000 in
theorem wcells_long (w : World) (A : Option Addr) (c : Nat) (xs : List Int) (hl : 60 < xs.length) :
    Calls Tryd.prog 5 #[.slice A xs.length c] w fun e w' => e = .returned (.bool true) ∧ Below w.heap.size w w' := by
  have dl : decide (60 < (xs.length : Int)) = true := by simp; omega
  have HB : Hid (Below w.heap.size w (w.alloc (.cells #[.bool true] 4))) := (Below.refl _ w).alloc (Nat.le_refl _) _
  have HC : Hid ((w.alloc (.cells #[.bool true] 4)).cell? ⟨w.heap.size, 0, none⟩ = some (.bool true)) := cell_of_block (heap_alloc_new w _) 0
  clear hl
  refine callsIn_wide.1 (callsIn_of_wp_marks (n := 3) (F := Fence.wide) Tryd.func5 rfl trivial (wpIn_wide.2 ?_) rfl)
  simp only [Tryd.ntmps5, List.size_toArray, List.length_cons, List.length_nil, Nat.reduceAdd, Nat.reduceSub, Array.replicate_succ, Array.replicate_zero, List.push_toArray, List.append_toArray, List.nil_append, List.cons_append]
  go_wp2_with fail
  refine (word_awake _).mono ?_
  rintro e w1 ⟨rfl, hw⟩
  obtain rfl := hw.symm
  clear hw
  go_wp2_with fail
  refine ⟨.bool true, ?_, rfl, HB.out⟩
  have hc := HC.out
  simp [results, Tryd.f5, go_sem, hc]
theorem pre_next {pre xs : List Int} {x : Int} (hp : pre <+: xs) (hlt : pre.length < xs.length) (hx : x = wd xs pre.length) : pre ++ [x] <+: xs := by
  obtain ⟨r, rfl⟩ := hp
  cases r with
  | nil => simp at hlt
  | cons y r' =>
    have e : x = y := by rw [hx]; simp [wd]
    exact ⟨r', by rw [e]; simp⟩
theorem info_int8 : (Tryd.prog.info? 3).map (fun i => (i.zero, i.size, i.bytes)) = some (some (.int .i64 0), 1, 8) := by kernel_rfl
theorem info_int8' : ∃ i, Tryd.prog.info? 3 = some i ∧ i.zero = some (.int .i64 0) ∧ i.size = 1 ∧ i.bytes = 8 := by
  have := info_int8
  cases hh : Tryd.prog.info? 3 with
  | none => rw [hh] at this; cases this
  | some i =>
    rw [hh] at this
    simp at this
    exact ⟨i, rfl, this⟩
theorem reads_int (W : World) (E : TypeId) (a : Value) : Reads (W.alloc (.cells #[a] E)) (W.heap.size + 1) 1 (some ⟨W.heap.size, 0, none⟩) 1 [a] := by
  refine ⟨rfl, fun _ => ⟨_, rfl, by simp, fun j u hu => ?_⟩⟩
  have hj : j < 1 := by
    have := (List.getElem?_eq_some_iff.1 hu).1
    simpa using this
  obtain rfl : j = 0 := by omega
  have e : (⟨W.heap.size, 0, none⟩ : Addr).add 0 = ⟨W.heap.size, 0, none⟩ := by unfold Addr.add; simp
  rw [e, cell_of_block (heap_alloc_new W _)]
  simpa using hu
/-- the boxes of the result and of what is wanted, and what is wanted so far -/
structure WS (w wr : World) (ys : List Int) : Prop where
  res : wr.cell? ⟨w.heap.size, 0, none⟩ = some (.bool false) ∧ wr.frozen? ⟨w.heap.size, 0, none⟩ = false
  row : ∃ v, wr.cell? ⟨w.heap.size + 1, 0, none⟩ = some v ∧ wr.frozen? ⟨w.heap.size + 1, 0, none⟩ = false ∧ wr.ownsRow (w.heap.size + 2) 3 1 v ys.length (ys.map (Value.int .i64))
  kp : Below w.heap.size w wr
  sz : w.heap.size + 2 ≤ wr.heap.size
set_option maxHeartbeats 8000000 in
set_option maxRecDepth 100000 in
theorem wcells_walk (w : World) (A : Option Addr) (c : Nat) (xs : List Int) (h : Words w w.heap.size A xs) (hx : ∀ x ∈ xs, 0 ≤ x ∧ x < 18446744073709551616) :
    Calls Tryd.prog 5 #[.slice A xs.length c] w fun e w' => e = .returned (.bool true) ∧ Below w.heap.size w w' := by
  by_cases hl : 60 < xs.length
  · exact wcells_long w A c xs hl
  have dl : decide (60 < (xs.length : Int)) = false := by simp; omega
  have HL : Hid (xs.length ≤ 60) := by unfold Hid; omega
  have HX := Lib.hid hx
  have HWD := Lib.hid h
  have HS0 : Hid (WS w ((w.alloc (.cells #[.bool false] 4)).alloc (.cells #[.slice none 0 0] 34)) []) := by
    have h1 := heap_new1 w (.cells #[.bool false] 4) (.cells #[.slice none 0 0] 34)
    have h2 := heap_new2 w (.cells #[.bool false] 4) (.cells #[.slice none 0 0] 34)
    exact { res := ⟨cell_of_block h1 0, frozen_of_block h1 0⟩
            row := ⟨.slice none 0 0, cell_of_block h2 0, frozen_of_block h2 0, ⟨rfl, Or.inl ⟨rfl, rfl⟩⟩⟩
            kp := ((Below.refl _ w).alloc (Nat.le_refl _) _).alloc (by simp) _
            sz := by simp }
  obtain ⟨i0, hi0, hz0, hz1, hz2⟩ := info_int8'
  clear h hx hl
  refine callsIn_wide.1 (callsIn_of_wp_marks (n := 3) (F := Fence.wide) Tryd.func5 rfl trivial (wpIn_wide.2 ?_) rfl)
  simp only [Tryd.ntmps5, List.size_toArray, List.length_cons, List.length_nil, Nat.reduceAdd, Nat.reduceSub, Array.replicate_succ, Array.replicate_zero, List.push_toArray, List.append_toArray, List.nil_append, List.cons_append]
  go_wp2_with fail
  refine (word_awake _).mono ?_
  rintro e w1 ⟨rfl, hw⟩
  obtain rfl := hw.symm
  clear hw
  go_wp2_with fail
  go_loopw [4, 5] (fun i _ wr => ∃ k : Nat, k ≤ xs.length ∧ i = .int .i64 k ∧ Hid (WS w wr (cellsL (xs.take k)))) (fun i _ _ => xs.length - (intOf i).toNat)
  case atStart => exact ⟨0, Nat.zero_le _, rfl, HS0⟩
  case round =>
    obtain ⟨k, hk, rfl, HS⟩ := hrel
    clear HS0
    by_cases hlt : k < xs.length
    · obtain ⟨ad, rfl, hadB, hcx⟩ := HWD.out.cell HS.out.kp hlt
      have HXK : Hid (0 ≤ wd xs k ∧ wd xs k < 18446744073709551616) := HX.out (wd xs k) (by rw [wd_nthC xs k hlt]; exact List.getElem_mem _)
      have i1 : ((k : Nat) : Int) < ((xs.length : Nat) : Int) := by omega
      have sk : IntKind.i64.wrap ((k : Int) + 1) = (k : Int) + 1 := IntWalk.i64_in _ (by have := HL.out; omega)
      by_cases hc : isC (wd xs k) = true
      · have HY2 := Lib.hid (cellsL_yes hlt hc)
        have hd : decide (wd xs k % 2 = 1 ∧ wd xs k < 8192) = true := hc
        have HIF : Hid ((if wd xs k % 2 = 1 ∧ wd xs k < 8192 then wd xs k / 2 else -1) = wd xs k / 2) := if_pos (of_decide_eq_true hd)
        have dg : decide (0 ≤ wd xs k / 2) = true := by have := HXK.out; simp; omega
        have HYL : Hid ((cellsL (xs.take k)).length ≤ 60) := by
          have h1 := cellsL_len (xs.take k)
          have h2 := HL.out
          unfold Hid
          simp at h1
          omega
        obtain ⟨v, kv, fv, hrow⟩ := HS.out.row
        generalize cellsL (xs.take k) = ys at *
        have HOA : Hid ((wr.alloc (.cells #[.int .i64 (wd xs k / 2)] 3)).ownsRow (w.heap.size + 2) 3 1 v ys.length (ys.map (Value.int .i64))) := hrow.alloc _
        have HSZ := Lib.hid HS.out.sz
        have hyl := HYL.out
        clear hadB hc hd hrow
        generalize wd xs k = x at *
        go_wp2_with fail
        refine (refIsCell_any _ x HXK.out.1 HXK.out.2).mono ?_
        rintro e w3 ⟨rfl, hw3⟩
        obtain rfl := hw3.symm
        clear hw3
        rw [HIF.out]
        go_wp2_with (first
          | (at_builtin
             refine wpList_append_any _ rfl (.tmp 26) (.tmp 28) _ rfl (w.heap.size + 2) 3 i0 _ 1 8 Tryd.underlying34 hi0 hz0 hz1 hz2 rfl (by omega) v ys.length (ys.map (Value.int .i64)) rfl
               HOA.out _ _ 1 1 [.int .i64 (x / 2)] rfl (reads_int _ _ _) (by intro u hu; simp at hu; subst hu; rfl) (by unfold maxLen; omega) (by omega) (by have := HSZ.out; simp; omega) ?_
             intro v1 w1' hown1 hg1 hat1
             have HK1 : Keep (fun y => v.ownBlock = some y) _ w1' := Keep.of_grown hg1 (fun _ h => h)
             have hnb : ∀ y, y < w.heap.size + 2 → ¬ v.ownBlock = some y := fun y hy e => by
               have h3 : w.heap.size + 2 ≤ y := (HOA.out.lt y e).1
               omega
             have hsz : w.heap.size + 2 ≤ wr.heap.size := HSZ.out
             have kw : w1'.cell? ⟨w.heap.size + 1, 0, none⟩ = some v := (HK1.cell (p := ⟨w.heap.size + 1, 0, none⟩) (by simp; omega) (hnb (w.heap.size + 1) (by omega))).trans ((World.cell?_alloc_lt _ _ _ (by simp; omega)).trans kv)
             have fw : w1'.frozen? ⟨w.heap.size + 1, 0, none⟩ = false := (HK1.frozen (p := ⟨w.heap.size + 1, 0, none⟩) (by simp; omega) (hnb (w.heap.size + 1) (by omega))).trans ((((Keep.refl (fun _ => False) wr).alloc _).frozen (p := ⟨w.heap.size + 1, 0, none⟩) (by simp; omega) id).trans fv)
             have HS1 : Hid (WS w (w1'.setCell ⟨w.heap.size + 1, 0, none⟩ v1) (ys ++ [x / 2])) := by
               have hb1 : Below w.heap.size w w1' := (HS.out.kp.alloc HS.out.kp.size _).grown hg1 (by have := HS.out.kp.size; simp; omega) (fun k hk => by have h3 : w.heap.size + 2 ≤ k := (HOA.out.lt k hk).1; omega)
               refine { res := ⟨?_, ?_⟩, row := ⟨v1, World.cell?_setCell_same' _ _ _ (by rw [kw]; rfl), by rw [World.frozen?_setCell]; exact fw, ?_⟩, kp := hb1.setCell (p := ⟨w.heap.size + 1, 0, none⟩) (by simp) _, sz := by have := HK1.size; simp at this; simp [World.setCell]; omega }
               · rw [World.cell?_setCell_other (h := fun e2 => by injection e2 with h1 _ _; omega)]
                 exact (HK1.cell (p := ⟨w.heap.size, 0, none⟩) (by simp; omega) (hnb w.heap.size (by omega))).trans ((World.cell?_alloc_lt _ _ _ (by simp; omega)).trans HS.out.res.1)
               · rw [World.frozen?_setCell]
                 exact (HK1.frozen (p := ⟨w.heap.size, 0, none⟩) (by simp; omega) (hnb w.heap.size (by omega))).trans ((((Keep.refl (fun _ => False) wr).alloc _).frozen (p := ⟨w.heap.size, 0, none⟩) (by simp; omega) id).trans HS.out.res.2)
               · have e : (ys ++ [x / 2]).map (Value.int .i64) = ys.map (Value.int .i64) ++ [.int .i64 (x / 2)] := by simp
                 rw [e, List.length_append]
                 exact ownsRow_setCell_other hown1 (fun e2 => by have h3 : w.heap.size + 2 ≤ w.heap.size + 1 := (hown1.lt _ e2).1; omega) _
             obtain ⟨g1, cap1, rfl, _, _⟩ := hown1.form (by omega)
             clear hown1 hg1 hat1 HK1 hnb hsz))
        go_roundw
        case rel => exact ⟨k + 1, by omega, by go_num, by rw [HY2.out]; exact HS1⟩
        case measure => (simp [intOf] <;> omega)
      · have hcf : isC (wd xs k) = false := by simpa using hc
        have HY2 := Lib.hid (cellsL_no hlt hcf)
        have hd : decide (wd xs k % 2 = 1 ∧ wd xs k < 8192) = false := hcf
        have HIF : Hid ((if wd xs k % 2 = 1 ∧ wd xs k < 8192 then wd xs k / 2 else -1) = -1) := if_neg (of_decide_eq_false hd)
        clear hadB hc hcf hd
        generalize wd xs k = x at *
        go_wp2_with fail
        refine (refIsCell_any _ x HXK.out.1 HXK.out.2).mono ?_
        rintro e w3 ⟨rfl, hw3⟩
        obtain rfl := hw3.symm
        clear hw3
        rw [HIF.out]
        go_wp2_with fail
        go_roundw
        case rel => exact ⟨k + 1, by omega, by go_num, by rw [HY2.out]; exact HS⟩
        case measure => (simp [intOf] <;> omega)
    have HE : Hid (cellsL (xs.take k) = cellsL xs) := by unfold Hid; rw [List.take_of_length_le (by omega)]
    rw [HE.out] at HS
    clear HE
    go_wp2_with fail
    refine (mk_any _ A xs.length c).mono ?_
    rintro e w3 ⟨rfl, hw3⟩
    obtain rfl := hw3.symm
    clear hw3
    go_wp2_with fail
    have hsz := HS.out.sz
    obtain ⟨v, kv, fv, hrow⟩ := HS.out.row
    have hcl : Hid ((cellsL xs).length ≤ 60) := by
      have h1 := cellsL_len xs
      have h2 := HL.out
      unfold Hid
      omega
    obtain ⟨V, vc, g, hv, hVg, hgc⟩ : ∃ V vc g, v = .slice V (cellsL xs).length vc ∧ (0 < (cellsL xs).length → V = some ⟨g, 0, none⟩) ∧ (∀ i, i < (cellsL xs).length → wr.cell? ⟨g, i, none⟩ = some (.int .i64 (wd (cellsL xs) i))) := by
      rcases hrow.2 with ⟨rfl, e⟩ | ⟨g, cap, cur, rfl, hr⟩
      · exact ⟨none, 0, 0, by rw [e], fun h => by omega, fun i hi => by omega⟩
      · refine ⟨some ⟨g, 0, none⟩, cap, g, rfl, fun _ => rfl, fun i hi => ?_⟩
        have h1 := hrow.cellAt i (by omega)
        rw [h1]
        simp [wd, hi]
    subst hv
    have HW0 : Below w.heap.size w ((wr.alloc (.cells #[.int .i64 0] 3)).alloc (.cells #[.slice A xs.length c] 33)) := (HS.out.kp.alloc HS.out.kp.size _).alloc (by have := HS.out.kp.size; simp; omega) _
    have HKA : Keep (fun _ => False) wr ((wr.alloc (.cells #[.int .i64 0] 3)).alloc (.cells #[.slice A xs.length c] 33)) := ((Keep.refl _ _).alloc _).alloc _
    have hb1 := heap_new1 wr (.cells #[.int .i64 0] 3) (.cells #[.slice A xs.length c] 33)
    have hb2 := heap_new2 wr (.cells #[.int .i64 0] 3) (.cells #[.slice A xs.length c] 33)
    have hdq : (((cellsL xs).length : Int) == ((cellsL xs).length : Int)) = true := by simp
    refine (wpIn_wide (n := 3)).1 (wpIn_rangeFunc_ownF rfl (by omega) (gf := 72) (lb := #[.pointer (some ⟨wr.heap.size + 1, 0, none⟩)]) rfl trivial (enters_of Tryd.func72 (by kernel_rfl) rfl)
      (cells_stops 2 (by omega) (wr.heap.size + 1) w.heap.size A c xs _ (by simp) HW0.size (cell_of_block hb2 0) (HWD.out.below HW0) HX.out) belowK_t (belowK_b HW0.size) (Below.refl _ _) (fun _ => rfl)
      (fun pre W => (pre <+: cellsL xs ∧ W.cell? ⟨w.heap.size, 0, none⟩ = some (.bool false) ∧ W.frozen? ⟨w.heap.size, 0, none⟩ = false ∧ W.cell? ⟨w.heap.size + 1, 0, none⟩ = some (.slice V (cellsL xs).length vc) ∧ (∀ i, i < (cellsL xs).length → W.cell? ⟨g, i, none⟩ = some (.int .i64 (wd (cellsL xs) i))) ∧ W.cell? ⟨wr.heap.size, 0, none⟩ = some (.int .i64 (pre.length : Int)) ∧ W.frozen? ⟨wr.heap.size, 0, none⟩ = false) ∧ Below w.heap.size w W)
      (fun c pre W => (c = .ret ∧ ¬ pre <+: cellsL xs) ∧ Below w.heap.size w W)
      (OwnFrom.and (Own.from (fun s A B row hs hg hr => ⟨hs.1, cell_kept hs.2.1 hg hr, (frozen_kept hs.2.1 hg hr).trans hs.2.2.1, cell_kept hs.2.2.2.1 hg hr, fun i hi => cell_kept (hs.2.2.2.2.1 i hi) hg hr, cell_kept hs.2.2.2.2.2.1 hg hr, (frozen_kept hs.2.2.2.2.2.1 hg hr).trans hs.2.2.2.2.2.2⟩) _) (ownFrom_below (Nat.le_refl _) HW0.size))
      (fun c => OwnFrom.and (Own.from (fun s A B row hs hg hr => hs) _) (ownFrom_below (Nat.le_refl _) HW0.size))
      ⟨⟨List.nil_prefix, (HKA.cell (p := ⟨w.heap.size, 0, none⟩) (by simp; omega) id).trans HS.out.res.1, (HKA.frozen (p := ⟨w.heap.size, 0, none⟩) (by simp; omega) id).trans HS.out.res.2, (HKA.cell (p := ⟨w.heap.size + 1, 0, none⟩) (by simp; omega) id).trans kv, fun i hi => (HKA.cell (p := ⟨g, i, none⟩) (World.block_lt_of_cell? _ _ (hgc i hi)) id).trans (hgc i hi), cell_of_block hb1 0, frozen_of_block hb1 0⟩, HW0⟩
      (fun x => { tmps := #[.slice A xs.length c, undef, .pointer (some ⟨w.heap.size, 0, none⟩), .pointer (some ⟨w.heap.size + 1, 0, none⟩), .int .i64 k, u5, .pointer (some ⟨wr.heap.size, 0, none⟩), .int .i64 x, .bool true, .bool false, .slice A xs.length c, .int .i64 xs.length, .bool false, .int .i64 k, .slice A xs.length c, .int .i64 xs.length, .bool false, u17, u18, u19, u20, u21, u22, u23, u24, u25, u26, u27, u28, u29, .slice A xs.length c, .func (.func 72) #[] #[.pointer (some ⟨wr.heap.size + 1, 0, none⟩)], .int .i64 x, undef, undef, undef, undef, undef, undef, undef, undef, undef, undef, undef, undef, undef, undef, undef, undef, undef, undef], defers := [] }) ?assign ?body ?done ?stop)
    case assign =>
      intro l x W K hK
      gi_wp2
      exact hK
    case body =>
      rintro l pre x W ⟨⟨hp, hc2, hf2, hc3, hg3, hc6, hf6⟩, hB⟩ hlt
      obtain rfl := hVg (by omega)
      have dge : decide (((cellsL xs).length : Int) ≤ (pre.length : Int)) = false := by simp; omega
      have i1 : (0 : Int) ≤ (pre.length : Int) := by omega
      have i2 : (pre.length : Int) < ((cellsL xs).length : Int) := by omega
      have hcg := hg3 pre.length hlt
      have sp : IntKind.i64.wrap ((pre.length : Int) + 1) = (pre.length : Int) + 1 := IntWalk.i64_in _ (by have := hcl.out; omega)
      have HBW : w.heap.size ≤ wr.heap.size := by omega
      by_cases hxx : x = wd (cellsL xs) pre.length
      · have tne : (x != wd (cellsL xs) pre.length) = false := by rw [hxx]; simp
        have HPX := Lib.hid (pre_next hp hlt hxx)
        clear hxx
        gi_wp2
        refine ⟨KeepsOthers.setCell _ _ _, (Below.refl w.heap.size W).setCell (p := ⟨wr.heap.size, 0, none⟩) HBW _, ⟨HPX.out, ?_, ?_, ?_, ?_, ?_, ?_⟩, hB.setCell (p := ⟨wr.heap.size, 0, none⟩) HBW _⟩
        · rw [World.cell?_setCell_other (h := fun e2 => by injection e2 with h1 _ _; omega)]; exact hc2
        · rw [World.frozen?_setCell]; exact hf2
        · rw [World.cell?_setCell_other (h := fun e2 => by injection e2 with h1 _ _; omega)]; exact hc3
        · intro i hi
          have hgn : g ≠ wr.heap.size := by
            have := World.block_lt_of_cell? _ _ (hgc i hi)
            simp at this
            omega
          rw [World.cell?_setCell_other (h := fun e2 => by injection e2 with h1 _ _; exact hgn h1.symm)]; exact hg3 i hi
        · rw [List.length_append, List.length_singleton, World.cell?_setCell_same' _ _ _ (by rw [hc6]; rfl)]
          simp
        · rw [World.frozen?_setCell]; exact hf6
      · have tne : (x != wd (cellsL xs) pre.length) = true := by simpa using hxx
        have HNX : Hid (¬ (pre ++ [x] <+: cellsL xs)) := by
          rintro ⟨r, hr⟩
          refine hxx ?_
          have hlt2 : pre.length < (pre ++ [x] ++ r).length := by simp
          rw [wd_nthC _ _ hlt]
          have e : (cellsL xs)[pre.length] = (pre ++ [x] ++ r)[pre.length] := by simp only [hr]
          rw [e]
          simp
        gi_wp2
        exact ⟨KeepsOthers.setCell _ _ _, ⟨rfl, HNX.out⟩, hB.setCell (p := ⟨w.heap.size, 0, none⟩) (Nat.le_refl _) _⟩
    case done =>
      rintro D ys W hD rfl ⟨⟨hp, hc2, hf2, hc3, hg3, hc6, hf6⟩, hB⟩ hK
      go_wp2_with fail
      have hK' := (KeepsOthers.setCell W ⟨w.heap.size, 0, none⟩ (.bool true)).same D _ hK rfl
      refine ⟨by simp, .inl ⟨_, _, rfl, run_takeDeferred hK', ?_⟩⟩
      have hc5 := cell_kept (World.cell?_setCell_same' W ⟨w.heap.size, 0, none⟩ (.bool true) (by rw [hc2]; rfl)) (grownBy_putObj' _ D (.deferred none)) (fun r e => by cases e; exact ⟨_, hK', rfl⟩)
      refine ⟨.bool true, ?_, rfl, (hB.setCell (p := ⟨w.heap.size, 0, none⟩) (Nat.le_refl _) _).trans (belowK_b (w := w) (Nat.le_refl _) _ D _ _ (by have := HW0.size; omega) hK' rfl rfl)⟩
      simp [results, Tryd.f5, go_sem, hc5]
    case stop =>
      rintro D c' pre W hD hpre ⟨⟨_, hn⟩, _⟩ hK
      exact (hn hpre).elim
end Go.Proofs.YtdohmjdcgpkclaaDoor

/- show.written: a word, written. -/
import Derived.Test.YtipoklnoknkfhaaDoorShowMem
namespace Go.Proofs.YtipoklnoknkfhaaDoor
open Go Go.RowKit
set_option linter.unusedSimpArgs false
set_option linter.unusedVariables false

theorem cellsByteW : Tryd.prog.cellsOf 5 = 1 := by kernel_rfl
set_option maxHeartbeats 1000000 in
set_option maxRecDepth 100000 in
theorem wString (B b : Nat) (src : Value) (left : Int) (s : ByteArray) (w : World) (h : IsWr B b src (Lib.strCells s) left w) (h0 : 0 < s.size) :
    Calls Tryd.prog 89 #[.pointer (some ⟨b, 1, none⟩)] w fun e w' => e = .returned (.string s) ∧ Below B w w' := by
  obtain ⟨p, v, hp, hB, hbk, hown, hne⟩ := h
  rw [Lib.strCells_length] at hown
  obtain ⟨g, cap, cur, rfl, hbg, hg, hnc, hcm, hcs, htake⟩ : ∃ g cap cur, v = .slice (some ⟨g, 0, none⟩) s.size cap ∧ B ≤ g ∧ w.heap[g]? = some (.cells cur 5 (0, 0)) ∧ s.size ≤ cap ∧ cap ≤ maxLen ∧ cur.size = cap * 1 ∧ cur.toList.take (s.size * 1) = Lib.strCells s := by
    rcases hown.2 with ⟨_, hz⟩ | ⟨g, cap, cur, hv, r⟩
    · omega
    · exact ⟨g, cap, cur, hv, r⟩
  have c2 : w.drew.cell? ⟨b, 2, none⟩ = some (.slice (some ⟨g, 0, none⟩) s.size cap) := by
    have : w.drew.heap[b]? = some (.cells #[src, p, .slice (some ⟨g, 0, none⟩) s.size cap, .int .i64 left] 164 (0, 0)) := hbk
    rw [Lib.cell_of_heap this]; rfl
  have hSD : (Builtin.unsafeSliceData_ #[160] 201 #[.slice (some ⟨g, 0, none⟩) s.size cap]).run Tryd.prog w.drew = .ok (.pointer (some ⟨g, 0, none⟩)) w.drew :=
    Lib.run_unsafeSliceData_row _ _ _ _ _ _ (by omega)
  have hUS : (Builtin.unsafeString_ #[201, 3] 9 #[.pointer (some ⟨g, 0, none⟩), .int .i64 s.size]).run Tryd.prog w.drew = .ok (.string s) (w.drew.freeze ⟨g, 0, none⟩ s.size) := by
    have h := Lib.run_unsafeString_row (P := Tryd.prog) w.drew 201 3 9 5 Tryd.underlying201 cellsByteW g cur.size (by have hg' : w.drew.heap[g]? = some (.cells cur 5 (0, 0)) := hg; simp [World.shape?, hg']) s.data.toList (by intro e; have h1 : s.data.toList.length = 0 := (by rw [e]; rfl); have h2 : s.data.toList.length = s.size := (by simp); omega) (by simp; omega) (by unfold maxLen at hcm; simp; omega) (by
      intro j x hx
      exact hown.cells (g := g) rfl j (.int .u8 x.toNat) (by simp [Lib.strCells, hx]))
    simpa using h
  go_enter Tryd.func89, Tryd.ntmps89
  go_wp2
  go_region
  all_goals (go_wp2; go_ret; exact ⟨rfl, Lib.below_freeze (Below.drew (Below.refl B w)) (p := ⟨g, 0, none⟩) hbg _⟩)

/-- how many cells are written at most -/
def mx (most : Int) : Nat := (max 0 (min most 1000)).toNat
theorem mx_le (most : Int) : mx most ≤ 1000 := by unfold mx; omega
/-- a word, written -/
def wtxt (p : Prs) (x : Int) (most : Int) : ByteArray := (wW p (mx most + 1) false x (mx most)).1
theorem wtext_pos (a : Int) (h : wok a) : 0 < (wtext a).size := by
  obtain ⟨h0, h1⟩ := h
  have hd := dec_size (a / 2).toNat (by omega)
  unfold wtext
  split
  · rw [ByteArray.size_append]; omega
  · omega
theorem wtxt_pos (p : Prs) (x : Int) (hx : wok x) (most : Int) : 0 < (wtxt p x most).size := by
  unfold wtxt wW
  split
  · split
    · show 0 < 2; omega
    · simp only [ByteArray.size_append]
      have e1 : lpar.size = 1 := rfl
      omega
  · exact wtext_pos x hx
set_option maxHeartbeats 4000000 in
set_option maxRecDepth 100000 in
theorem written_any (w : World) (src : Value) (p : Prs) (x most : Int) (hp : p.fits) (hx : wok x) (hs : SrcIs w.heap.size w src p) (ht : Tens w) :
    Calls Tryd.prog 48 #[src, .int .u64 x, .int .i64 most] w fun e w' => e = .returned (.string (wtxt p x most)) ∧ Below w.heap.size w w' := by
  have HX := Lib.hid hx
  have HT := Lib.hid ht
  have HS := Lib.hid hs
  have HP := Lib.hid hp
  obtain ⟨ty, v, g, r, rfl, hm, he, hg⟩ := hs
  clear hx ht hp hg hm he
  go_enter Tryd.func48, Tryd.ntmps48
  go_wp2_with fail
  obtain ⟨W0, hW0⟩ : ∃ W0, W0 = w.alloc (.cells #[.iface ty v, .pointer none, .slice none 0 0, .int .i64 (max 0 (min most 1000))] 164) := ⟨_, rfl⟩
  rw [← hW0]
  have hB0 : Below w.heap.size w W0 := by rw [hW0]; exact (Below.refl _ _).alloc (Nat.le_refl _) _
  have hw0 : IsWr w.heap.size w.heap.size (.iface ty v) (Lib.strCells ⟨#[]⟩) (mx most : Int) W0 := by
    refine ⟨.pointer none, .slice none 0 0, .inl rfl, Nat.le_refl _, ?_, World.ownsRow_nil _ _ _ _, by simp [Value.ownBlock]⟩
    rw [hW0, show ((mx most : Nat) : Int) = max 0 (min most 1000) by unfold mx; omega]
    exact heap_alloc_new w _
  have HB0 := Lib.hid hB0
  have hz0 := hB0.size
  have hit := (item_rest (mx most + 1)).1 w.heap.size w.heap.size (.iface ty v) p ⟨#[]⟩ (mx most) x W0 HP.out (by omega) (mx_le most) HX.out hz0 (fun W hW => HT.out.below (Nat.le_refl _) (hB0.trans hW)) hw0 (HS.out.below hB0) (by have := mx_le most; show 0 + _ ≤ _; omega)
  have hpos := wtxt_pos p x HX.out most
  have HEQ : Hid ((⟨#[]⟩ : ByteArray) ++ (wW p (mx most + 1) false x (mx most)).1 = wtxt p x most) := by
    unfold Hid wtxt
    apply ByteArray.ext
    simp
  rw [HEQ.out] at hit
  have HIT := Lib.hid hit
  clear hW0 hB0 hw0 hit
  generalize (wW p (mx most + 1) false x (mx most)).2 = lf at *
  refine HIT.out.mono ?_
  rintro e w1 ⟨rfl, hw1, hb1⟩
  have HW1 := Lib.hid hw1
  have HB1 : Hid (Below w.heap.size w w1) := HB0.out.trans hb1
  clear hw1 hb1
  go_wp2_with fail
  refine (wString _ _ _ _ _ _ HW1.out hpos).mono ?_
  rintro e w2 ⟨rfl, hb2⟩
  have HB2 : Hid (Below w.heap.size w w2) := HB1.out.trans hb2
  clear hb2
  go_wp2_with fail
  go_ret
  exact ⟨rfl, HB2.out⟩
theorem mem_src (w : World) (B : Nat) (c : Cfg) (A : Option Addr) (xs : List Int) (cp : Nat) (ok : c.ok = true) (hn : (xs.length : Int) = c.words) (hB : B ≤ w.heap.size) (hxs : Words w B A xs) :
    SrcIs w.heap.size w (.iface 95 (.agg #[.int .i64 c.cells, .int .i64 c.muts, .int .i64 c.regs, .int .i64 c.globs, .slice A xs.length cp])) (prsOf c xs) :=
  ⟨_, _, 195, _, rfl, fun _ => by kernel_rfl, enters_of Tryd.func195 (by kernel_rfl) rfl, fun W x hW hx => mpair_any W c A xs cp B x hx ok hn (Nat.le_trans hB hW.size) (hxs.below (hW.mono hB))⟩
set_option maxHeartbeats 4000000 in
set_option maxRecDepth 100000 in
theorem write_ok (w : World) (B : Nat) (c : Cfg) (A : Option Addr) (xs : List Int) (cp : Nat) (x most : Int) (ok : c.ok = true) (hn : (xs.length : Int) = c.words) (hB : B ≤ w.heap.size) (hxs : Words w B A xs) (hx : wok x) (hw : ∀ y ∈ xs, wok y) (ht : Tens w) :
    Calls Tryd.prog 14 #[c.v, .slice A xs.length cp, .int .u64 x, .int .i64 most] w fun e w' => e = .returned (.string (wtxt (prsOf c xs) x most)) ∧ Below w.heap.size w w' := by
  have HX := Lib.hid hx
  have HT := Lib.hid ht
  have HXS := Lib.hid hxs
  have HWX := Lib.hid hw
  have HOK := Lib.hid ok
  have HN := Lib.hid hn
  have he : Hid (c.err = 0) := by unfold Cfg.err Hid; rw [if_pos ok]
  have hm : Hid (c.map = c) := by unfold Cfg.map Hid; rw [if_pos ok]
  have tn : ((xs.length : Int) != c.words) = false := by rw [hn]; simp
  clear hx ht hxs hw ok hn
  go_enter Tryd.func14, Tryd.ntmps14
  go_wp2_with fail
  refine (pnew_any _ c).mono ?_
  rintro e w1 ⟨rfl, hb1⟩
  rw [he.out, hm.out]
  have HB1 : Hid (Below w.heap.size w w1) := ((Below.refl _ w).alloc (Nat.le_refl _) _).trans (hb1.mono (by simp))
  have hz1 := HB1.out.size
  clear hb1
  go_wp2_with fail
  refine (size_any _ c).mono ?_
  rintro e w2 ⟨rfl, hb2⟩
  have HB2 : Hid (Below w.heap.size w w2) := (HB1.out.alloc hz1 _).trans (hb2.mono (by simp; omega))
  have hz2 := HB2.out.size
  have hbl : w2.heap[w1.heap.size]? = some c.mobj := (hb2.block _ (by simp)).trans (heap_alloc_new w1 c.mobj)
  obtain ⟨q0, q1, q2, q3⟩ := Cfg.mcells_at hbl
  clear hb2 hbl
  go_wp2_with fail
  refine (written_any w2 _ (prsOf c xs) x most (prsOf_fits c xs HOK.out HWX.out) HX.out (mem_src w2 w.heap.size c A xs cp HOK.out HN.out hz2 ((HXS.out.below (HB2.out.mono hB)).more hB)) (HT.out.below (Nat.le_refl _) HB2.out)).mono ?_
  rintro e w3 ⟨rfl, hb3⟩
  have HB3 : Hid (Below w.heap.size w w3) := HB2.out.trans (hb3.mono hz2)
  clear hb3
  go_wp2_with fail
  go_ret
  exact ⟨rfl, HB3.out⟩
set_option maxHeartbeats 4000000 in
set_option maxRecDepth 100000 in
theorem write_no (w : World) (c : Cfg) (A : Option Addr) (n : Nat) (cp : Nat) (x most : Int) (hno : ¬ (c.ok = true ∧ (n : Int) = c.words)) :
    Calls Tryd.prog 14 #[c.v, .slice A n cp, .int .u64 x, .int .i64 most] w fun e w' => e = .returned (.string ⟨#[]⟩) ∧ Below w.heap.size w w' := by
  by_cases ok : c.ok = true
  · have he : Hid (c.err = 0) := by unfold Cfg.err Hid; rw [if_pos ok]
    have hm : Hid (c.map = c) := by unfold Cfg.map Hid; rw [if_pos ok]
    have tn : ((n : Int) != c.words) = true := by
      have h : ¬ (n : Int) = c.words := fun h => hno ⟨ok, h⟩
      simpa using h
    clear hno ok
    go_enter Tryd.func14, Tryd.ntmps14
    go_wp2_with fail
    refine (pnew_any _ c).mono ?_
    rintro e w1 ⟨rfl, hb1⟩
    rw [he.out, hm.out]
    have HB1 : Hid (Below w.heap.size w w1) := ((Below.refl _ w).alloc (Nat.le_refl _) _).trans (hb1.mono (by simp))
    have hz1 := HB1.out.size
    clear hb1
    go_wp2_with fail
    refine (size_any _ c).mono ?_
    rintro e w2 ⟨rfl, hb2⟩
    have HB2 : Hid (Below w.heap.size w w2) := (HB1.out.alloc hz1 _).trans (hb2.mono (by simp; omega))
    clear hb2
    go_wp2_with fail
    go_ret
    exact ⟨rfl, HB2.out⟩
  · have he : Hid (c.err = 2) := by unfold Cfg.err Hid; rw [if_neg ok]
    clear hno ok
    go_enter Tryd.func14, Tryd.ntmps14
    go_wp2_with fail
    refine (pnew_any _ c).mono ?_
    rintro e w1 ⟨rfl, hb1⟩
    rw [he.out]
    have HB1 : Hid (Below w.heap.size w w1) := ((Below.refl _ w).alloc (Nat.le_refl _) _).trans (hb1.mono (by simp))
    have hz1 := HB1.out.size
    clear hb1
    go_wp2_with fail
    go_ret
    exact ⟨rfl, HB1.out.alloc hz1 _⟩
end Go.Proofs.YtipoklnoknkfhaaDoor

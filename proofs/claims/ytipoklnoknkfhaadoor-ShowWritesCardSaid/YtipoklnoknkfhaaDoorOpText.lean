/- The text of an operation: op.Text at any operation. -/
import Derived.Test.YtipoklnoknkfhaaDoorOp
import Derived.Test.YtipoklnoknkfhaaDoorJoin
import Derived.Test.YtipoklnoknkfhaaDoorFormat
import Derived.Test.YtipoklnoknkfhaaDoorWords
import Derived.Lib.ItoaLen
namespace Go.Proofs.YtipoklnoknkfhaaDoor
open Go Go.RowKit
set_option linter.unusedSimpArgs false
set_option linter.unusedVariables false

theorem itoa_any (w : World) (n : Int) (h : -9223372036854775808 ≤ n ∧ n ≤ 9223372036854775807) (ht : Tens w) :
    Calls Tryd.prog 98 #[.int .i64 n] w fun e w' => e = .returned (.string ⟨(Lib.itoa n).toArray⟩) ∧ Below w.heap.size w w' := by
  refine (Tryd.strconv_Itoa n h.1 h.2 w ht).mono ?_
  rintro e w' ⟨he, k, os, rfl⟩
  exact ⟨he, Lib.below_grow _ w (Nat.le_refl _) k os⟩
def Opr.fits (x : Opr) : Prop := (-9223372036854775808 ≤ x.kind ∧ x.kind ≤ 9223372036854775807) ∧ (-9223372036854775808 ≤ x.a ∧ x.a ≤ 9223372036854775807) ∧ (-9223372036854775808 ≤ x.b ∧ x.b ≤ 9223372036854775807) ∧ (-9223372036854775808 ≤ x.c ∧ x.c ≤ 9223372036854775807)
theorem Opr.num_bd {x : Opr} (h : x.fits) (i : Nat) : -9223372036854775808 ≤ x.num i ∧ x.num i ≤ 9223372036854775807 := by
  obtain ⟨_, ha, hb, hc⟩ := h
  unfold Opr.num
  split
  · exact ha
  · split
    · exact hb
    · exact hc
def otx (n : Int) : ByteArray := ⟨(Lib.itoa n).toArray⟩
theorem otx_size (n : Int) (h : -9223372036854775808 ≤ n ∧ n ≤ 9223372036854775807) : (otx n).size ≤ 21 := by
  have := Lib.itoa_length_le n h.1 h.2
  show (Lib.itoa n).toArray.size ≤ 21
  rw [List.size_toArray]
  exact this
/-- the word, and the texts of the first k numbers -/
def otexts (nm : ByteArray) (x : Opr) (k : Nat) : List ByteArray := nm :: (List.range k).map fun i => otx (x.num i)
theorem otexts_len (nm : ByteArray) (x : Opr) (k : Nat) : (otexts nm x k).length = k + 1 := by simp [otexts]
theorem otexts_next (nm : ByteArray) (x : Opr) (k : Nat) : otexts nm x (k + 1) = otexts nm x k ++ [otx (x.num k)] := by simp [otexts, List.range_succ]
theorem jlen_range {x : Opr} (h : x.fits) : ∀ k : Nat, jlen ((List.range k).map fun i => otx (x.num i)) ≤ 21 * k
  | 0 => by simp [jlen]
  | k + 1 => by
    have ih := jlen_range h k
    have h1 := otx_size _ (Opr.num_bd h k)
    unfold jlen at *
    rw [List.range_succ]
    simp at *
    omega
theorem otexts_jlen {nm : ByteArray} {x : Opr} (h : x.fits) (k : Nat) : jlen (otexts nm x k) ≤ nm.size + 21 * k := by
  have := jlen_range h k
  unfold jlen at *
  simp [otexts] at *
  omega
def sp : ByteArray := ⟨#[32]⟩
def otextOf (nm ps : ByteArray) (x : Opr) : ByteArray := if ∀ i, i < ps.size → 0 ≤ x.num i then ⟨(jbytes sp (otexts nm x ps.size)).toArray⟩ else ⟨#[]⟩
def otext (x : Opr) : ByteArray := if 1 ≤ x.kind ∧ x.kind ≤ 11 then otextOf (fname x.kind) (fpart x.kind) x else ⟨#[]⟩
theorem fname_size (k : Int) : (fname k).size ≤ 10 := by
  unfold fname
  show (fnames.getD k.toNat []).toArray.size ≤ 10
  rw [List.size_toArray]
  by_cases h : k.toNat < 12
  · have : ∀ j, j < 12 → (fnames.getD j []).length ≤ 10 := by decide
    exact this _ h
  · rw [List.getD_eq_getElem?_getD, List.getElem?_eq_none (by simp [fnames]; simp at h; omega)]
    simp
theorem strs_of_own {w : World} {B : Nat} {E : TypeId} {v : Value} {ss : List ByteArray} (h : w.ownsRow B E 1 v ss.length (ss.map Value.string)) : ∃ A c, v = .slice A ss.length c ∧ ss.length ≤ c ∧ Strs w w.heap.size A ss := by
  rcases h.2 with ⟨rfl, e⟩ | ⟨g, cap, cur, rfl, _, hg, hc, _⟩
  · exact ⟨none, 0, by rw [e], by omega, ⟨fun hp => by omega⟩⟩
  · refine ⟨_, cap, rfl, hc, ⟨fun hp => ⟨_, rfl, block_lt hg, fun j s hj => ?_⟩⟩⟩
    have hjl := (List.getElem?_eq_some_iff.1 hj).1
    have e : (⟨g, 0, none⟩ : Addr).add j = ⟨g, j, none⟩ := by unfold Addr.add; split <;> simp_all
    rw [e, h.cellAt j (by omega), List.getElem?_map, hj]
    rfl
theorem reads_one (W : World) (E : TypeId) (a : Value) : Reads (W.alloc (.cells #[a] E)) (W.heap.size + 1) 1 (some ⟨W.heap.size, 0, none⟩) 1 [a] := by
  refine ⟨rfl, fun _ => ⟨_, rfl, by simp, fun j u hu => ?_⟩⟩
  have hj : j < 1 := by
    have := (List.getElem?_eq_some_iff.1 hu).1
    simpa using this
  obtain rfl : j = 0 := by omega
  have e : (⟨W.heap.size, 0, none⟩ : Addr).add 0 = ⟨W.heap.size, 0, none⟩ := by unfold Addr.add; simp
  rw [e, cell_of_block (heap_alloc_new W _)]
  simpa using hu
theorem ownsRow_iter {w : World} {B k pos : Nat} {ps : ByteArray} {E : TypeId} {n : Nat} {v : Value} {xs : List Value} (h : w.ownsRow B E 1 v n xs) (hn : v.ownBlock ≠ some k) : (w.iterAt k ps pos).ownsRow B E 1 v n xs := by
  refine ⟨h.1, ?_⟩
  rcases h.2 with h0 | ⟨g, cap, cur, rfl, hb, hg, r⟩
  · exact .inl h0
  · exact .inr ⟨g, cap, cur, rfl, hb, (Lib.iterAt_other w k g ps pos (fun e => hn (by rw [← e]; rfl))).trans hg, r⟩
theorem ownsRow_belowT {w w' : World} {B : Nat} {E : TypeId} {n : Nat} {v : Value} {xs : List Value} (h : w.ownsRow B E 1 v n xs) (hb : Below w.heap.size w w') : w'.ownsRow B E 1 v n xs := by
  refine ⟨h.1, ?_⟩
  rcases h.2 with h0 | ⟨g, cap, cur, rfl, hB, hg, r⟩
  · exact .inl h0
  · exact .inr ⟨g, cap, cur, rfl, hB, (hb.block g (block_lt hg)).trans hg, r⟩
theorem info_str8 : (Tryd.prog.info? 9).map (fun i => (i.zero, i.size, i.bytes)) = some (some (.string ⟨#[]⟩), 1, 16) := by kernel_rfl
theorem info_str8' : ∃ i, Tryd.prog.info? 9 = some i ∧ i.zero = some (.string ⟨#[]⟩) ∧ i.size = 1 ∧ i.bytes = 16 := by
  have := info_str8
  cases hh : Tryd.prog.info? 9 with
  | none => rw [hh] at this; cases this
  | some i =>
    rw [hh] at this
    simp at this
    exact ⟨i, rfl, this⟩
set_option maxRecDepth 100000 in
theorem otext_out (w : World) (x : Opr) (h : ¬ (1 ≤ x.kind ∧ x.kind ≤ 11)) :
    Calls Tryd.prog 61 #[x.v] w fun e w' => e = .returned (.string (otext x)) ∧ Below w.heap.size w w' := by
  have HT : Hid (otext x = ⟨#[]⟩) := by unfold Hid otext; rw [if_neg h]
  obtain ⟨x0, x1, x2, x3⟩ := opr_cells (heap_alloc_new w x.obj)
  have HB0 : Hid (Below w.heap.size w (w.alloc x.obj)) := (Below.refl _ _).alloc (Nat.le_refl _) _
  rw [HT.out]
  have HK := Lib.hid h
  clear h
  go_enter Tryd.func61, Tryd.ntmps61
  go_wp2_with fail
  refine (of_out _ x.kind HK.out).mono ?_
  rintro e w2 ⟨rfl, hb⟩
  have HB2 : Hid (Below w.heap.size w w2) := HB0.out.trans (hb.mono HB0.out.size)
  clear x0 x1 x2 x3 hb
  go_wp2_with fail
  go_ret
  refine ⟨rfl, ?_⟩
  repeat (first | exact HB2.out | exact HB2.out.alloc HB2.out.size _ | refine Below.drew ?_)
set_option maxHeartbeats 8000000 in
set_option maxRecDepth 100000 in
theorem otext_in (w : World) (x : Opr) (hf : x.fits) (ht : Tens w) (h : 1 ≤ x.kind ∧ x.kind ≤ 11) :
    Calls Tryd.prog 61 #[x.v] w fun e w' => e = .returned (.string (otext x)) ∧ Below w.heap.size w w' := by
  have HT : Hid (otext x = otextOf (fname x.kind) (fpart x.kind) x) := by unfold Hid otext; rw [if_pos h]
  have hl3 : (fpart x.kind).size ≤ 3 := part_len x.kind
  have hnm := fname_size x.kind
  have HPB : Hid (∀ (i : Nat) (h : i < (fpart x.kind).size), (fpart x.kind)[i]'h = 114 ∨ (fpart x.kind)[i]'h = 103 ∨ (fpart x.kind)[i]'h = 107) := fun i h => part_bytes x.kind _ (by simp [fpart, ByteArray.getElem_eq_getElem_data])
  obtain ⟨x0, x1, x2, x3⟩ := opr_cells (heap_alloc_new w x.obj)
  have HX0 := Lib.hid (heap_alloc_new w x.obj)
  have HB0 : Hid (Below w.heap.size w (w.alloc x.obj)) := (Below.refl _ _).alloc (Nat.le_refl _) _
  have HK := Lib.hid h
  have HF := Lib.hid hf
  have HTN := Lib.hid ht
  obtain ⟨i0, hi0, hz0, hz1, hz2⟩ := info_str8'
  clear h hf ht
  go_enter Tryd.func61, Tryd.ntmps61
  go_wp2_with fail
  refine (of_any _ x.kind HK.out.1 HK.out.2).mono ?_
  rintro e w2 ⟨rfl, hb⟩
  have HB2 : Hid (Below w.heap.size w w2) := HB0.out.trans (hb.mono HB0.out.size)
  have HX2 : Hid (w2.heap[w.heap.size]? = some x.obj) := (hb.block _ (by simp)).trans HX0.out
  have HNM := Lib.hid hnm
  generalize fpart x.kind = ps at *
  generalize fname x.kind = nm at *
  have hs2 : w.heap.size + 1 ≤ w2.heap.size := by have := block_lt HX2.out; omega
  clear x0 x1 x2 x3 hb
  go_wp2_with fail
  have HIS := w2.heap.size
  go_loopw [5, 6] (fun v _ wr => ∃ pos : Nat, pos ≤ ps.size ∧ wr.heap[w2.heap.size + 2]? = some (.stringIter ps pos) ∧ Hid (wr.ownsRow (w2.heap.size + 1) 9 1 v (otexts nm x pos).length ((otexts nm x pos).map Value.string)) ∧ Hid (v.ownBlock ≠ some (w2.heap.size + 2)) ∧ Hid (Below w.heap.size w wr) ∧ Hid (wr.heap[w.heap.size]? = some x.obj) ∧ Hid (∀ i, i < pos → 0 ≤ x.num i)) (fun _ _ wr => ps.size - wr.iterPos (w2.heap.size + 2))
  case atStart =>
    refine ⟨0, Nat.zero_le _, ?_, ?_, ?_, ?_, ?_, fun i hi => by omega⟩
    · have := World.iter_heap ((w2.alloc (.cells #[.string nm, .string ps] 169)).alloc (.cells #[.string nm] 9)) ps 0
      simpa using this
    · have h1 : ((w2.alloc (.cells #[.string nm, .string ps] 169)).alloc (.cells #[.string nm] 9)).ownsRow (w2.heap.size + 1) 9 1 (.slice (some ⟨w2.heap.size + 1, 0, none⟩) 1 1) (otexts nm x 0).length ((otexts nm x 0).map Value.string) := by
        refine ⟨by simp [otexts], .inr ⟨w2.heap.size + 1, 1, #[.string nm], rfl, Nat.le_refl _, heap_new2 w2 _ _, by rw [otexts_len]; omega, by unfold maxLen; omega, by simp, by simp [otexts]⟩⟩
      exact h1.alloc _
    · simp [Value.ownBlock, Hid]
    · exact ((HB2.out.alloc HB2.out.size _).alloc (by simp; have := HB2.out.size; omega) _).alloc (by simp; have := HB2.out.size; omega) _
    · exact (Below.heap_alloc _ _ _ (by simp; omega)).trans ((Below.heap_alloc _ _ _ (by simp; omega)).trans ((Below.heap_alloc _ _ _ (by omega)).trans HX2.out))
  case round =>
    obtain ⟨pos, hpos, hit, HO, HNB, HB, HX, HNN⟩ := hrel
    have hsz : w2.heap.size + 2 < wr.heap.size := block_lt hit
    by_cases hp : pos < ps.size
    · have hq128 : (ps[pos]'hp).toNat < 128 := by
        rcases HPB.out pos hp with e | e | e <;> rw [e] <;> decide
      have hnx : ∀ ty, (Instr.next (.pointer (some ⟨w2.heap.size + 2, 0, none⟩)) true ty).run Tryd.prog wr = .ok (.tuple #[.bool true, .int .i64 pos, .int .i32 (ps[pos]'hp).toNat]) (wr.iterAt (w2.heap.size + 2) ps (pos + 1)) := fun ty => Lib.run_next_ascii_at wr (w2.heap.size + 2) ps pos ty hit hp hq128
      have HIT2 := Lib.hid (Lib.iterAt_heap wr (w2.heap.size + 2) ps pos (pos + 1) hit)
      have HBr := Lib.hid (Lib.below_iterAt HB.out (k := w2.heap.size + 2) (by omega) ps (pos + 1))
      have HXr := Lib.hid ((Lib.iterAt_other wr (w2.heap.size + 2) w.heap.size ps (pos + 1) (by omega)).trans HX.out)
      have hszr := Lib.iterAt_size wr (w2.heap.size + 2) ps (pos + 1)
      have HOr := Lib.hid (ownsRow_iter HO.out HNB.out (ps := ps) (pos := pos + 1))
      generalize (ps[pos]'hp).toNat = q at hnx
      obtain ⟨W, hW⟩ : ∃ W, W = wr.iterAt (w2.heap.size + 2) ps (pos + 1) := ⟨_, rfl⟩
      rw [← hW] at hnx HIT2 HBr HXr hszr HOr
      obtain ⟨x0, x1, x2, x3⟩ := opr_cells HXr.out
      have HP := Lib.hid hp
      have HIT := Lib.hid hit
      clear hit HB HX HO hq128 hW
      have hl3' : pos < 3 := by omega
      obtain ⟨n, hn⟩ : ∃ n, n = x.num pos := ⟨_, rfl⟩
      have HN := Lib.hid hn
      by_cases hneg : n < 0
      · have d0 : decide (n < 0) = true := by simpa using hneg
        have HTE : Hid (otext x = ⟨#[]⟩) := by
          unfold Hid
          rw [HT.out, otextOf, if_neg]
          intro hall
          have := hall pos hp
          omega
        clear hneg hn
        go_wp2_with fail
        refine (number_any _ x pos hl3').mono ?_
        rintro e w3 ⟨rfl, hb⟩
        rw [← HN.out]
        have HB3 : Hid (Below w.heap.size w w3) := HBr.out.trans (hb.mono HBr.out.size)
        clear x0 x1 x2 x3 hb
        go_wp2_with fail
        go_ret
        exact ⟨by rw [HTE.out]; rfl, HB3.out⟩
      have d0 : decide (n < 0) = false := by simpa using hneg
      have HNG := Lib.hid hneg
      clear hneg hn
      go_wp2_with fail
      refine (number_any _ x pos hl3').mono ?_
      rintro e w3 ⟨rfl, hb⟩
      rw [← HN.out]
      have HB3 : Hid (Below w.heap.size w w3) := HBr.out.trans (hb.mono HBr.out.size)
      have HX3 : Hid (w3.heap[w.heap.size]? = some x.obj) := (hb.block _ (by omega)).trans HXr.out
      have HI3 : Hid (w3.heap[w2.heap.size + 2]? = some (.stringIter ps (pos + 1))) := (hb.block _ (by omega)).trans HIT2.out
      have HO3 := Lib.hid (ownsRow_belowT HOr.out hb)
      clear x0 x1 x2 x3 hb
      obtain ⟨x0, x1, x2, x3⟩ := opr_cells HX3.out
      have hz3 := block_lt HI3.out
      go_wp2_with fail
      refine (number_any _ x pos hl3').mono ?_
      rintro e w4 ⟨rfl, hb⟩
      rw [← HN.out]
      have HB4 : Hid (Below w.heap.size w w4) := HB3.out.trans (hb.mono HB3.out.size)
      have HX4 : Hid (w4.heap[w.heap.size]? = some x.obj) := (hb.block _ (by omega)).trans HX3.out
      have HI4 : Hid (w4.heap[w2.heap.size + 2]? = some (.stringIter ps (pos + 1))) := (hb.block _ (by omega)).trans HI3.out
      have HO4 := Lib.hid (ownsRow_belowT HO3.out hb)
      clear x0 x1 x2 x3 hb hz3
      have hz4 := block_lt HI4.out
      have HNBD : Hid (-9223372036854775808 ≤ n ∧ n ≤ 9223372036854775807) := by unfold Hid; rw [HN.out]; exact Opr.num_bd HF.out pos
      go_wp2_with fail
      refine (itoa_any _ n HNBD.out (HTN.out.below (Nat.le_refl _) HB4.out)).mono ?_
      rintro e w5 ⟨rfl, hb⟩
      have HB5 : Hid (Below w.heap.size w w5) := HB4.out.trans (hb.mono HB4.out.size)
      have HX5 : Hid (w5.heap[w.heap.size]? = some x.obj) := (hb.block _ (by omega)).trans HX4.out
      have HI5 : Hid (w5.heap[w2.heap.size + 2]? = some (.stringIter ps (pos + 1))) := (hb.block _ (by omega)).trans HI4.out
      have HO5 := Lib.hid (ownsRow_belowT HO4.out hb)
      clear hb hz4
      have hz5 := block_lt HI5.out
      rw [show (⟨(Lib.itoa n).toArray⟩ : ByteArray) = otx n from rfl]
      obtain ⟨tn, htn⟩ : ∃ tn, tn = otx n := ⟨_, rfl⟩
      rw [← htn]
      have HTX : Hid (otexts nm x (pos + 1) = otexts nm x pos ++ [tn]) := by unfold Hid; rw [otexts_next, htn, HN.out]
      have HLN : Hid ((otexts nm x pos).length ≤ 5) := by unfold Hid; rw [otexts_len]; omega
      have hlt5 := HLN.out
      generalize otexts nm x pos = ts at *
      have HOA : Hid ((w5.alloc (.cells #[.string tn] 9)).ownsRow (w2.heap.size + 1) 9 1 u5 ts.length (ts.map Value.string)) := HO5.out.alloc _
      clear htn
      go_wp2_with (first
        | (at_builtin
           refine wpList_append_any _ rfl (.tmp 28) (.tmp 33) _ rfl (w2.heap.size + 1) 9 i0 _ 1 16 Tryd.underlying35 hi0 hz0 hz1 hz2 rfl (by omega) u5 ts.length (ts.map Value.string) rfl
             HOA.out _ _ 1 1 [.string tn] rfl (reads_one _ _ _) (by intro u hu; simp at hu; subst hu; rfl) (by unfold maxLen; omega) (by omega) (by simp; omega) ?_
           intro v1 w1' hown1 hg1 hat1
           have HB6 : Hid (Below w.heap.size w w1') := (HB5.out.alloc HB5.out.size _).grown hg1 (by have := HB5.out.size; simp; omega) (fun k hk => by have h3 : w2.heap.size + 1 ≤ k := (HOA.out.lt k hk).1; omega)
           have HK1 : Keep (fun y => u5.ownBlock = some y) _ w1' := Keep.of_grown hg1 (fun _ h => h)
           have HI6 : w1'.heap[w2.heap.size + 2]? = some (.stringIter ps (pos + 1)) := HK1.at_ ((Below.heap_alloc _ _ _ (by omega)).trans HI5.out) HNB.out
           have HX6 : Hid (w1'.heap[w.heap.size]? = some x.obj) := HK1.at_ ((Below.heap_alloc _ _ _ (by omega)).trans HX5.out) (fun e => by have h3 : w2.heap.size + 1 ≤ w.heap.size := (HOA.out.lt w.heap.size e).1; omega)
           have HNB6 : Hid (v1.ownBlock ≠ some (w2.heap.size + 2)) := by
             rcases hat1 with e | e
             · unfold Hid; rw [e]; exact HNB.out
             · unfold Hid; rw [e]; intro e2; simp at e2; omega
           have HO6 : Hid (w1'.ownsRow (w2.heap.size + 1) 9 1 v1 (otexts nm x (pos + 1)).length ((otexts nm x (pos + 1)).map Value.string)) := by
             unfold Hid
             rw [HTX.out, List.length_append, List.map_append]
             exact hown1
           clear hown1 hg1 hat1 HK1))
      go_roundw
      case rel => exact ⟨pos + 1, by have := HP.out; omega, HI6, HO6, HNB6, HB6, HX6, fun i hi => by
        rcases Nat.lt_or_ge i pos with h | h
        · exact HNN.out i h
        · have : i = pos := by omega
          have h2 := HNG.out
          rw [this, ← HN.out]
          omega⟩
      case measure =>
        have h1 := HI6
        have h2 := HIT.out
        simp only [World.iterPos, h1, h2]
        omega
    · have hpe : pos = ps.size := by omega
      have HTE : Hid (otext x = ⟨(jbytes sp (otexts nm x pos)).toArray⟩) := by
        unfold Hid
        rw [HT.out, otextOf, if_pos (fun i hi => HNN.out i (by omega)), hpe]
      have hnx : ∀ ty, (Instr.next (.pointer (some ⟨w2.heap.size + 2, 0, none⟩)) true ty).run Tryd.prog wr = _ := fun ty => Lib.run_next_end_at wr (w2.heap.size + 2) ps pos ty hit hp
      have HBr := HB
      obtain ⟨A, cp, hv, hcap, hst⟩ := strs_of_own HO.out
      subst hv
      have HCAP := Lib.hid hcap
      have HST := Lib.hid hst
      have HJL := Lib.hid (otexts_jlen (nm := nm) HF.out pos)
      have HOL : Hid ((otexts nm x pos).length ≤ 5) := by unfold Hid; rw [otexts_len]; omega
      generalize otexts nm x pos = ts at *
      clear hit HB HX HO hcap hst
      go_wp2_with fail
      refine (join_any _ A cp ts sp HST.out HCAP.out (by have := HOL.out; omega) (by have := HJL.out; have := HNM.out; omega) (by decide)).mono ?_
      rintro e w6 ⟨rfl, hb⟩
      have HB6 : Hid (Below w.heap.size w w6) := HBr.out.trans (hb.mono HBr.out.size)
      clear hb
      go_wp2_with fail
      go_ret
      exact ⟨by rw [HTE.out]; rfl, HB6.out⟩
theorem otext_any (w : World) (x : Opr) (hf : x.fits) (ht : Tens w) : Calls Tryd.prog 61 #[x.v] w fun e w' => e = .returned (.string (otext x)) ∧ Below w.heap.size w w' := by
  by_cases h : 1 ≤ x.kind ∧ x.kind ≤ 11
  · exact otext_in w x hf ht h
  · exact otext_out w x h
end Go.Proofs.YtipoklnoknkfhaaDoor

/- The text of an operation: op.Text at any operation. -/
import Derived.Test.YtcheafeaioflmaaDoorOp
import Derived.Test.YtcheafeaioflmaaDoorJoin
import Derived.Test.YtcheafeaioflmaaDoorFormat
import Derived.Test.YtcheafeaioflmaaDoorWords
import Derived.Lib.ItoaLen
namespace Go.Proofs.YtcheafeaioflmaaDoor
open Go Go.RowKit
set_option linter.unusedSimpArgs false
set_option linter.unusedVariables false

theorem itoa_any (w : World) (n : Int) (h : -9223372036854775808 ≤ n ∧ n ≤ 9223372036854775807) (ht : Tens w) :
    Calls Tryd.prog 82 #[.int .i64 n] w fun e w' => e = .returned (.string ⟨(Lib.itoa n).toArray⟩) ∧ Below w.heap.size w w' := by
  refine (Tryd.strconv_Itoa n h.1 h.2 w ht).mono ?_
  rintro e w' ⟨he, k, os, rfl⟩
  exact ⟨he, Lib.below_grow _ w (Nat.le_refl _) k os⟩
def Opr.fits (x : Opr) : Prop := (-9223372036854775808 ≤ x.kind ∧ x.kind ≤ 9223372036854775807) ∧ (-9223372036854775808 ≤ x.a ∧ x.a ≤ 9223372036854775807) ∧ (-9223372036854775808 ≤ x.b ∧ x.b ≤ 9223372036854775807) ∧ (-9223372036854775808 ≤ x.c ∧ x.c ≤ 9223372036854775807)
theorem Opr.num_bd {x : Opr} (h : x.fits) (i : Nat) : -9223372036854775808 ≤ x.num i ∧ x.num i ≤ 9223372036854775807 := by
  obtain ⟨_, ha, hb, hc⟩ := h
  unfold Opr.num
  split
  · exact ha
  · split
    · exact hb
    · exact hc
def otx (n : Int) : ByteArray := ⟨(Lib.itoa n).toArray⟩
theorem otx_size (n : Int) (h : -9223372036854775808 ≤ n ∧ n ≤ 9223372036854775807) : (otx n).size ≤ 21 := by
  have := Lib.itoa_length_le n h.1 h.2
  show (Lib.itoa n).toArray.size ≤ 21
  rw [List.size_toArray]
  exact this
/-- the word, and the texts of the first k numbers -/
def otexts (nm : ByteArray) (x : Opr) (k : Nat) : List ByteArray := nm :: (List.range k).map fun i => otx (x.num i)
theorem otexts_len (nm : ByteArray) (x : Opr) (k : Nat) : (otexts nm x k).length = k + 1 := by simp [otexts]
theorem otexts_next (nm : ByteArray) (x : Opr) (k : Nat) : otexts nm x (k + 1) = otexts nm x k ++ [otx (x.num k)] := by simp [otexts, List.range_succ]
theorem jlen_range {x : Opr} (h : x.fits) : ∀ k : Nat, jlen ((List.range k).map fun i => otx (x.num i)) ≤ 21 * k
  | 0 => by simp [jlen]
  | k + 1 => by
    have ih := jlen_range h k
    have h1 := otx_size _ (Opr.num_bd h k)
    unfold jlen at *
    rw [List.range_succ]
    simp at *
    omega
theorem otexts_jlen {nm : ByteArray} {x : Opr} (h : x.fits) (k : Nat) : jlen (otexts nm x k) ≤ nm.size + 21 * k := by
  have := jlen_range h k
  unfold jlen at *
  simp [otexts] at *
  omega
def sp : ByteArray := ⟨#[32]⟩
def otextOf (nm ps : ByteArray) (x : Opr) : ByteArray := if ∀ i, i < ps.size → 0 ≤ x.num i then ⟨(jbytes sp (otexts nm x ps.size)).toArray⟩ else ⟨#[]⟩
def otext (x : Opr) : ByteArray := if 1 ≤ x.kind ∧ x.kind ≤ 11 then otextOf (fname x.kind) (fpart x.kind) x else ⟨#[]⟩
theorem fname_size (k : Int) : (fname k).size ≤ 10 := by
  unfold fname
  show (fnames.getD k.toNat []).toArray.size ≤ 10
  rw [List.size_toArray]
  by_cases h : k.toNat < 12
  · have : ∀ j, j < 12 → (fnames.getD j []).length ≤ 10 := by decide
    exact this _ h
  · rw [List.getD_eq_getElem?_getD, List.getElem?_eq_none (by simp [fnames]; simp at h; omega)]
    simp
theorem strs_of_own {w : World} {B : Nat} {E : TypeId} {v : Value} {ss : List ByteArray} (h : w.ownsRow B E 1 v ss.length (ss.map Value.string)) : ∃ A c, v = .slice A ss.length c ∧ ss.length ≤ c ∧ Strs w w.heap.size A ss := by
  rcases h.2 with ⟨rfl, e⟩ | ⟨g, cap, cur, rfl, _, hg, hc, _⟩
  · exact ⟨none, 0, by rw [e], by omega, ⟨fun hp => by omega⟩⟩
  · refine ⟨_, cap, rfl, hc, ⟨fun hp => ⟨_, rfl, block_lt hg, fun j s hj => ?_⟩⟩⟩
    have hjl := (List.getElem?_eq_some_iff.1 hj).1
    have e : (⟨g, 0, none⟩ : Addr).add j = ⟨g, j, none⟩ := by unfold Addr.add; split <;> simp_all
    rw [e, h.cellAt j (by omega), List.getElem?_map, hj]
    rfl
theorem reads_one (W : World) (E : TypeId) (a : Value) : Reads (W.alloc (.cells #[a] E)) (W.heap.size + 1) 1 (some ⟨W.heap.size, 0, none⟩) 1 [a] := by
  refine ⟨rfl, fun _ => ⟨_, rfl, by simp, fun j u hu => ?_⟩⟩
  have hj : j < 1 := by
    have := (List.getElem?_eq_some_iff.1 hu).1
    simpa using this
  obtain rfl : j = 0 := by omega
  have e : (⟨W.heap.size, 0, none⟩ : Addr).add 0 = ⟨W.heap.size, 0, none⟩ := by unfold Addr.add; simp
  rw [e, cell_of_block (heap_alloc_new W _)]
  simpa using hu
theorem ownsRow_iter {w : World} {B k pos : Nat} {ps : ByteArray} {E : TypeId} {n : Nat} {v : Value} {xs : List Value} (h : w.ownsRow B E 1 v n xs) (hn : v.ownBlock ≠ some k) : (w.iterAt k ps pos).ownsRow B E 1 v n xs := by
  refine ⟨h.1, ?_⟩
  rcases h.2 with h0 | ⟨g, cap, cur, rfl, hb, hg, r⟩
  · exact .inl h0
  · exact .inr ⟨g, cap, cur, rfl, hb, (Lib.iterAt_other w k g ps pos (fun e => hn (by rw [← e]; rfl))).trans hg, r⟩
theorem ownsRow_belowT {w w' : World} {B : Nat} {E : TypeId} {n : Nat} {v : Value} {xs : List Value} (h : w.ownsRow B E 1 v n xs) (hb : Below w.heap.size w w') : w'.ownsRow B E 1 v n xs := by
  refine ⟨h.1, ?_⟩
  rcases h.2 with h0 | ⟨g, cap, cur, rfl, hB, hg, r⟩
  · exact .inl h0
  · exact .inr ⟨g, cap, cur, rfl, hB, (hb.block g (block_lt hg)).trans hg, r⟩
theorem info_str8 : (Tryd.prog.info? 9).map (fun i => (i.zero, i.size, i.bytes)) = some (some (.string ⟨#[]⟩), 1, 16) := by kernel_rfl
theorem info_str8' : ∃ i, Tryd.prog.info? 9 = some i ∧ i.zero = some (.string ⟨#[]⟩) ∧ i.size = 1 ∧ i.bytes = 16 := by
  have := info_str8
  cases hh : Tryd.prog.info? 9 with
  | none => rw [hh] at this; cases this
  | some i =>
    rw [hh] at this
    simp at this
    exact ⟨i, rfl, this⟩
set_option maxRecDepth 100000 in
theorem otext_out (w : World) (x : Opr) (h : ¬ (1 ≤ x.kind ∧ x.kind ≤ 11)) :
    Calls Tryd.prog 37 #[x.v] w fun e w' => e = .returned (.string (otext x)) ∧ Below w.heap.size w w' := by
  have HT : Hid (otext x = ⟨#[]⟩) := by unfold Hid otext; rw [if_neg h]
  obtain ⟨x0, x1, x2, x3⟩ := opr_cells (heap_alloc_new w x.obj)
  have HB0 : Hid (Below w.heap.size w (w.alloc x.obj)) := (Below.refl _ _).alloc (Nat.le_refl _) _
  rw [HT.out]
  have HK := Lib.hid h
  clear h
  go_enter Tryd.func37, Tryd.ntmps37
  go_wp2_with fail
  refine (of_out _ x.kind HK.out).mono ?_
  rintro e w2 ⟨rfl, hb⟩
  have HB2 : Hid (Below w.heap.size w w2) := HB0.out.trans (hb.mono HB0.out.size)
  clear x0 x1 x2 x3 hb
  go_wp2_with fail
  go_ret
  refine ⟨rfl, ?_⟩
  repeat (first | exact HB2.out | exact HB2.out.alloc HB2.out.size _ | refine Below.drew ?_)
end Go.Proofs.YtcheafeaioflmaaDoor

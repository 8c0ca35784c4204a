/- Reading letters of colours; the walk of the law ColourReads. -/
import Derived.Test.YtnbigldfklehgabDoorColour
import Derived.Test.YtnbigldfklehgabDoorWords
namespace Go.Proofs.YtnbigldfklehgabDoor
open Go Go.RowKit
set_option linter.unusedSimpArgs false
set_option linter.unusedVariables false

/-- a letter's colour; -1: it is none -/
def lcode (b : UInt8) : Int := if b = 119 then 0 else if b = 103 then 1 else if b = 98 then 2 else -1
theorem lcode_ix (b : UInt8) : Lib.indexByte (⟨#[119, 103, 98]⟩ : ByteArray).data.toList ((b.toNat : Int)).toNat.toUInt8 = lcode b := by
  have e : ((b.toNat : Int)).toNat.toUInt8 = b := by simp
  rw [e]
  show Lib.indexByte [119, 103, 98] b = _
  unfold lcode
  by_cases h1 : b = 119
  · subst h1; rfl
  by_cases h2 : b = 103
  · subst h2; rfl
  by_cases h3 : b = 98
  · subst h3; rfl
  rw [if_neg h1, if_neg h2, if_neg h3]
  have e1 : ((119 : UInt8) == b) = false := by simpa using fun h => h1 h.symm
  have e2 : ((103 : UInt8) == b) = false := by simpa using fun h => h2 h.symm
  have e3 : ((98 : UInt8) == b) = false := by simpa using fun h => h3 h.symm
  simp [Lib.indexByte, e1, e2, e3]
/-- byte k of a text -/
def by_ (s : ByteArray) (k : Nat) : UInt8 := s.data.toList.getD k 0
def codes (s : ByteArray) (k : Nat) : List Int := (s.data.toList.take k).map lcode
theorem codes_next (s : ByteArray) (k : Nat) (h : k < s.size) : codes s k ++ [lcode (by_ s k)] = codes s (k + 1) := by
  have h' : k < s.data.toList.length := by simpa using h
  unfold codes by_
  rw [List.take_succ_eq_append_getElem h', List.map_append, List.getD_eq_getElem?_getD, List.getElem?_eq_getElem h']
  rfl
theorem by_at (s : ByteArray) (k : Nat) (h : k < s.size) : s[k] = by_ s k := by
  have h' : k < s.data.toList.length := by simpa using h
  unfold by_
  rw [List.getD_eq_getElem?_getD, List.getElem?_eq_getElem h']
  rfl
theorem codes_len (s : ByteArray) (k : Nat) (h : k ≤ s.size) : (codes s k).length = k := by
  have h' : k ≤ s.data.toList.length := by simpa using h
  unfold codes
  simp only [List.length_map, List.length_take]
  omega
/-- what Parse hands back -/
def Parsed (w : World) (base : Nat) (s : ByteArray) (v : Value) (e : Int) : Prop :=
  (v = .slice none 0 0 ∧ e = 3 ∧ ∃ k : Nat, k < s.size ∧ lcode (by_ s k) = -1) ∨ (e = 0 ∧ Own .u64 33 w base v (codes s s.size) ∧ ∀ k : Nat, k < s.size → 0 ≤ lcode (by_ s k))
theorem info_wordD : (Tryd.prog.info? 33).map (fun i => (i.zero, i.size, i.bytes)) = some (some (.int .u64 0), 1, 8) := by kernel_rfl
set_option maxHeartbeats 4000000 in
set_option maxRecDepth 100000 in
theorem parse_any (w : World) (s : ByteArray) (hl : s.size ≤ 1000) :
    Calls Tryd.prog 7 #[.string s] w fun e w' => ∃ v r, e = .returned (.tuple #[v, .int .i64 r]) ∧ Parsed w' w.heap.size s v r ∧ Below w.heap.size w w' := by
  obtain ⟨i0, hi0, hz0, hz1, hz2⟩ := info_parts info_wordD
  go_enter Tryd.func7, Tryd.ntmps7
  go_wp2_with fail
  go_loopw [4, 9] (fun v i wr => ∃ k : Nat, k ≤ s.size ∧ i = .int .i64 k ∧ Hid (Own .u64 33 wr w.heap.size v (codes s k)) ∧ Hid (Below w.heap.size w wr) ∧ Hid (∀ j : Nat, j < k → 0 ≤ lcode (by_ s j))) (fun _ i _ => s.size - (intOf i).toNat)
  case atStart => exact ⟨0, Nat.zero_le _, rfl, Own.none_ _ _ _ _, Below.refl _ _, fun j hj => absurd hj (by omega)⟩
  case round =>
    obtain ⟨k, hk, rfl, HO, HB, HG⟩ := hrel
    by_cases hlt : k < s.size
    · have i1 : ((k : Nat) : Int) < ((s.size : Nat) : Int) := by omega
      have hlk : (codes s k).length < 17592186044416 := by rw [codes_len s k hk]; omega
      have HLK := Lib.hid hlk
      clear hlk
      have E := Lib.hid (by_at s k hlt)
      have IX := Lib.hid (Tryd.strings_IndexByte ⟨#[119, 103, 98]⟩ ((by_ s k).toNat : Int) wr)
      rw [lcode_ix] at IX
      go_wp2_with fail
      rw [E.out]
      refine IX.out.mono ?_
      rintro e w' ⟨rfl, rfl⟩
      by_cases hc : lcode (by_ s k) = -1
      · have HC := Lib.hid hc
        rw [hc]
        clear hc
        go_wp2_with fail
        go_ret2
        exact ⟨_, _, rfl, .inl ⟨rfl, rfl, k, hlt, HC.out⟩, HB.out⟩
      · have hc0 : 0 ≤ lcode (by_ s k) ∧ lcode (by_ s k) < 3 := by unfold lcode at hc ⊢; split at hc <;> split <;> omega
        obtain ⟨hc1, hc2⟩ := hc0
        have HC := Lib.hid hc1
        have HNX := Lib.hid (codes_next s k hlt)
        clear hc
        generalize hx : lcode (by_ s k) = x at *
        have ho1 : Hid (Own .u64 33 (w'.alloc (.cells #[.int .u64 x] 33)) w.heap.size u4 (codes s k)) := HO.out.keep ((Keep.refl (fun _ => False) _).alloc _) (fun _ _ h => h)
        have HX := Lib.hid hx
        clear hx
        go_wp2_with (first
          | (at_builtin
             refine wpList_append_one _ rfl (.tmp 18) (.tmp 21) _ rfl .u64 33 w.heap.size i0 8 Tryd.underlying22 hi0 hz0 hz1 hz2 (by omega) u4 (codes s k) rfl
               ho1.out w'.heap.size 1 x rfl (by rw [cell_of_block (heap_alloc_new w' _)]; rfl) HLK.out (by have := HB.out.size; simp; omega) ?_
             intro v1 w1 ho2 hb2 _ _
             have HO2 := Lib.hid ho2
             have HB2 : Hid (Below w.heap.size w w1) := (HB.out.alloc HB.out.size _).trans hb2
             clear ho2 hb2))
        go_roundw
        case rel =>
          refine ⟨k + 1, by omega, by go_num, by rw [← HNX.out]; exact HO2.out, HB2.out, fun j hj => ?_⟩
          by_cases hjk : j = k
          · rw [hjk, HX.out]; exact HC.out
          · exact HG.out j (by omega)
        case measure => simp [intOf]; omega
    · obtain rfl : k = s.size := by omega
      go_wp2_with fail
      go_ret2
      exact ⟨_, _, rfl, .inr ⟨rfl, HO.out, HG.out⟩, HB.out⟩
theorem lett_lcode (b : UInt8) (h : 0 ≤ lcode b) : lett (lcode b) = b := by
  unfold lcode at h ⊢
  by_cases h1 : b = 119
  · subst h1; rfl
  by_cases h2 : b = 103
  · subst h2; rfl
  by_cases h3 : b = 98
  · subst h3; rfl
  rw [if_neg h1, if_neg h2, if_neg h3] at h
  omega
theorem letters_codes (s : ByteArray) (h : ∀ k : Nat, k < s.size → 0 ≤ lcode (by_ s k)) : letters (codes s s.size) = s := by
  apply ByteArray.ext
  apply Array.toList_inj.1
  unfold letters codes
  simp only [List.map_map]
  rw [List.take_of_length_le (by simp)]
  apply List.ext_getElem
  · simp
  · intro i h1 h2
    simp only [List.getElem_map, Function.comp]
    have h3 : i < s.size := by simpa using h2
    have h4 := h i h3
    rw [← by_at s i h3] at h4
    exact lett_lcode _ h4
theorem codes_wf (s : ByteArray) (h : ∀ k : Nat, k < s.size → 0 ≤ lcode (by_ s k)) : ∀ x ∈ codes s s.size, 0 ≤ x ∧ x < 18446744073709551616 := by
  intro x hx
  obtain ⟨b, hb, rfl⟩ := List.mem_map.1 hx
  obtain ⟨i, hi, rfl⟩ := List.mem_iff_getElem.1 hb
  have hl : i < s.size := by simp at hi; omega
  have h4 := h i hl
  rw [← by_at s i hl] at h4
  rw [List.getElem_take]
  have h5 : 0 ≤ lcode s.data.toList[i] := h4
  refine ⟨h5, ?_⟩
  unfold lcode
  split
  · decide
  split
  · decide
  split
  · decide
  · decide
end Go.Proofs.YtnbigldfklehgabDoor

/- config.Text: the text of any configuration. -/
import Derived.Test.YtcheafeaioflmaaDoorCfgText
import Derived.Test.YtcheafeaioflmaaDoorPlace
import Derived.Test.YtcheafeaioflmaaDoorAppStr
namespace Go.Proofs.YtcheafeaioflmaaDoor
open Go Go.RowKit
set_option linter.unusedSimpArgs false
set_option linter.unusedVariables false

def cword (k : Nat) : ByteArray := ⟨(cfgWords.getD k []).toArray⟩
/-- the words and numbers ahead of place k -/
def ctexts (xs : List Int) (k : Nat) : List ByteArray := (List.range k).flatMap fun j => [cword j, otx (wd xs j)]
theorem ctexts_next (xs : List Int) (k : Nat) : ctexts xs (k + 1) = ctexts xs k ++ [cword k, otx (wd xs k)] := by simp [ctexts, List.range_succ]
theorem ctexts_len (xs : List Int) : ∀ k : Nat, (ctexts xs k).length = 2 * k
  | 0 => rfl
  | k + 1 => by rw [ctexts_next, List.length_append, ctexts_len xs k]; simp; omega
theorem ctexts_jlen (xs : List Int) (h : ∀ j : Nat, -9223372036854775808 ≤ wd xs j ∧ wd xs j ≤ 9223372036854775807) : ∀ k : Nat, jlen (ctexts xs k) ≤ 31 * k
  | 0 => by simp [jlen, ctexts]
  | k + 1 => by
    have ih := ctexts_jlen xs h k
    have h1 := otx_size _ (h k)
    have h2 : (cword k).size ≤ 10 := by
      have hd : ∀ x ∈ cfgWords, x.length ≤ 10 := by decide
      unfold cword
      show (cfgWords.getD k []).toArray.size ≤ 10
      rw [List.size_toArray, List.getD_eq_getElem?_getD]
      cases e : cfgWords[k]? with
      | none => simp
      | some x => exact hd x (List.mem_of_getElem? e)
    rw [ctexts_next]
    unfold jlen at *
    simp
    omega
abbrev wordsRow : Obj := .cells #[.string ⟨#[99, 101, 108, 108, 115]⟩, .string ⟨#[109, 117, 116, 115]⟩, .string ⟨#[114, 101, 103, 115]⟩, .string ⟨#[103, 108, 111, 98, 115]⟩] 9
theorem wordsRow_cell {W : World} {b : Nat} (h : W.heap[b]? = some wordsRow) (k : Nat) (hk : k < 4) : W.cell? ⟨b, k, none⟩ = some (.string (cword k)) := by
  rw [cell_of_block h k]
  obtain rfl | rfl | rfl | rfl : k = 0 ∨ k = 1 ∨ k = 2 ∨ k = 3 := by omega
  all_goals rfl
set_option maxHeartbeats 8000000 in
set_option maxRecDepth 100000 in
theorem ctext_any (w : World) (b : Nat) (xs : List Int) (hl : xs.length = 4) (h : ∀ k : Nat, k < 4 → w.cell? ⟨b, k, none⟩ = some (.int .i64 (wd xs k))) (hb : b < w.heap.size) (hx : ∀ j : Nat, -9223372036854775808 ≤ wd xs j ∧ wd xs j ≤ 9223372036854775807) (ht : Tens w) :
    Calls Tryd.prog 77 #[.slice (some ⟨b, 0, none⟩) 4 4] w fun e w' => e = .returned (.string ⟨(jbytes ⟨#[32]⟩ (ctexts xs 4)).toArray⟩) ∧ Below w.heap.size w w' := by
  have HT := Lib.hid ht
  have HX := Lib.hid hx
  have HC := Lib.hid h
  have HL0 := Lib.hid (heap_alloc_new w wordsRow)
  have HB0 : Hid (Below w.heap.size w (w.alloc wordsRow)) := (Below.refl _ _).alloc (Nat.le_refl _) _
  clear h hx ht hl
  go_enter Tryd.func77, Tryd.ntmps77
  go_wp2_with fail
  go_loopw [3, 4, 5, 8] (fun v _ _ i wr => ∃ k : Nat, k ≤ 4 ∧ i = .int .i64 k ∧ Hid (wr.ownsRow (w.heap.size + 1) 9 1 v (ctexts xs k).length ((ctexts xs k).map Value.string)) ∧ Hid (wr.heap[w.heap.size]? = some wordsRow) ∧ Hid (Below w.heap.size w wr)) (fun _ _ _ i _ => 4 - (intOf i).toNat)
  case atStart => exact ⟨0, by omega, rfl, own_nil _ _, HL0.out, HB0.out⟩
  case round =>
    obtain ⟨k, hk, rfl, HO, HL, HB⟩ := hrel
    have hsz := block_lt HL.out
    by_cases hlt : k < 4
    · have c1 := wordsRow_cell HL.out k hlt
      have c2 : wr.cell? ⟨b, k, none⟩ = some (.int .i64 (wd xs k)) := (HB.out.cell (p := ⟨b, k, none⟩) hb).trans (HC.out k hlt)
      have HNX := Lib.hid (ctexts_next xs k)
      have HCL := Lib.hid (ctexts_len xs k)
      have HKL := Lib.hid hlt
      obtain ⟨n, hn⟩ : ∃ n, n = wd xs k := ⟨_, rfl⟩
      have HNB : Hid (-9223372036854775808 ≤ n ∧ n ≤ 9223372036854775807) := by unfold Hid; rw [hn]; exact HX.out k
      rw [← hn] at c2 HNX
      obtain ⟨cw, hcw⟩ : ∃ cw, cw = cword k := ⟨_, rfl⟩
      rw [← hcw] at c1 HNX
      clear hn hcw
      go_wp2_with fail
      refine (itoa_any _ n HNB.out (HT.out.below (Nat.le_refl _) HB.out)).mono ?_
      rintro e w5 ⟨rfl, hb5⟩
      have HB5 : Hid (Below w.heap.size w w5) := HB.out.trans (hb5.mono HB.out.size)
      have HO5 := Lib.hid (ownsRow_belowT HO.out hb5)
      have HL5 : Hid (w5.heap[w.heap.size]? = some wordsRow) := (hb5.block _ hsz).trans HL.out
      have hz5 := block_lt HL5.out
      rw [show (⟨(Lib.itoa n).toArray⟩ : ByteArray) = otx n from rfl]
      generalize otx n = tn at *
      clear hb5 c1 c2
      go_wp2_with (first | (at_builtin; refine app_strs rfl (.tmp 13) (.tmp 20) rfl (w.heap.size + 1) _ (ctexts xs k) [cw, tn] rfl (HO5.out.alloc _) _ _ 2 2 [.string cw, .string tn] rfl (reads_two _ _ _ _) rfl rfl (by rw [HCL.out]; simp; omega) (by simp; omega) ?_; intro v6 w6 hown6 hb6; have HL6 : Hid (w6.heap[w.heap.size]? = some wordsRow) := (hb6.block _ (by omega)).trans ((Below.heap_alloc _ _ _ (by omega)).trans HL5.out); have HB6 := Lib.hid ((HB5.out.alloc HB5.out.size _).trans (hb6.mono (by omega))); have HO6 : Hid (w6.ownsRow (w.heap.size + 1) 9 1 v6 (ctexts xs (k + 1)).length ((ctexts xs (k + 1)).map Value.string)) := (by unfold Hid; rw [HNX.out]; exact hown6); clear hown6 hb6))
      go_roundw
      case rel => exact ⟨k + 1, by have := HKL.out; omega, by go_num, HO6, HL6, HB6⟩
      case measure => have := HKL.out; simp [intOf]; omega
    · have hke : k = 4 := by omega
      have HOE : Hid (wr.ownsRow (w.heap.size + 1) 9 1 u3 (ctexts xs 4).length ((ctexts xs 4).map Value.string)) := by unfold Hid; rw [← hke]; exact HO.out
      have d4 : decide ((k : Int) < 4) = false := by simp; omega
      obtain ⟨A, cp, hv, hcap, hst⟩ := strs_of_own HOE.out
      subst hv
      have HCAP := Lib.hid hcap
      have HST := Lib.hid hst
      have HJL := Lib.hid (ctexts_jlen xs HX.out 4)
      clear hcap hst HO hke hlt hk
      go_wp2_with fail
      refine (join_any _ A cp (ctexts xs 4) ⟨#[32]⟩ HST.out HCAP.out (by rw [ctexts_len]; omega) (by have := HJL.out; omega) (by decide)).mono ?_
      rintro e w6 ⟨rfl, hb6⟩
      have HB6 : Hid (Below w.heap.size w w6) := HB.out.trans (hb6.mono HB.out.size)
      clear hb6
      go_wp2_with fail
      go_ret
      exact ⟨rfl, HB6.out⟩
end Go.Proofs.YtcheafeaioflmaaDoor

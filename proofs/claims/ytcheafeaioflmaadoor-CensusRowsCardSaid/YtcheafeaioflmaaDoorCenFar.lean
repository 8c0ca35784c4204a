/- The document's tests and rows of a census. -/
import Derived.Test.YtcheafeaioflmaaDoorCensusOpen
import Derived.Test.YtcheafeaioflmaaDoorNum
import Derived.Test.YtcheafeaioflmaaDoorOpMore
import Derived.Test.YtcheafeaioflmaaDoorAppStr
namespace Go.Proofs.YtcheafeaioflmaaDoor
open Go Go.RowKit
set_option linter.unusedSimpArgs false
set_option linter.unusedVariables false

/-- what Far answers: no means that the numbers are within -/
def FarIs (f : Nat → Int) (e : Ending) : Prop := ∃ b, e = .returned (.bool b) ∧ (b = false → ∀ i, i < 19 → -1099511627776 ≤ f i ∧ f i ≤ 1099511627776)
set_option maxHeartbeats 8000000 in
set_option maxRecDepth 100000 in
theorem far_any (w : World) (f : Nat → Int) :
    Calls Tryd.prog 43 #[.agg (cl f).toArray] w fun e w' => FarIs f e ∧ Below w.heap.size w w' := by
  have HC := Lib.hid (cat_block' (heap_alloc_new w (.cells (cl f).toArray 67)))
  have HB : Hid (Below w.heap.size w (w.alloc (.cells (cl f).toArray 67))) := (Below.refl _ _).alloc (Nat.le_refl _) _
  have c19 := HC.out.cell 19 (by omega)
  generalize hA : decide (1099511627776 < f 19) = A
  generalize hB2 : decide (f 19 < -1099511627776) = B
  cases A
  · go_enter Tryd.func43, Tryd.ntmps43
    go_wp2_with fail
    clear c19 hA hB2
    go_loop [3, 4] (fun fv iv => ∃ (k : Nat) (b : Bool), k ≤ 12 ∧ iv = .int .i64 k ∧ fv = .bool b ∧ Hid (b = false → ∀ i, i < k → -1099511627776 ≤ f i ∧ f i ≤ 1099511627776)) (fun _ iv => 12 - (intOf iv).toNat)
    case atStart => exact ⟨0, _, by omega, rfl, rfl, fun _ i hi => absurd hi (Nat.not_lt_zero _)⟩
    case round =>
      obtain ⟨k, b, hk, rfl, rfl, HP4⟩ := hrel
      by_cases hlt : k < 12
      · have i1 : ((k : Nat) : Int) < 12 := by omega
        have i0 : (0 : Int) ≤ ((k : Nat) : Int) := by omega
        have ck := HC.out.cell (k) (by omega)
        cases b
        · by_cases g1 : 1099511627776 < f (k)
          · have d1 : decide (1099511627776 < f (k)) = true := by simpa using g1
            go_wp2_with fail
            go_round
            case rel => exact ⟨k + 1, true, by omega, by go_num, rfl, fun h => by cases h⟩
            case measure => simp [intOf]; omega
          have d1 : decide (1099511627776 < f (k)) = false := by simpa using g1
          by_cases g2 : f (k) < -1099511627776
          · have d2 : decide (f (k) < -1099511627776) = true := by simpa using g2
            go_wp2_with fail
            go_round
            case rel => exact ⟨k + 1, true, by omega, by go_num, rfl, fun h => by cases h⟩
            case measure => simp [intOf]; omega
          have d2 : decide (f (k) < -1099511627776) = false := by simpa using g2
          go_wp2_with fail
          go_round
          case rel => exact ⟨k + 1, false, by omega, by go_num, rfl, fun _ i hi => by
            by_cases e : i = k
            · subst e; omega
            · exact HP4.out rfl i (by omega)⟩
          case measure => simp [intOf]; omega
        · go_wp2_with fail
          go_round
          case rel => exact ⟨k + 1, true, by omega, by go_num, rfl, fun h => by cases h⟩
          case measure => simp [intOf]; omega
      · obtain rfl : k = 12 := by omega
        go_wp2_with fail
        go_loop [3, 5] (fun fv iv => ∃ (k : Nat) (b : Bool), k ≤ 7 ∧ iv = .int .i64 k ∧ fv = .bool b ∧ Hid (b = false → ∀ i, i < 12 + k → -1099511627776 ≤ f i ∧ f i ≤ 1099511627776)) (fun _ iv => 7 - (intOf iv).toNat)
        case atStart => exact ⟨0, _, by omega, rfl, rfl, HP4.out⟩
        case round =>
          obtain ⟨k, b, hk, rfl, rfl, HP5⟩ := hrel
          by_cases hlt : k < 7
          · have i1 : ((k : Nat) : Int) < 7 := by omega
            have i0 : (0 : Int) ≤ ((k : Nat) : Int) := by omega
            have ck := HC.out.cell (12 + k) (by omega)
            cases b
            · by_cases g1 : 1099511627776 < f (12 + k)
              · have d1 : decide (1099511627776 < f (12 + k)) = true := by simpa using g1
                go_wp2_with fail
                go_round
                case rel => exact ⟨k + 1, true, by omega, by go_num, rfl, fun h => by cases h⟩
                case measure => simp [intOf]; omega
              have d1 : decide (1099511627776 < f (12 + k)) = false := by simpa using g1
              by_cases g2 : f (12 + k) < -1099511627776
              · have d2 : decide (f (12 + k) < -1099511627776) = true := by simpa using g2
                go_wp2_with fail
                go_round
                case rel => exact ⟨k + 1, true, by omega, by go_num, rfl, fun h => by cases h⟩
                case measure => simp [intOf]; omega
              have d2 : decide (f (12 + k) < -1099511627776) = false := by simpa using g2
              go_wp2_with fail
              go_round
              case rel => exact ⟨k + 1, false, by omega, by go_num, rfl, fun _ i hi => by
                by_cases e : i = 12 + k
                · subst e; omega
                · exact HP5.out rfl i (by omega)⟩
              case measure => simp [intOf]; omega
            · go_wp2_with fail
              go_round
              case rel => exact ⟨k + 1, true, by omega, by go_num, rfl, fun h => by cases h⟩
              case measure => simp [intOf]; omega
          · obtain rfl : k = 7 := by omega
            go_wp2_with fail
            go_ret
            exact ⟨⟨b, rfl, HP5.out⟩, HB.out⟩
  · go_enter Tryd.func43, Tryd.ntmps43
    go_wp2_with fail
    clear c19 hA hB2
    go_loop [3, 4] (fun fv iv => ∃ (k : Nat) (b : Bool), k ≤ 12 ∧ iv = .int .i64 k ∧ fv = .bool b ∧ Hid (b = false → ∀ i, i < k → -1099511627776 ≤ f i ∧ f i ≤ 1099511627776)) (fun _ iv => 12 - (intOf iv).toNat)
    case atStart => exact ⟨0, _, by omega, rfl, rfl, fun _ i hi => absurd hi (Nat.not_lt_zero _)⟩
    case round =>
      obtain ⟨k, b, hk, rfl, rfl, HP4⟩ := hrel
      by_cases hlt : k < 12
      · have i1 : ((k : Nat) : Int) < 12 := by omega
        have i0 : (0 : Int) ≤ ((k : Nat) : Int) := by omega
        have ck := HC.out.cell (k) (by omega)
        cases b
        · by_cases g1 : 1099511627776 < f (k)
          · have d1 : decide (1099511627776 < f (k)) = true := by simpa using g1
            go_wp2_with fail
            go_round
            case rel => exact ⟨k + 1, true, by omega, by go_num, rfl, fun h => by cases h⟩
            case measure => simp [intOf]; omega
          have d1 : decide (1099511627776 < f (k)) = false := by simpa using g1
          by_cases g2 : f (k) < -1099511627776
          · have d2 : decide (f (k) < -1099511627776) = true := by simpa using g2
            go_wp2_with fail
            go_round
            case rel => exact ⟨k + 1, true, by omega, by go_num, rfl, fun h => by cases h⟩
            case measure => simp [intOf]; omega
          have d2 : decide (f (k) < -1099511627776) = false := by simpa using g2
          go_wp2_with fail
          go_round
          case rel => exact ⟨k + 1, false, by omega, by go_num, rfl, fun _ i hi => by
            by_cases e : i = k
            · subst e; omega
            · exact HP4.out rfl i (by omega)⟩
          case measure => simp [intOf]; omega
        · go_wp2_with fail
          go_round
          case rel => exact ⟨k + 1, true, by omega, by go_num, rfl, fun h => by cases h⟩
          case measure => simp [intOf]; omega
      · obtain rfl : k = 12 := by omega
        go_wp2_with fail
        go_loop [3, 5] (fun fv iv => ∃ (k : Nat) (b : Bool), k ≤ 7 ∧ iv = .int .i64 k ∧ fv = .bool b ∧ Hid (b = false → ∀ i, i < 12 + k → -1099511627776 ≤ f i ∧ f i ≤ 1099511627776)) (fun _ iv => 7 - (intOf iv).toNat)
        case atStart => exact ⟨0, _, by omega, rfl, rfl, HP4.out⟩
        case round =>
          obtain ⟨k, b, hk, rfl, rfl, HP5⟩ := hrel
          by_cases hlt : k < 7
          · have i1 : ((k : Nat) : Int) < 7 := by omega
            have i0 : (0 : Int) ≤ ((k : Nat) : Int) := by omega
            have ck := HC.out.cell (12 + k) (by omega)
            cases b
            · by_cases g1 : 1099511627776 < f (12 + k)
              · have d1 : decide (1099511627776 < f (12 + k)) = true := by simpa using g1
                go_wp2_with fail
                go_round
                case rel => exact ⟨k + 1, true, by omega, by go_num, rfl, fun h => by cases h⟩
                case measure => simp [intOf]; omega
              have d1 : decide (1099511627776 < f (12 + k)) = false := by simpa using g1
              by_cases g2 : f (12 + k) < -1099511627776
              · have d2 : decide (f (12 + k) < -1099511627776) = true := by simpa using g2
                go_wp2_with fail
                go_round
                case rel => exact ⟨k + 1, true, by omega, by go_num, rfl, fun h => by cases h⟩
                case measure => simp [intOf]; omega
              have d2 : decide (f (12 + k) < -1099511627776) = false := by simpa using g2
              go_wp2_with fail
              go_round
              case rel => exact ⟨k + 1, false, by omega, by go_num, rfl, fun _ i hi => by
                by_cases e : i = 12 + k
                · subst e; omega
                · exact HP5.out rfl i (by omega)⟩
              case measure => simp [intOf]; omega
            · go_wp2_with fail
              go_round
              case rel => exact ⟨k + 1, true, by omega, by go_num, rfl, fun h => by cases h⟩
              case measure => simp [intOf]; omega
          · obtain rfl : k = 7 := by omega
            go_wp2_with fail
            go_ret
            exact ⟨⟨b, rfl, HP5.out⟩, HB.out⟩
theorem step_app_strs {ops : Array Oper} {o : Oper} {a : Act} {K : Act → World → Prop} {Q : Exit → Act → World → Prop} {E : Prop} {w : World} (hgd : o.guard = none) (s x : Operand) (ho : o.op = .call { callee := .builtin .append, args := #[s, x], argTypes := #[28, 28] })
    (B : Nat) (v : Value) (ss ts : List ByteArray) (hs : a.eval s = v) (hown : w.ownsRow B 9 1 v ss.length (ss.map Value.string))
    (R : Nat) (A : Option Addr) (m c : Nat) (news : List Value) (hx : a.eval x = .slice A m c) (hr : Reads w R 1 A m news) (hm : m = ts.length) (hnews : news = ts.map Value.string)
    (hl : ss.length + ts.length ≤ 1000) (hB : B ≤ w.heap.size)
    (h : ∀ v' w', w'.ownsRow B 9 1 v' (ss ++ ts).length ((ss ++ ts).map Value.string) → Below B w w' → K (a.put o.dst v') w') :
    if Region.wanted o (yielded ops a.tmps) = true then Oper.wp Tryd.prog o a w K Q else E := by
  obtain ⟨i0, hi0, hz0, hz1, hz2⟩ := info_str8'
  subst hm hnews
  refine step_append_any (P := Tryd.prog) _ hgd s x _ ho B 9 i0 _ 1 16 Tryd.underlying28 hi0 hz0 hz1 hz2 rfl (by omega) v ss.length (ss.map Value.string) hs hown R A ts.length c (ts.map Value.string) hx hr (by
    intro u hu
    obtain ⟨b, _, rfl⟩ := List.mem_map.1 hu
    rfl) (by unfold maxLen; omega) (by omega) hB ?_
  intro v1 w1 hown1 hg1 hat1
  refine h v1 w1 ?_ ((Below.refl _ _).grown hg1 hB (fun k hk => (hown.lt k hk).1))
  rw [List.length_append, List.map_append]
  exact hown1
theorem CAt.belowB {w w' : World} {b B : Nat} {f : Nat → Int} (h : CAt w b f) (hb : b < B) (k : Below B w w') : CAt w' b f := CAt.of (fun i hi => ⟨(k.cell (p := ⟨b, i, none⟩) hb).trans (h.cell i hi), (World.frozen?_of_block (w := w) (k.block b hb)).trans (h.frozen i hi)⟩)
/-- a row of a census -/
def crow (nm : ByteArray) (n : Int) : ByteArray := nm ++ ⟨#[32]⟩ ++ otx n
def cenA (f : Nat → Int) (k : Nat) : List ByteArray := (List.range k).map fun j => crow (fname ((j + 1 : Nat) : Int)) (f (j + 1))
def cenB (f : Nat → Int) (k : Nat) : List ByteArray := cenA f 11 ++ (List.range k).map fun j => crow (fret ((j + 1 : Nat) : Int)) (f (12 + (j + 1)))
def cenRows (f : Nat → Int) : List ByteArray := cenB f 6 ++ [crow ⟨#[108, 105, 110]⟩ (f 19), crow ⟨#[116, 97, 107, 101]⟩ (f 20), crow ⟨#[97, 112, 112, 101, 110, 100]⟩ (f 21), crow ⟨#[102, 108, 105, 112]⟩ (f 22), crow ⟨#[99, 121, 99, 108, 101]⟩ (f 23)]
theorem cenA_next (f : Nat → Int) (k : Nat) : cenA f (k + 1) = cenA f k ++ [crow (fname ((k + 1 : Nat) : Int)) (f (k + 1))] := by simp [cenA, List.range_succ]
theorem cenB_next (f : Nat → Int) (k : Nat) : cenB f (k + 1) = cenB f k ++ [crow (fret ((k + 1 : Nat) : Int)) (f (12 + (k + 1)))] := by simp [cenB, List.range_succ]
theorem cenA_len (f : Nat → Int) (k : Nat) : (cenA f k).length = k := by simp [cenA]
theorem cenB_len (f : Nat → Int) (k : Nat) : (cenB f k).length = 11 + k := by simp [cenB, cenA]
theorem fret_size (k : Int) : (fret k).size ≤ 10 := by
  unfold fret
  show (frets.getD k.toNat []).toArray.size ≤ 10
  rw [List.size_toArray]
  by_cases h : k.toNat < 7
  · have : ∀ j, j < 7 → (frets.getD j []).length ≤ 10 := by decide
    exact this _ h
  · rw [List.getD_eq_getElem?_getD, List.getElem?_eq_none (by simp [frets]; simp at h; omega)]
    decide
/-- where the texts of rows lie -/
def RowsIs (ss : List ByteArray) (e : Ending) (w' : World) : Prop := ∃ A c, e = .returned (.slice A ss.length c) ∧ Strs w' w'.heap.size A ss
theorem reads_five (W : World) (E : TypeId) (a b c d e : Value) : Reads (W.alloc (.cells #[a, b, c, d, e] E)) (W.heap.size + 1) 1 (some ⟨W.heap.size, 0, none⟩) 5 [a, b, c, d, e] := by
  refine ⟨by simp, fun _ => ⟨_, rfl, by show W.heap.size < _; omega, fun j u hu => ?_⟩⟩
  have hj : j < 5 := (List.getElem?_eq_some_iff.1 hu).1
  have h := heap_alloc_new W (.cells #[a, b, c, d, e] E)
  have e9 : (⟨W.heap.size, 0, none⟩ : Addr).add j = ⟨W.heap.size, j, none⟩ := by unfold Addr.add; split <;> simp_all
  rw [e9, cell_of_block h j]
  obtain rfl | rfl | rfl | rfl | rfl : j = 0 ∨ j = 1 ∨ j = 2 ∨ j = 3 ∨ j = 4 := by omega
  all_goals simpa using hu
set_option maxHeartbeats 8000000 in
set_option maxRecDepth 100000 in
theorem rrows_any (w : World) (f : Nat → Int) (hf : ∀ i, -9223372036854775808 ≤ f i ∧ f i ≤ 9223372036854775807) :
    Calls Tryd.prog 44 #[.agg (cl f).toArray] w fun e w' => RowsIs (cenRows f) e w' ∧ Below w.heap.size w w' := by
  have HF := Lib.hid hf
  have HC0 := Lib.hid (cat_block' (heap_alloc_new w (.cells (cl f).toArray 67)))
  have HB0 : Hid (Below w.heap.size w (w.alloc (.cells (cl f).toArray 67))) := (Below.refl _ _).alloc (Nat.le_refl _) _
  clear hf
  go_enter Tryd.func44, Tryd.ntmps44
  go_wp2_with fail
  obtain ⟨W0, hW0⟩ : ∃ W, W = w.alloc (.cells (cl f).toArray 67) := ⟨_, rfl⟩
  rw [← hW0] at HC0 HB0 ⊢
  have HW0S : Hid (W0.heap.size = w.heap.size + 1) := by rw [hW0]; unfold Hid; simp
  clear hW0
  go_loopw [3, 4] (fun v iv wr => ∃ j : Nat, 1 ≤ j ∧ j ≤ 12 ∧ iv = .int .i64 j ∧ Hid (wr.ownsRow (w.heap.size + 1) 9 1 v (cenA f (j - 1)).length ((cenA f (j - 1)).map Value.string)) ∧ Hid (CAt wr w.heap.size f) ∧ Hid (Below w.heap.size w wr) ∧ Hid (Below (w.heap.size + 1) W0 wr)) (fun _ iv _ => 12 - (intOf iv).toNat)
  case atStart => exact ⟨1, by omega, by omega, rfl, own_nil _ _, HC0.out, HB0.out, by unfold Hid; rw [← HW0S.out]; exact Below.refl _ _⟩
  case round =>
    obtain ⟨j, hj1, hj, rfl, HO, HC, HB, HBW⟩ := hrel
    have HBB : Hid (w.heap.size + 1 ≤ wr.heap.size) := by have h := HBW.out.size; rw [HW0S.out] at h; exact h
    by_cases hlt : j < 12
    · have i1 : ((j : Nat) : Int) < 12 := by omega
      have i0 : (0 : Int) ≤ ((j : Nat) : Int) := by omega
      have c0 := HC.out.cell (j) (by omega)
      have HFN := HF.out (j)
      have HNU := Lib.hid (fun W => num_any W (f (j)) HFN)
      have HNM : Hid (∀ W, Calls Tryd.prog 84 #[.int .i64 (j : Int)] W fun e w' => e = .returned (.string (fname (j : Int))) ∧ Below W.heap.size W w') := fun W => (refname_any W (j : Int)).mono fun e w' h => ⟨h.1, by rw [h.2]; exact Below.refl _ _⟩
      have hz1 := fname_size (j : Int)
      have hz2 := otx_size (f (j)) HFN
      have HNX : Hid (cenA f (j + 1 - 1) = cenA f (j - 1) ++ [fname (j : Int) ++ ⟨#[32]⟩ ++ otx (f (j))]) := by have h := cenA_next f (j - 1); rw [show j - 1 + 1 = j by omega] at h; exact h
      have hll : (cenA f (j - 1)).length ≤ 40 := by rw [cenA_len]; omega
      generalize otx (f (j)) = tn at *
      generalize fname (j : Int) = nm at *
      generalize f (j) = fk at *
      generalize cenA f (j - 1) = ss at *
      have hz3 : ¬ 9223372036854775807 < nm.size + 1 := by omega
      have hz4 : ¬ 9223372036854775807 < nm.size + 1 + tn.size := by omega
      have HALL : Hid (∀ W, Below (w.heap.size + 1) wr W → W.cell? ⟨w.heap.size, j, none⟩ = some (.int .i64 fk) ∧ Below (w.heap.size + 1) wr W) := fun W hB => ⟨(hB.cell (show w.heap.size < w.heap.size + 1 by omega)).trans c0, hB⟩
      go_wp2_with fail
      refine wp_region_held_drew (S := fun W => W.cell? ⟨w.heap.size, j, none⟩ = some (.int .i64 fk) ∧ Below (w.heap.size + 1) wr W) (by kernel_rfl) ?_ (fun hHeld => ?_)
      · exact HALL.out _ (Below.refl _ _).drew
      refine wpAnyH_take (i := 0) (oi := ?oi1) (v := ?v1) ?hi1 (by kernel_rfl) (by kernel_rfl) (by kernel_rfl) ?hq1 (Or.inl ⟨?hw1, ?hy1⟩) (by assumption) ?rest1
      case hi1 => simp only [List.getElem?_toArray, List.getElem?_cons_succ, List.getElem?_cons_zero]; rfl
      case hq1 => exact fun _ _ _ h => h
      case hw1 => kernel_rfl
      case hy1 => (intro w hSw; (try dsimp only at hSw); go_simp; try with_reducible rfl)
      try simp only [Act.put, List.setIfInBounds_toArray, List.set_cons_zero, List.set_cons_succ]
      refine wpAnyH_take (i := 1) (oi := ?oi2) (v := ?v2) ?hi2 (by kernel_rfl) (by kernel_rfl) (by kernel_rfl) ?hq2 (Or.inl ⟨?hw2, ?hy2⟩) (by assumption) ?rest2
      case hi2 => simp only [List.getElem?_toArray, List.getElem?_cons_succ, List.getElem?_cons_zero]; rfl
      case hq2 => exact fun _ _ _ h => h
      case hw2 => kernel_rfl
      case hy2 => (intro w hSw; (try dsimp only at hSw); go_simp; try with_reducible rfl)
      try simp only [Act.put, List.setIfInBounds_toArray, List.set_cons_zero, List.set_cons_succ]
      refine wpAnyH_take (i := 4) (oi := ?oi3) (v := ?v3) ?hi3 (by kernel_rfl) (by kernel_rfl) (by kernel_rfl) ?hq3 (Or.inl ⟨?hw3, ?hy3⟩) (by assumption) ?rest3
      case hi3 => simp only [List.getElem?_toArray, List.getElem?_cons_succ, List.getElem?_cons_zero]; rfl
      case hq3 => exact fun _ _ _ h => h
      case hw3 => kernel_rfl
      case hy3 => (intro w hSw; (try dsimp only at hSw); go_simp; try with_reducible rfl)
      try simp only [Act.put, List.setIfInBounds_toArray, List.set_cons_zero, List.set_cons_succ]
      refine wpAnyH_take (i := 5) (oi := ?oi4) (v := ?v4) ?hi4 (by kernel_rfl) (by kernel_rfl) (by kernel_rfl) ?hq4 (Or.inl ⟨?hw4, ?hy4⟩) (by assumption) ?rest4
      case hi4 => simp only [List.getElem?_toArray, List.getElem?_cons_succ, List.getElem?_cons_zero]; rfl
      case hq4 => exact fun _ _ _ h => h
      case hw4 => kernel_rfl
      case hy4 => (intro w hSw; (try dsimp only at hSw); go_simp; try with_reducible rfl)
      try simp only [Act.put, List.setIfInBounds_toArray, List.set_cons_zero, List.set_cons_succ]
      refine wpAnyH_take (i := 6) (oi := ?oi5) (v := ?v5) ?hi5 (by kernel_rfl) (by kernel_rfl) (by kernel_rfl) ?hq5 (Or.inl ⟨?hw5, ?hy5⟩) (by assumption) ?rest5
      case hi5 => simp only [List.getElem?_toArray, List.getElem?_cons_succ, List.getElem?_cons_zero]; rfl
      case hq5 => exact fun _ _ _ h => h
      case hw5 => kernel_rfl
      case hy5 => (intro w hSw; (try dsimp only at hSw); go_simp; try with_reducible rfl)
      try simp only [Act.put, List.setIfInBounds_toArray, List.set_cons_zero, List.set_cons_succ]
      refine wpAnyH_take (i := 7) (oi := ?oi6) (v := ?v6) ?hi6 (by kernel_rfl) (by kernel_rfl) (by kernel_rfl) ?hq6 (Or.inl ⟨?hw6, ?hy6⟩) (by assumption) ?rest6
      case hi6 => simp only [List.getElem?_toArray, List.getElem?_cons_succ, List.getElem?_cons_zero]; rfl
      case hq6 => exact fun _ _ _ h => h
      case hw6 => kernel_rfl
      case hy6 => (intro w hSw; (try dsimp only at hSw); go_simp; try with_reducible rfl)
      try simp only [Act.put, List.setIfInBounds_toArray, List.set_cons_zero, List.set_cons_succ]
      refine wpAnyH_ready (rs := [2]) (by kernel_rfl) (by simp) ?_
      refine AllReadyH.cons (o := ?o7) ?ho7 (fun K hK => ?st7) AllReadyH.nil
      case ho7 => simp only [List.getElem?_toArray, List.getElem?_cons_succ, List.getElem?_cons_zero]; rfl
      go_simp
      go_at_call 84
      refine (HNM.out _).mono ?_
      rintro e wq ⟨rfl, hb2⟩
      have HO1 := Lib.hid (ownsRow_belowT (HO.out.drew) hb2)
      have hb2 := hb2.mono (show w.heap.size + 1 ≤ _ by first | exact HBB.out | (have := HBB.out; simp; omega))
      have hBel := Below.trans hHeld.2 hb2
      clear hHeld
      try go_simp
      refine hK.out _ _ ?_ (fun hHeld => ?_)
      · exact HALL.out _ hBel
      clear hK K hb2 hBel
      try simp only [Act.put, List.setIfInBounds_toArray, List.set_cons_zero, List.set_cons_succ]
      refine wpAnyH_take (i := 3) (oi := ?oi8) (v := ?v8) ?hi8 (by kernel_rfl) (by kernel_rfl) (by kernel_rfl) ?hq8 (Or.inl ⟨?hw8, ?hy8⟩) (by assumption) ?rest8
      case hi8 => simp only [List.getElem?_toArray, List.getElem?_cons_succ, List.getElem?_cons_zero]; rfl
      case hq8 => exact fun _ _ _ h => h
      case hw8 => kernel_rfl
      case hy8 => (intro w hSw; (try dsimp only at hSw); go_simp; try with_reducible rfl)
      try simp only [Act.put, List.setIfInBounds_toArray, List.set_cons_zero, List.set_cons_succ]
      refine wpAnyH_ready (rs := [8]) (by kernel_rfl) (by simp) ?_
      refine AllReadyH.cons (o := ?o9) ?ho9 (fun K hK => ?st9) AllReadyH.nil
      case ho9 => simp only [List.getElem?_toArray, List.getElem?_cons_succ, List.getElem?_cons_zero]; rfl
      go_simp
      go_at_call 88
      refine (HNU.out _).mono ?_
      rintro e wp ⟨rfl, hb2⟩
      have HO2 := Lib.hid (ownsRow_belowT HO1.out hb2)
      have hb2 := hb2.mono (show w.heap.size + 1 ≤ _ from Nat.le_trans HBB.out (by have := (hHeld.2).size; simpa using this))
      have hBel := Below.trans hHeld.2 hb2
      clear hHeld
      try go_simp
      refine hK.out _ _ ?_ (fun hHeld => ?_)
      · exact HALL.out _ hBel
      clear hK K hb2 hBel
      try simp only [Act.put, List.setIfInBounds_toArray, List.set_cons_zero, List.set_cons_succ]
      refine wpAnyH_take (i := 9) (oi := ?oi10) (v := ?v10) ?hi10 (by kernel_rfl) (by kernel_rfl) (by kernel_rfl) ?hq10 (Or.inl ⟨?hw10, ?hy10⟩) (by assumption) ?rest10
      case hi10 => simp only [List.getElem?_toArray, List.getElem?_cons_succ, List.getElem?_cons_zero]; rfl
      case hq10 => exact fun _ _ _ h => h
      case hw10 => kernel_rfl
      case hy10 => (intro w hSw; (try dsimp only at hSw); go_simp; try with_reducible rfl)
      try simp only [Act.put, List.setIfInBounds_toArray, List.set_cons_zero, List.set_cons_succ]
      refine wpAnyH_ready (rs := [10]) (by kernel_rfl) (by simp) ?_
      refine AllReadyH.cons (o := ?o11) ?ho11 (fun K hK => ?st11) AllReadyH.nil
      case ho11 => simp only [List.getElem?_toArray, List.getElem?_cons_succ, List.getElem?_cons_zero]; rfl
      go_simp
      have hBel := (hHeld.2).alloc (show w.heap.size + 1 ≤ wp.heap.size from Nat.le_trans HBB.out (by have := (hHeld.2).size; simpa using this)) (.cells #[.string (nm ++ ⟨#[32]⟩ ++ tn)] 9)
      clear hHeld
      refine hK.out _ _ ?_ (fun hHeld => ?_)
      · exact HALL.out _ hBel
      clear hK K hBel
      try simp only [Act.put, List.setIfInBounds_toArray, List.set_cons_zero, List.set_cons_succ]
      refine wpAnyH_ready (rs := [11]) (by kernel_rfl) (by simp) ?_
      refine AllReadyH.cons (o := ?o12) ?ho12 (fun K hK => ?st12) AllReadyH.nil
      case ho12 => simp only [List.getElem?_toArray, List.getElem?_cons_succ, List.getElem?_cons_zero]; rfl
      refine step_app_strs rfl (.tmp 10) (.tmp 20) rfl (w.heap.size + 1) _ (ss) [nm ++ ⟨#[32]⟩ ++ tn] rfl (HO2.out.alloc _) _ _ 1 1 [.string (nm ++ ⟨#[32]⟩ ++ tn)] rfl (reads_one _ _ _) rfl rfl (by simp; omega) (Nat.le_trans HBB.out (by have := (hHeld.2).size; simpa using this)) ?_
      intro v9 w9 hown9 hb9
      have HO9 := Lib.hid hown9
      have hBel := (hHeld.2).trans hb9
      clear hown9 hb9 hHeld
      refine hK.out _ _ ?_ (fun hHeld => ?_)
      · exact HALL.out _ hBel
      clear hK K hBel
      try simp only [Act.put, List.setIfInBounds_toArray, List.set_cons_zero, List.set_cons_succ]
      refine wpAnyH_take (i := 12) (oi := ?oi13) (v := ?v13) ?hi13 (by kernel_rfl) (by kernel_rfl) (by kernel_rfl) ?hq13 (Or.inl ⟨?hw13, ?hy13⟩) (by assumption) ?rest13
      case hi13 => simp only [List.getElem?_toArray, List.getElem?_cons_succ, List.getElem?_cons_zero]; rfl
      case hq13 => exact fun _ _ _ h => h
      case hw13 => kernel_rfl
      case hy13 => (intro w hSw; (try dsimp only at hSw); go_simp; try with_reducible rfl)
      try simp only [Act.put, List.setIfInBounds_toArray, List.set_cons_zero, List.set_cons_succ]
      refine wpAnyH_done (by kernel_rfl) ?_ _
      have hq : Below (w.heap.size + 1) wr w9 := hHeld.2
      have HC9 := Lib.hid (HC.out.belowB (by omega) hq)
      have HB9 : Hid (Below w.heap.size w w9) := HB.out.trans (hq.mono (by omega))
      have HBW9 : Hid (Below (w.heap.size + 1) W0 w9) := HBW.out.trans hq
      clear hHeld hq
      go_wp2_with fail
      go_roundw
      case rel => exact ⟨j + 1, by omega, by omega, by go_num, by rw [HNX.out]; exact HO9.out, HC9.out, HB9.out, HBW9.out⟩
      case measure => simp [intOf]; omega
    · have i1 : ¬ ((j : Nat) : Int) < 12 := by omega
      have HJ9 : Hid (j - 1 = 11) := by unfold Hid; omega
      rw [HJ9.out] at HO
      clear hlt hj hj1
      go_wp2_with fail
      clear i1
      go_loopw [3, 5] (fun v iv wr => ∃ l : Nat, 1 ≤ l ∧ l ≤ 7 ∧ iv = .int .i64 l ∧ Hid (wr.ownsRow (w.heap.size + 1) 9 1 v (cenB f (l - 1)).length ((cenB f (l - 1)).map Value.string)) ∧ Hid (CAt wr w.heap.size f) ∧ Hid (Below w.heap.size w wr) ∧ Hid (Below (w.heap.size + 1) W0 wr)) (fun _ iv _ => 7 - (intOf iv).toNat)
      case atStart => exact ⟨1, by omega, by omega, rfl, (show Hid (wr.ownsRow (w.heap.size + 1) 9 1 _ (cenB f (1 - 1)).length ((cenB f (1 - 1)).map Value.string)) from by unfold Hid cenB; simpa using HO.out), HC.out, HB.out, HBW.out⟩
      case round =>
        obtain ⟨l, hl1, hl, rfl, HO, HC, HB, HBW⟩ := hrel
        have HBB : Hid (w.heap.size + 1 ≤ wr.heap.size) := by have h := HBW.out.size; rw [HW0S.out] at h; exact h
        by_cases hlt : l < 7
        · have i1 : ((l : Nat) : Int) < 7 := by omega
          have i0 : (0 : Int) ≤ ((l : Nat) : Int) := by omega
          have c0 := HC.out.cell (12 + l) (by omega)
          have HFN := HF.out (12 + l)
          have HNU := Lib.hid (fun W => num_any W (f (12 + l)) HFN)
          have HNM : Hid (∀ W, Calls Tryd.prog 89 #[.int .i64 (l : Int)] W fun e w' => e = .returned (.string (fret (l : Int))) ∧ Below W.heap.size W w') := fun W => (refret_any W (l : Int)).mono fun e w' h => ⟨h.1, by rw [h.2]; exact Below.refl _ _⟩
          have hz1 := fret_size (l : Int)
          have hz2 := otx_size (f (12 + l)) HFN
          have HNX : Hid (cenB f (l + 1 - 1) = cenB f (l - 1) ++ [fret (l : Int) ++ ⟨#[32]⟩ ++ otx (f (12 + l))]) := by have h := cenB_next f (l - 1); rw [show l - 1 + 1 = l by omega] at h; exact h
          have hll : (cenB f (l - 1)).length ≤ 40 := by rw [cenB_len]; omega
          generalize otx (f (12 + l)) = tn at *
          generalize fret (l : Int) = nm at *
          generalize f (12 + l) = fk at *
          generalize cenB f (l - 1) = ss at *
          have hz3 : ¬ 9223372036854775807 < nm.size + 1 := by omega
          have hz4 : ¬ 9223372036854775807 < nm.size + 1 + tn.size := by omega
          have HALL : Hid (∀ W, Below (w.heap.size + 1) wr W → W.cell? ⟨w.heap.size, 12 + l, none⟩ = some (.int .i64 fk) ∧ Below (w.heap.size + 1) wr W) := fun W hB => ⟨(hB.cell (show w.heap.size < w.heap.size + 1 by omega)).trans c0, hB⟩
          go_wp2_with fail
          refine wp_region_held_drew (S := fun W => W.cell? ⟨w.heap.size, 12 + l, none⟩ = some (.int .i64 fk) ∧ Below (w.heap.size + 1) wr W) (by kernel_rfl) ?_ (fun hHeld => ?_)
          · exact HALL.out _ (Below.refl _ _).drew
          refine wpAnyH_take (i := 0) (oi := ?oi14) (v := ?v14) ?hi14 (by kernel_rfl) (by kernel_rfl) (by kernel_rfl) ?hq14 (Or.inl ⟨?hw14, ?hy14⟩) (by assumption) ?rest14
          case hi14 => simp only [List.getElem?_toArray, List.getElem?_cons_succ, List.getElem?_cons_zero]; rfl
          case hq14 => exact fun _ _ _ h => h
          case hw14 => kernel_rfl
          case hy14 => (intro w hSw; (try dsimp only at hSw); go_simp; try with_reducible rfl)
          try simp only [Act.put, List.setIfInBounds_toArray, List.set_cons_zero, List.set_cons_succ]
          refine wpAnyH_take (i := 1) (oi := ?oi15) (v := ?v15) ?hi15 (by kernel_rfl) (by kernel_rfl) (by kernel_rfl) ?hq15 (Or.inl ⟨?hw15, ?hy15⟩) (by assumption) ?rest15
          case hi15 => simp only [List.getElem?_toArray, List.getElem?_cons_succ, List.getElem?_cons_zero]; rfl
          case hq15 => exact fun _ _ _ h => h
          case hw15 => kernel_rfl
          case hy15 => (intro w hSw; (try dsimp only at hSw); go_simp; try with_reducible rfl)
          try simp only [Act.put, List.setIfInBounds_toArray, List.set_cons_zero, List.set_cons_succ]
          refine wpAnyH_take (i := 4) (oi := ?oi16) (v := ?v16) ?hi16 (by kernel_rfl) (by kernel_rfl) (by kernel_rfl) ?hq16 (Or.inl ⟨?hw16, ?hy16⟩) (by assumption) ?rest16
          case hi16 => simp only [List.getElem?_toArray, List.getElem?_cons_succ, List.getElem?_cons_zero]; rfl
          case hq16 => exact fun _ _ _ h => h
          case hw16 => kernel_rfl
          case hy16 => (intro w hSw; (try dsimp only at hSw); go_simp; try with_reducible rfl)
          try simp only [Act.put, List.setIfInBounds_toArray, List.set_cons_zero, List.set_cons_succ]
          refine wpAnyH_take (i := 5) (oi := ?oi17) (v := ?v17) ?hi17 (by kernel_rfl) (by kernel_rfl) (by kernel_rfl) ?hq17 (Or.inl ⟨?hw17, ?hy17⟩) (by assumption) ?rest17
          case hi17 => simp only [List.getElem?_toArray, List.getElem?_cons_succ, List.getElem?_cons_zero]; rfl
          case hq17 => exact fun _ _ _ h => h
          case hw17 => kernel_rfl
          case hy17 => (intro w hSw; (try dsimp only at hSw); go_simp; try with_reducible rfl)
          try simp only [Act.put, List.setIfInBounds_toArray, List.set_cons_zero, List.set_cons_succ]
          refine wpAnyH_take (i := 6) (oi := ?oi18) (v := ?v18) ?hi18 (by kernel_rfl) (by kernel_rfl) (by kernel_rfl) ?hq18 (Or.inl ⟨?hw18, ?hy18⟩) (by assumption) ?rest18
          case hi18 => simp only [List.getElem?_toArray, List.getElem?_cons_succ, List.getElem?_cons_zero]; rfl
          case hq18 => exact fun _ _ _ h => h
          case hw18 => kernel_rfl
          case hy18 => (intro w hSw; (try dsimp only at hSw); go_simp; try with_reducible rfl)
          try simp only [Act.put, List.setIfInBounds_toArray, List.set_cons_zero, List.set_cons_succ]
          refine wpAnyH_take (i := 7) (oi := ?oi19) (v := ?v19) ?hi19 (by kernel_rfl) (by kernel_rfl) (by kernel_rfl) ?hq19 (Or.inl ⟨?hw19, ?hy19⟩) (by assumption) ?rest19
          case hi19 => simp only [List.getElem?_toArray, List.getElem?_cons_succ, List.getElem?_cons_zero]; rfl
          case hq19 => exact fun _ _ _ h => h
          case hw19 => kernel_rfl
          case hy19 => (intro w hSw; (try dsimp only at hSw); go_simp; try with_reducible rfl)
          try simp only [Act.put, List.setIfInBounds_toArray, List.set_cons_zero, List.set_cons_succ]
          refine wpAnyH_ready (rs := [2]) (by kernel_rfl) (by simp) ?_
          refine AllReadyH.cons (o := ?o20) ?ho20 (fun K hK => ?st20) AllReadyH.nil
          case ho20 => simp only [List.getElem?_toArray, List.getElem?_cons_succ, List.getElem?_cons_zero]; rfl
          go_simp
          go_at_call 89
          refine (HNM.out _).mono ?_
          rintro e wq ⟨rfl, hb2⟩
          have HO1 := Lib.hid (ownsRow_belowT (HO.out.drew) hb2)
          have hb2 := hb2.mono (show w.heap.size + 1 ≤ _ by first | exact HBB.out | (have := HBB.out; simp; omega))
          have hBel := Below.trans hHeld.2 hb2
          clear hHeld
          try go_simp
          refine hK.out _ _ ?_ (fun hHeld => ?_)
          · exact HALL.out _ hBel
          clear hK K hb2 hBel
          try simp only [Act.put, List.setIfInBounds_toArray, List.set_cons_zero, List.set_cons_succ]
          refine wpAnyH_take (i := 3) (oi := ?oi21) (v := ?v21) ?hi21 (by kernel_rfl) (by kernel_rfl) (by kernel_rfl) ?hq21 (Or.inl ⟨?hw21, ?hy21⟩) (by assumption) ?rest21
          case hi21 => simp only [List.getElem?_toArray, List.getElem?_cons_succ, List.getElem?_cons_zero]; rfl
          case hq21 => exact fun _ _ _ h => h
          case hw21 => kernel_rfl
          case hy21 => (intro w hSw; (try dsimp only at hSw); go_simp; try with_reducible rfl)
          try simp only [Act.put, List.setIfInBounds_toArray, List.set_cons_zero, List.set_cons_succ]
          refine wpAnyH_ready (rs := [8]) (by kernel_rfl) (by simp) ?_
          refine AllReadyH.cons (o := ?o22) ?ho22 (fun K hK => ?st22) AllReadyH.nil
          case ho22 => simp only [List.getElem?_toArray, List.getElem?_cons_succ, List.getElem?_cons_zero]; rfl
          go_simp
          go_at_call 88
          refine (HNU.out _).mono ?_
          rintro e wp ⟨rfl, hb2⟩
          have HO2 := Lib.hid (ownsRow_belowT HO1.out hb2)
          have hb2 := hb2.mono (show w.heap.size + 1 ≤ _ from Nat.le_trans HBB.out (by have := (hHeld.2).size; simpa using this))
          have hBel := Below.trans hHeld.2 hb2
          clear hHeld
          try go_simp
          refine hK.out _ _ ?_ (fun hHeld => ?_)
          · exact HALL.out _ hBel
          clear hK K hb2 hBel
          try simp only [Act.put, List.setIfInBounds_toArray, List.set_cons_zero, List.set_cons_succ]
          refine wpAnyH_take (i := 9) (oi := ?oi23) (v := ?v23) ?hi23 (by kernel_rfl) (by kernel_rfl) (by kernel_rfl) ?hq23 (Or.inl ⟨?hw23, ?hy23⟩) (by assumption) ?rest23
          case hi23 => simp only [List.getElem?_toArray, List.getElem?_cons_succ, List.getElem?_cons_zero]; rfl
          case hq23 => exact fun _ _ _ h => h
          case hw23 => kernel_rfl
          case hy23 => (intro w hSw; (try dsimp only at hSw); go_simp; try with_reducible rfl)
          try simp only [Act.put, List.setIfInBounds_toArray, List.set_cons_zero, List.set_cons_succ]
          refine wpAnyH_ready (rs := [10]) (by kernel_rfl) (by simp) ?_
          refine AllReadyH.cons (o := ?o24) ?ho24 (fun K hK => ?st24) AllReadyH.nil
          case ho24 => simp only [List.getElem?_toArray, List.getElem?_cons_succ, List.getElem?_cons_zero]; rfl
          go_simp
          have hBel := (hHeld.2).alloc (show w.heap.size + 1 ≤ wp.heap.size from Nat.le_trans HBB.out (by have := (hHeld.2).size; simpa using this)) (.cells #[.string (nm ++ ⟨#[32]⟩ ++ tn)] 9)
          clear hHeld
          refine hK.out _ _ ?_ (fun hHeld => ?_)
          · exact HALL.out _ hBel
          clear hK K hBel
          try simp only [Act.put, List.setIfInBounds_toArray, List.set_cons_zero, List.set_cons_succ]
          refine wpAnyH_ready (rs := [11]) (by kernel_rfl) (by simp) ?_
          refine AllReadyH.cons (o := ?o25) ?ho25 (fun K hK => ?st25) AllReadyH.nil
          case ho25 => simp only [List.getElem?_toArray, List.getElem?_cons_succ, List.getElem?_cons_zero]; rfl
          refine step_app_strs rfl (.tmp 26) (.tmp 36) rfl (w.heap.size + 1) _ (ss) [nm ++ ⟨#[32]⟩ ++ tn] rfl (HO2.out.alloc _) _ _ 1 1 [.string (nm ++ ⟨#[32]⟩ ++ tn)] rfl (reads_one _ _ _) rfl rfl (by simp; omega) (Nat.le_trans HBB.out (by have := (hHeld.2).size; simpa using this)) ?_
          intro v9 w9 hown9 hb9
          have HO9 := Lib.hid hown9
          have hBel := (hHeld.2).trans hb9
          clear hown9 hb9 hHeld
          refine hK.out _ _ ?_ (fun hHeld => ?_)
          · exact HALL.out _ hBel
          clear hK K hBel
          try simp only [Act.put, List.setIfInBounds_toArray, List.set_cons_zero, List.set_cons_succ]
          refine wpAnyH_take (i := 12) (oi := ?oi26) (v := ?v26) ?hi26 (by kernel_rfl) (by kernel_rfl) (by kernel_rfl) ?hq26 (Or.inl ⟨?hw26, ?hy26⟩) (by assumption) ?rest26
          case hi26 => simp only [List.getElem?_toArray, List.getElem?_cons_succ, List.getElem?_cons_zero]; rfl
          case hq26 => exact fun _ _ _ h => h
          case hw26 => kernel_rfl
          case hy26 => (intro w hSw; (try dsimp only at hSw); go_simp; try with_reducible rfl)
          try simp only [Act.put, List.setIfInBounds_toArray, List.set_cons_zero, List.set_cons_succ]
          refine wpAnyH_done (by kernel_rfl) ?_ _
          have hq : Below (w.heap.size + 1) wr w9 := hHeld.2
          have HC9 := Lib.hid (HC.out.belowB (by omega) hq)
          have HB9 : Hid (Below w.heap.size w w9) := HB.out.trans (hq.mono (by omega))
          have HBW9 : Hid (Below (w.heap.size + 1) W0 w9) := HBW.out.trans hq
          clear hHeld hq
          go_wp2_with fail
          go_roundw
          case rel => exact ⟨l + 1, by omega, by omega, by go_num, by rw [HNX.out]; exact HO9.out, HC9.out, HB9.out, HBW9.out⟩
          case measure => simp [intOf]; omega
        · have i1 : ¬ ((l : Nat) : Int) < 7 := by omega
          have HK9 : Hid (l - 1 = 6) := by unfold Hid; omega
          rw [HK9.out] at HO
          have c0 := HC.out.cell 19 (by omega)
          have HN0 := Lib.hid (fun W => num_any W (f 19) (HF.out 19))
          have hz0 := otx_size (f 19) (HF.out 19)
          have c1 := HC.out.cell 20 (by omega)
          have HN1 := Lib.hid (fun W => num_any W (f 20) (HF.out 20))
          have hz1 := otx_size (f 20) (HF.out 20)
          have c2 := HC.out.cell 21 (by omega)
          have HN2 := Lib.hid (fun W => num_any W (f 21) (HF.out 21))
          have hz2 := otx_size (f 21) (HF.out 21)
          have c3 := HC.out.cell 22 (by omega)
          have HN3 := Lib.hid (fun W => num_any W (f 22) (HF.out 22))
          have hz3 := otx_size (f 22) (HF.out 22)
          have c4 := HC.out.cell 23 (by omega)
          have HN4 := Lib.hid (fun W => num_any W (f 23) (HF.out 23))
          have hz4 := otx_size (f 23) (HF.out 23)
          have HRW : Hid (cenRows f = cenB f 6 ++ [⟨#[108, 105, 110, 32]⟩ ++ otx (f 19), ⟨#[116, 97, 107, 101, 32]⟩ ++ otx (f 20), ⟨#[97, 112, 112, 101, 110, 100, 32]⟩ ++ otx (f 21), ⟨#[102, 108, 105, 112, 32]⟩ ++ otx (f 22), ⟨#[99, 121, 99, 108, 101, 32]⟩ ++ otx (f 23)]) := by unfold cenRows Hid; simp only [crow]; refine congrArg (cenB f 6 ++ ·) ?_; simp only [List.cons.injEq, and_true]; refine ⟨?_, ?_, ?_, ?_, ?_⟩ <;> exact bytes_ext (by simp [ByteArray.data_append])
          have hlb := cenB_len f 6
          generalize otx (f 19) = t0 at *
          have hs0 : ¬ 9223372036854775807 < 4 + t0.size := by omega
          generalize f 19 = g0 at *
          generalize otx (f 20) = t1 at *
          have hs1 : ¬ 9223372036854775807 < 5 + t1.size := by omega
          generalize f 20 = g1 at *
          generalize otx (f 21) = t2 at *
          have hs2 : ¬ 9223372036854775807 < 7 + t2.size := by omega
          generalize f 21 = g2 at *
          generalize otx (f 22) = t3 at *
          have hs3 : ¬ 9223372036854775807 < 5 + t3.size := by omega
          generalize f 22 = g3 at *
          generalize otx (f 23) = t4 at *
          have hs4 : ¬ 9223372036854775807 < 6 + t4.size := by omega
          generalize f 23 = g4 at *
          generalize cenB f 6 = ss at *
          have HALL : Hid (∀ W, Below (w.heap.size + 1) wr W → W.cell? ⟨w.heap.size, 19, none⟩ = some (.int .i64 g0) ∧ W.cell? ⟨w.heap.size, 20, none⟩ = some (.int .i64 g1) ∧ W.cell? ⟨w.heap.size, 21, none⟩ = some (.int .i64 g2) ∧ W.cell? ⟨w.heap.size, 22, none⟩ = some (.int .i64 g3) ∧ W.cell? ⟨w.heap.size, 23, none⟩ = some (.int .i64 g4) ∧ Below (w.heap.size + 1) wr W) := fun W hB => ⟨(hB.cell (show w.heap.size < w.heap.size + 1 by omega)).trans c0, (hB.cell (show w.heap.size < w.heap.size + 1 by omega)).trans c1, (hB.cell (show w.heap.size < w.heap.size + 1 by omega)).trans c2, (hB.cell (show w.heap.size < w.heap.size + 1 by omega)).trans c3, (hB.cell (show w.heap.size < w.heap.size + 1 by omega)).trans c4, hB⟩
          go_wp2_with fail
          refine wp_region_held_drew (S := fun W => W.cell? ⟨w.heap.size, 19, none⟩ = some (.int .i64 g0) ∧ W.cell? ⟨w.heap.size, 20, none⟩ = some (.int .i64 g1) ∧ W.cell? ⟨w.heap.size, 21, none⟩ = some (.int .i64 g2) ∧ W.cell? ⟨w.heap.size, 22, none⟩ = some (.int .i64 g3) ∧ W.cell? ⟨w.heap.size, 23, none⟩ = some (.int .i64 g4) ∧ Below (w.heap.size + 1) wr W) (by kernel_rfl) ?_ (fun hHeld => ?_)
          · exact HALL.out _ (Below.refl _ _).drew
          refine wpAnyH_take (i := 0) (oi := ?oi27) (v := ?v27) ?hi27 (by kernel_rfl) (by kernel_rfl) (by kernel_rfl) ?hq27 (Or.inl ⟨?hw27, ?hy27⟩) (by assumption) ?rest27
          case hi27 => simp only [List.getElem?_toArray, List.getElem?_cons_succ, List.getElem?_cons_zero]; rfl
          case hq27 => exact fun _ _ _ h => h
          case hw27 => kernel_rfl
          case hy27 => (intro w hSw; (try dsimp only at hSw); go_simp; try with_reducible rfl)
          try simp only [Act.put, List.setIfInBounds_toArray, List.set_cons_zero, List.set_cons_succ]
          refine wpAnyH_take (i := 1) (oi := ?oi28) (v := ?v28) ?hi28 (by kernel_rfl) (by kernel_rfl) (by kernel_rfl) ?hq28 (Or.inl ⟨?hw28, ?hy28⟩) (by assumption) ?rest28
          case hi28 => simp only [List.getElem?_toArray, List.getElem?_cons_succ, List.getElem?_cons_zero]; rfl
          case hq28 => exact fun _ _ _ h => h
          case hw28 => kernel_rfl
          case hy28 => (intro w hSw; (try dsimp only at hSw); go_simp; try with_reducible rfl)
          try simp only [Act.put, List.setIfInBounds_toArray, List.set_cons_zero, List.set_cons_succ]
          refine wpAnyH_take (i := 2) (oi := ?oi29) (v := ?v29) ?hi29 (by kernel_rfl) (by kernel_rfl) (by kernel_rfl) ?hq29 (Or.inl ⟨?hw29, ?hy29⟩) (by assumption) ?rest29
          case hi29 => simp only [List.getElem?_toArray, List.getElem?_cons_succ, List.getElem?_cons_zero]; rfl
          case hq29 => exact fun _ _ _ h => h
          case hw29 => kernel_rfl
          case hy29 => (intro w hSw; (try dsimp only at hSw); go_simp; try with_reducible rfl)
          try simp only [Act.put, List.setIfInBounds_toArray, List.set_cons_zero, List.set_cons_succ]
          refine wpAnyH_take (i := 5) (oi := ?oi30) (v := ?v30) ?hi30 (by kernel_rfl) (by kernel_rfl) (by kernel_rfl) ?hq30 (Or.inl ⟨?hw30, ?hy30⟩) (by assumption) ?rest30
          case hi30 => simp only [List.getElem?_toArray, List.getElem?_cons_succ, List.getElem?_cons_zero]; rfl
          case hq30 => exact fun _ _ _ h => h
          case hw30 => kernel_rfl
          case hy30 => (intro w hSw; (try dsimp only at hSw); go_simp; try with_reducible rfl)
          try simp only [Act.put, List.setIfInBounds_toArray, List.set_cons_zero, List.set_cons_succ]
          refine wpAnyH_take (i := 6) (oi := ?oi31) (v := ?v31) ?hi31 (by kernel_rfl) (by kernel_rfl) (by kernel_rfl) ?hq31 (Or.inl ⟨?hw31, ?hy31⟩) (by assumption) ?rest31
          case hi31 => simp only [List.getElem?_toArray, List.getElem?_cons_succ, List.getElem?_cons_zero]; rfl
          case hq31 => exact fun _ _ _ h => h
          case hw31 => kernel_rfl
          case hy31 => (intro w hSw; (try dsimp only at hSw); go_simp; try with_reducible rfl)
          try simp only [Act.put, List.setIfInBounds_toArray, List.set_cons_zero, List.set_cons_succ]
          refine wpAnyH_take (i := 9) (oi := ?oi32) (v := ?v32) ?hi32 (by kernel_rfl) (by kernel_rfl) (by kernel_rfl) ?hq32 (Or.inl ⟨?hw32, ?hy32⟩) (by assumption) ?rest32
          case hi32 => simp only [List.getElem?_toArray, List.getElem?_cons_succ, List.getElem?_cons_zero]; rfl
          case hq32 => exact fun _ _ _ h => h
          case hw32 => kernel_rfl
          case hy32 => (intro w hSw; (try dsimp only at hSw); go_simp; try with_reducible rfl)
          try simp only [Act.put, List.setIfInBounds_toArray, List.set_cons_zero, List.set_cons_succ]
          refine wpAnyH_take (i := 10) (oi := ?oi33) (v := ?v33) ?hi33 (by kernel_rfl) (by kernel_rfl) (by kernel_rfl) ?hq33 (Or.inl ⟨?hw33, ?hy33⟩) (by assumption) ?rest33
          case hi33 => simp only [List.getElem?_toArray, List.getElem?_cons_succ, List.getElem?_cons_zero]; rfl
          case hq33 => exact fun _ _ _ h => h
          case hw33 => kernel_rfl
          case hy33 => (intro w hSw; (try dsimp only at hSw); go_simp; try with_reducible rfl)
          try simp only [Act.put, List.setIfInBounds_toArray, List.set_cons_zero, List.set_cons_succ]
          refine wpAnyH_take (i := 13) (oi := ?oi34) (v := ?v34) ?hi34 (by kernel_rfl) (by kernel_rfl) (by kernel_rfl) ?hq34 (Or.inl ⟨?hw34, ?hy34⟩) (by assumption) ?rest34
          case hi34 => simp only [List.getElem?_toArray, List.getElem?_cons_succ, List.getElem?_cons_zero]; rfl
          case hq34 => exact fun _ _ _ h => h
          case hw34 => kernel_rfl
          case hy34 => (intro w hSw; (try dsimp only at hSw); go_simp; try with_reducible rfl)
          try simp only [Act.put, List.setIfInBounds_toArray, List.set_cons_zero, List.set_cons_succ]
          refine wpAnyH_take (i := 14) (oi := ?oi35) (v := ?v35) ?hi35 (by kernel_rfl) (by kernel_rfl) (by kernel_rfl) ?hq35 (Or.inl ⟨?hw35, ?hy35⟩) (by assumption) ?rest35
          case hi35 => simp only [List.getElem?_toArray, List.getElem?_cons_succ, List.getElem?_cons_zero]; rfl
          case hq35 => exact fun _ _ _ h => h
          case hw35 => kernel_rfl
          case hy35 => (intro w hSw; (try dsimp only at hSw); go_simp; try with_reducible rfl)
          try simp only [Act.put, List.setIfInBounds_toArray, List.set_cons_zero, List.set_cons_succ]
          refine wpAnyH_take (i := 17) (oi := ?oi36) (v := ?v36) ?hi36 (by kernel_rfl) (by kernel_rfl) (by kernel_rfl) ?hq36 (Or.inl ⟨?hw36, ?hy36⟩) (by assumption) ?rest36
          case hi36 => simp only [List.getElem?_toArray, List.getElem?_cons_succ, List.getElem?_cons_zero]; rfl
          case hq36 => exact fun _ _ _ h => h
          case hw36 => kernel_rfl
          case hy36 => (intro w hSw; (try dsimp only at hSw); go_simp; try with_reducible rfl)
          try simp only [Act.put, List.setIfInBounds_toArray, List.set_cons_zero, List.set_cons_succ]
          refine wpAnyH_take (i := 18) (oi := ?oi37) (v := ?v37) ?hi37 (by kernel_rfl) (by kernel_rfl) (by kernel_rfl) ?hq37 (Or.inl ⟨?hw37, ?hy37⟩) (by assumption) ?rest37
          case hi37 => simp only [List.getElem?_toArray, List.getElem?_cons_succ, List.getElem?_cons_zero]; rfl
          case hq37 => exact fun _ _ _ h => h
          case hw37 => kernel_rfl
          case hy37 => (intro w hSw; (try dsimp only at hSw); go_simp; try with_reducible rfl)
          try simp only [Act.put, List.setIfInBounds_toArray, List.set_cons_zero, List.set_cons_succ]
          refine wpAnyH_ready (rs := [3]) (by kernel_rfl) (by simp) ?_
          refine AllReadyH.cons (o := ?o38) ?ho38 (fun K hK => ?st38) AllReadyH.nil
          case ho38 => simp only [List.getElem?_toArray, List.getElem?_cons_succ, List.getElem?_cons_zero]; rfl
          go_simp
          go_at_call 88
          refine (HN0.out _).mono ?_
          rintro e wq0 ⟨rfl, hb2⟩
          have HO0 := Lib.hid (ownsRow_belowT (HO.out.drew) hb2)
          have hb2 := hb2.mono (show w.heap.size + 1 ≤ _ from Nat.le_trans HBB.out (by have hs9 := (hHeld.2.2.2.2.2).size; first | (simp; done) | omega | (simp at hs9 ⊢; omega)))
          have hBel := Below.trans hHeld.2.2.2.2.2 hb2
          clear hHeld
          try go_simp
          refine hK.out _ _ ?_ (fun hHeld => ?_)
          · exact HALL.out _ hBel
          clear hK K hb2 hBel
          try simp only [Act.put, List.setIfInBounds_toArray, List.set_cons_zero, List.set_cons_succ]
          refine wpAnyH_take (i := 4) (oi := ?oi39) (v := ?v39) ?hi39 (by kernel_rfl) (by kernel_rfl) (by kernel_rfl) ?hq39 (Or.inl ⟨?hw39, ?hy39⟩) (by assumption) ?rest39
          case hi39 => simp only [List.getElem?_toArray, List.getElem?_cons_succ, List.getElem?_cons_zero]; rfl
          case hq39 => exact fun _ _ _ h => h
          case hw39 => kernel_rfl
          case hy39 => (intro w hSw; (try dsimp only at hSw); go_simp; try with_reducible rfl)
          try simp only [Act.put, List.setIfInBounds_toArray, List.set_cons_zero, List.set_cons_succ]
          refine wpAnyH_ready (rs := [7]) (by kernel_rfl) (by simp) ?_
          refine AllReadyH.cons (o := ?o40) ?ho40 (fun K hK => ?st40) AllReadyH.nil
          case ho40 => simp only [List.getElem?_toArray, List.getElem?_cons_succ, List.getElem?_cons_zero]; rfl
          go_simp
          go_at_call 88
          refine (HN1.out _).mono ?_
          rintro e wq1 ⟨rfl, hb2⟩
          have HO1 := Lib.hid (ownsRow_belowT (HO0.out) hb2)
          have hb2 := hb2.mono (show w.heap.size + 1 ≤ _ from Nat.le_trans HBB.out (by have hs9 := (hHeld.2.2.2.2.2).size; first | (simp; done) | omega | (simp at hs9 ⊢; omega)))
          have hBel := Below.trans hHeld.2.2.2.2.2 hb2
          clear hHeld
          try go_simp
          refine hK.out _ _ ?_ (fun hHeld => ?_)
          · exact HALL.out _ hBel
          clear hK K hb2 hBel
          try simp only [Act.put, List.setIfInBounds_toArray, List.set_cons_zero, List.set_cons_succ]
          refine wpAnyH_take (i := 8) (oi := ?oi41) (v := ?v41) ?hi41 (by kernel_rfl) (by kernel_rfl) (by kernel_rfl) ?hq41 (Or.inl ⟨?hw41, ?hy41⟩) (by assumption) ?rest41
          case hi41 => simp only [List.getElem?_toArray, List.getElem?_cons_succ, List.getElem?_cons_zero]; rfl
          case hq41 => exact fun _ _ _ h => h
          case hw41 => kernel_rfl
          case hy41 => (intro w hSw; (try dsimp only at hSw); go_simp; try with_reducible rfl)
          try simp only [Act.put, List.setIfInBounds_toArray, List.set_cons_zero, List.set_cons_succ]
          refine wpAnyH_ready (rs := [11]) (by kernel_rfl) (by simp) ?_
          refine AllReadyH.cons (o := ?o42) ?ho42 (fun K hK => ?st42) AllReadyH.nil
          case ho42 => simp only [List.getElem?_toArray, List.getElem?_cons_succ, List.getElem?_cons_zero]; rfl
          go_simp
          go_at_call 88
          refine (HN2.out _).mono ?_
          rintro e wq2 ⟨rfl, hb2⟩
          have HO2 := Lib.hid (ownsRow_belowT (HO1.out) hb2)
          have hb2 := hb2.mono (show w.heap.size + 1 ≤ _ from Nat.le_trans HBB.out (by have hs9 := (hHeld.2.2.2.2.2).size; first | (simp; done) | omega | (simp at hs9 ⊢; omega)))
          have hBel := Below.trans hHeld.2.2.2.2.2 hb2
          clear hHeld
          try go_simp
          refine hK.out _ _ ?_ (fun hHeld => ?_)
          · exact HALL.out _ hBel
          clear hK K hb2 hBel
          try simp only [Act.put, List.setIfInBounds_toArray, List.set_cons_zero, List.set_cons_succ]
          refine wpAnyH_take (i := 12) (oi := ?oi43) (v := ?v43) ?hi43 (by kernel_rfl) (by kernel_rfl) (by kernel_rfl) ?hq43 (Or.inl ⟨?hw43, ?hy43⟩) (by assumption) ?rest43
          case hi43 => simp only [List.getElem?_toArray, List.getElem?_cons_succ, List.getElem?_cons_zero]; rfl
          case hq43 => exact fun _ _ _ h => h
          case hw43 => kernel_rfl
          case hy43 => (intro w hSw; (try dsimp only at hSw); go_simp; try with_reducible rfl)
          try simp only [Act.put, List.setIfInBounds_toArray, List.set_cons_zero, List.set_cons_succ]
          refine wpAnyH_ready (rs := [15]) (by kernel_rfl) (by simp) ?_
          refine AllReadyH.cons (o := ?o44) ?ho44 (fun K hK => ?st44) AllReadyH.nil
          case ho44 => simp only [List.getElem?_toArray, List.getElem?_cons_succ, List.getElem?_cons_zero]; rfl
          go_simp
          go_at_call 88
          refine (HN3.out _).mono ?_
          rintro e wq3 ⟨rfl, hb2⟩
          have HO3 := Lib.hid (ownsRow_belowT (HO2.out) hb2)
          have hb2 := hb2.mono (show w.heap.size + 1 ≤ _ from Nat.le_trans HBB.out (by have hs9 := (hHeld.2.2.2.2.2).size; first | (simp; done) | omega | (simp at hs9 ⊢; omega)))
          have hBel := Below.trans hHeld.2.2.2.2.2 hb2
          clear hHeld
          try go_simp
          refine hK.out _ _ ?_ (fun hHeld => ?_)
          · exact HALL.out _ hBel
          clear hK K hb2 hBel
          try simp only [Act.put, List.setIfInBounds_toArray, List.set_cons_zero, List.set_cons_succ]
          refine wpAnyH_take (i := 16) (oi := ?oi45) (v := ?v45) ?hi45 (by kernel_rfl) (by kernel_rfl) (by kernel_rfl) ?hq45 (Or.inl ⟨?hw45, ?hy45⟩) (by assumption) ?rest45
          case hi45 => simp only [List.getElem?_toArray, List.getElem?_cons_succ, List.getElem?_cons_zero]; rfl
          case hq45 => exact fun _ _ _ h => h
          case hw45 => kernel_rfl
          case hy45 => (intro w hSw; (try dsimp only at hSw); go_simp; try with_reducible rfl)
          try simp only [Act.put, List.setIfInBounds_toArray, List.set_cons_zero, List.set_cons_succ]
          refine wpAnyH_ready (rs := [19]) (by kernel_rfl) (by simp) ?_
          refine AllReadyH.cons (o := ?o46) ?ho46 (fun K hK => ?st46) AllReadyH.nil
          case ho46 => simp only [List.getElem?_toArray, List.getElem?_cons_succ, List.getElem?_cons_zero]; rfl
          go_simp
          go_at_call 88
          refine (HN4.out _).mono ?_
          rintro e wq4 ⟨rfl, hb2⟩
          have HO4 := Lib.hid (ownsRow_belowT (HO3.out) hb2)
          have hb2 := hb2.mono (show w.heap.size + 1 ≤ _ from Nat.le_trans HBB.out (by have hs9 := (hHeld.2.2.2.2.2).size; first | (simp; done) | omega | (simp at hs9 ⊢; omega)))
          have hBel := Below.trans hHeld.2.2.2.2.2 hb2
          clear hHeld
          try go_simp
          refine hK.out _ _ ?_ (fun hHeld => ?_)
          · exact HALL.out _ hBel
          clear hK K hb2 hBel
          try simp only [Act.put, List.setIfInBounds_toArray, List.set_cons_zero, List.set_cons_succ]
          refine wpAnyH_take (i := 20) (oi := ?oi47) (v := ?v47) ?hi47 (by kernel_rfl) (by kernel_rfl) (by kernel_rfl) ?hq47 (Or.inl ⟨?hw47, ?hy47⟩) (by assumption) ?rest47
          case hi47 => simp only [List.getElem?_toArray, List.getElem?_cons_succ, List.getElem?_cons_zero]; rfl
          case hq47 => exact fun _ _ _ h => h
          case hw47 => kernel_rfl
          case hy47 => (intro w hSw; (try dsimp only at hSw); go_simp; try with_reducible rfl)
          try simp only [Act.put, List.setIfInBounds_toArray, List.set_cons_zero, List.set_cons_succ]
          refine wpAnyH_ready (rs := [21]) (by kernel_rfl) (by simp) ?_
          refine AllReadyH.cons (o := ?o48) ?ho48 (fun K hK => ?st48) AllReadyH.nil
          case ho48 => simp only [List.getElem?_toArray, List.getElem?_cons_succ, List.getElem?_cons_zero]; rfl
          go_simp
          have hBel := (hHeld.2.2.2.2.2).alloc (show w.heap.size + 1 ≤ wq4.heap.size from Nat.le_trans HBB.out (by have hs9 := (hHeld.2.2.2.2.2).size; first | (simp; done) | omega | (simp at hs9 ⊢; omega))) (.cells #[.string (⟨#[108, 105, 110, 32]⟩ ++ t0), .string (⟨#[116, 97, 107, 101, 32]⟩ ++ t1), .string (⟨#[97, 112, 112, 101, 110, 100, 32]⟩ ++ t2), .string (⟨#[102, 108, 105, 112, 32]⟩ ++ t3), .string (⟨#[99, 121, 99, 108, 101, 32]⟩ ++ t4)] 9)
          clear hHeld
          refine hK.out _ _ ?_ (fun hHeld => ?_)
          · exact HALL.out _ hBel
          clear hK K hBel
          try simp only [Act.put, List.setIfInBounds_toArray, List.set_cons_zero, List.set_cons_succ]
          refine wpAnyH_ready (rs := [22]) (by kernel_rfl) (by simp) ?_
          refine AllReadyH.cons (o := ?o49) ?ho49 (fun K hK => ?st49) AllReadyH.nil
          case ho49 => simp only [List.getElem?_toArray, List.getElem?_cons_succ, List.getElem?_cons_zero]; rfl
          refine step_app_strs rfl (.tmp 38) (.tmp 59) rfl (w.heap.size + 1) _ ss [⟨#[108, 105, 110, 32]⟩ ++ t0, ⟨#[116, 97, 107, 101, 32]⟩ ++ t1, ⟨#[97, 112, 112, 101, 110, 100, 32]⟩ ++ t2, ⟨#[102, 108, 105, 112, 32]⟩ ++ t3, ⟨#[99, 121, 99, 108, 101, 32]⟩ ++ t4] rfl (HO4.out.alloc _) _ _ 5 5 [.string (⟨#[108, 105, 110, 32]⟩ ++ t0), .string (⟨#[116, 97, 107, 101, 32]⟩ ++ t1), .string (⟨#[97, 112, 112, 101, 110, 100, 32]⟩ ++ t2), .string (⟨#[102, 108, 105, 112, 32]⟩ ++ t3), .string (⟨#[99, 121, 99, 108, 101, 32]⟩ ++ t4)] rfl (reads_five _ _ _ _ _ _ _) rfl rfl (by simp; omega) (Nat.le_trans HBB.out (by have hs9 := (hHeld.2.2.2.2.2).size; first | (simp; done) | omega | (simp at hs9 ⊢; omega))) ?_
          intro v9 w9 hown9 hb9
          have HO9 := Lib.hid hown9
          have hBel := (hHeld.2.2.2.2.2).trans hb9
          clear hown9 hb9 hHeld
          refine hK.out _ _ ?_ (fun hHeld => ?_)
          · exact HALL.out _ hBel
          clear hK K hBel
          try simp only [Act.put, List.setIfInBounds_toArray, List.set_cons_zero, List.set_cons_succ]
          refine wpAnyH_take (i := 23) (oi := ?oi50) (v := ?v50) ?hi50 (by kernel_rfl) (by kernel_rfl) (by kernel_rfl) ?hq50 (Or.inl ⟨?hw50, ?hy50⟩) (by assumption) ?rest50
          case hi50 => simp only [List.getElem?_toArray, List.getElem?_cons_succ, List.getElem?_cons_zero]; rfl
          case hq50 => exact fun _ _ _ h => h
          case hw50 => kernel_rfl
          case hy50 => (intro w hSw; (try dsimp only at hSw); go_simp; try with_reducible rfl)
          try simp only [Act.put, List.setIfInBounds_toArray, List.set_cons_zero, List.set_cons_succ]
          refine wpAnyH_done (by kernel_rfl) ?_ _
          have hq : Below (w.heap.size + 1) wr w9 := hHeld.2.2.2.2.2
          have HB9 : Hid (Below w.heap.size w w9) := HB.out.trans (hq.mono (by omega))
          rw [← HRW.out] at HO9
          obtain ⟨A2, cp, hv, hcap, hst⟩ := strs_of_own HO9.out
          subst hv
          have HST := Lib.hid hst
          clear hst hcap hHeld hq
          go_wp2_with fail
          go_ret
          exact ⟨⟨A2, cp, rfl, HST.out⟩, HB9.out⟩
end Go.Proofs.YtcheafeaioflmaaDoor

/- census.Open and the law's awake. -/
import Derived.Test.YtcheafeaioflmaaDoorCensusJoinB
namespace Go.Proofs.YtcheafeaioflmaaDoor
open Go Go.RowKit Go.Op
set_option linter.unusedSimpArgs false
set_option linter.unusedVariables false

def psum (f : Nat → Int) : Nat → Int
  | 0 => 0
  | k + 1 => psum f k + f k
theorem psum_bd (f : Nat → Int) (n : Nat) (hf : ∀ i, i < n → -1099511627776 ≤ f i ∧ f i ≤ 1099511627776) : ∀ k : Nat, k ≤ n → -1099511627776 * (k : Int) ≤ psum f k ∧ psum f k ≤ 1099511627776 * (k : Int)
  | 0, _ => by simp [psum]
  | k + 1, hk => by
    have := psum_bd f n hf k (by omega)
    have := hf k (by omega)
    rw [psum]
    omega
def copen (f : Nat → Int) : Int := psum f 12 - psum (fun i => f (12 + i)) 7
theorem cat_block' {w : World} {b : Nat} {f : Nat → Int} (h : w.heap[b]? = some (.cells (cl f).toArray 67)) : CAt w b f := CAt.of (fun i hi => by
  refine ⟨?_, frozen_of_block h i⟩
  rw [cell_of_block h i, List.getElem?_toArray]
  exact cl_at f i hi)
set_option maxHeartbeats 4000000 in
set_option maxRecDepth 100000 in
theorem copen_any (w : World) (f : Nat → Int) (hf : ∀ i, i < 19 → -1099511627776 ≤ f i ∧ f i ≤ 1099511627776) :
    Calls Tryd.prog 46 #[.agg (cl f).toArray] w fun e w' => e = .returned (.int .i64 (copen f)) ∧ Below w.heap.size w w' := by
  have HF := Lib.hid hf
  have HC := Lib.hid (cat_block' (heap_alloc_new w (.cells (cl f).toArray 67)))
  have HB : Hid (Below w.heap.size w (w.alloc (.cells (cl f).toArray 67))) := (Below.refl _ _).alloc (Nat.le_refl _) _
  have hlen := cl_len f
  clear hf
  go_enter Tryd.func46, Tryd.ntmps46
  go_wp2_with (first
    | (guard_target =~ wpList _ _ _ (Oper.mk _ (Op.load 64 _) _ _ _ _ :: _) _ _; refine wpList_load_mid rfl 64 _ rfl w.heap.size 0 rfl ((cl f).take 12) _ (range_12 HC.out) Tryd.underlying64 rfl (by rw [List.length_take, cl_len]; kernel_rfl) ?_))
  go_loopw [3, 5, 10] (fun n _ ix wr => ∃ k : Nat, k ≤ 12 ∧ ix = .int .i64 k ∧ n = .int .i64 (psum f k) ∧ wr = w.alloc (.cells (cl f).toArray 67)) (fun _ _ ix _ => 12 - (intOf ix).toNat)
  case atStart => exact ⟨0, by omega, rfl, rfl, rfl⟩
  case round =>
    obtain ⟨k, hk, rfl, rfl, rfl⟩ := hrel
    have hb := psum_bd f 12 (fun i hi => HF.out i (by omega)) k hk
    by_cases hlt : k < 12
    · have hix := fun w' : World => index_12 w' f k hlt
      have h1 := HF.out k (by omega)
      have s0 : IntKind.i64.wrap (psum f k + f k) = psum f k + f k := IntWalk.i64_in _ (by omega)
      have dl2 : decide ((k : Int) < 12) = true := by simp; omega
      have i1 : (0 : Int) ≤ (k : Int) := by omega
      have i2 : (k : Int) < 12 := by omega
      have sk2 : IntKind.i64.wrap ((k : Int) + 1) = (k : Int) + 1 := IntWalk.i64_in _ (by omega)
      clear hb h1
      go_wp2_with fail
      go_roundw
      case rel => exact ⟨k + 1, by omega, by go_num, rfl, by first | exact trivial | rfl⟩
      case measure => (simp [intOf] <;> omega)
    have dl2 : decide ((k : Int) < 12) = false := by simp; omega
    have hk12 : k = 12 := by omega
    have HP : Hid (psum f k = psum f 12) := by rw [hk12]; rfl
    rw [HP.out]
    clear hb hk12 hk hlt
    go_wp2_with (first
      | (guard_target =~ wpList _ _ _ (Oper.mk _ (Op.load 65 _) _ _ _ _ :: _) _ _; refine wpList_load_mid rfl 65 _ rfl w.heap.size 12 rfl (((cl f).drop 12).take 7) _ (range_7 HC.out) Tryd.underlying65 rfl (by rw [List.length_take, List.length_drop, cl_len]; kernel_rfl) ?_))
    clear dl2
    go_loopw [3, 7, 19] (fun n _ ix wr => ∃ k : Nat, k ≤ 7 ∧ ix = .int .i64 k ∧ n = .int .i64 (psum f 12 - psum (fun i => f (12 + i)) k) ∧ wr = w.alloc (.cells (cl f).toArray 67)) (fun _ _ ix _ => 7 - (intOf ix).toNat)
    case atStart => exact ⟨0, by omega, rfl, by simp [psum], rfl⟩
    case round =>
      obtain ⟨k, hk, rfl, rfl, rfl⟩ := hrel
      have hb := psum_bd f 12 (fun i hi => HF.out i (by omega)) 12 (Nat.le_refl _)
      have hb2 := psum_bd (fun i => f (12 + i)) 7 (fun i hi => HF.out (12 + i) (by omega)) k hk
      by_cases hlt : k < 7
      · have hix := fun w' : World => index_7 w' f k hlt
        have h1 := HF.out (12 + k) (by omega)
        have s0 : IntKind.i64.wrap (psum f 12 - psum (fun i => f (12 + i)) k - f (12 + k)) = psum f 12 - psum (fun i => f (12 + i)) k - f (12 + k) := IntWalk.i64_in _ (by omega)
        have dl2 : decide ((k : Int) < 7) = true := by simp; omega
        have i1 : (0 : Int) ≤ (k : Int) := by omega
        have i2 : (k : Int) < 7 := by omega
        have sk2 : IntKind.i64.wrap ((k : Int) + 1) = (k : Int) + 1 := IntWalk.i64_in _ (by omega)
        clear hb hb2 h1
        go_wp2_with fail
        go_roundw
        case rel => exact ⟨k + 1, by omega, by go_num, by simp only [psum]; congr 1; omega, by first | exact trivial | rfl⟩
        case measure => (simp [intOf] <;> omega)
      have dl2 : decide ((k : Int) < 7) = false := by simp; omega
      have hk7 : k = 7 := by omega
      have HP : Hid (psum f 12 - psum (fun i => f (12 + i)) k = copen f) := by rw [hk7]; rfl
      rw [HP.out]
      clear hb hb2 hk7 hk hlt
      go_wp2_with fail
      go_ret
      exact ⟨rfl, HB.out⟩
def awl : List Nt := [⟨0, 1, ⟨1, 0, 0, 0⟩, 0⟩, ⟨0, 2, ⟨1, 0, 0, 0⟩, 0⟩, ⟨0, 3, ⟨1, 0, 0, 0⟩, 1⟩]
theorem nts_block {w : World} {b : Nat} {l : List Nt} (h : w.heap[b]? = some (.cells (nflat l).toArray 130)) (hl : l.length ≤ 100000) : Nts w w.heap.size (some ⟨b, 0, none⟩) l where
  len := by unfold maxLen; omega
  at_ := fun _ => by
    refine ⟨_, rfl, block_lt h, fun j t hj => ?_⟩
    rw [add_zero_off]
    have hc : ∀ i, w.cell? ⟨b, i, none⟩ = (nflat l)[i]? := fun i => by rw [cell_of_block h i, List.getElem?_toArray]
    obtain ⟨q0, q1, q2, q3, q4, q5, q6⟩ := nflat_at l j t hj
    exact ⟨(hc (j * 7)).trans q0, (hc (j * 7 + 1)).trans q1, (hc (j * 7 + 2)).trans q2, (hc (j * 7 + 3)).trans q3, (hc (j * 7 + 4)).trans q4, (hc (j * 7 + 5)).trans q5, (hc (j * 7 + 6)).trans q6⟩
theorem awl_at : cen awl 1 = 1 ∧ cen awl 19 = 1 ∧ cen awl 13 = 1 ∧ copen (cen awl) = 0 := by decide
set_option maxHeartbeats 4000000 in
set_option maxRecDepth 100000 in
theorem cawake_any (w : World) : Calls Tryd.prog 42 #[] w fun e w' => e = .returned (.bool true) ∧ Below w.heap.size w w' := by
  have HN : Hid (Nts ((w.alloc (.cells #[.int .i64 1, .int .i64 0, .int .i64 0, .int .i64 0] 56)).alloc (.cells (nflat awl).toArray 130)) ((w.alloc (.cells #[.int .i64 1, .int .i64 0, .int .i64 0, .int .i64 0] 56)).alloc (.cells (nflat awl).toArray 130)).heap.size (some ⟨w.heap.size + 1, 0, none⟩) awl) := by
    have := heap_alloc_new (w.alloc (.cells #[.int .i64 1, .int .i64 0, .int .i64 0, .int .i64 0] 56)) (.cells (nflat awl).toArray 130)
    rw [World.size_alloc] at this
    exact nts_block this (by decide)
  have HB : Hid (Below w.heap.size w ((w.alloc (.cells #[.int .i64 1, .int .i64 0, .int .i64 0, .int .i64 0] 56)).alloc (.cells (nflat awl).toArray 130))) := ((Below.refl _ _).alloc (Nat.le_refl _) _).alloc (by simp) _
  go_enter Tryd.func42, Tryd.ntmps42
  go_wp2_with fail
  refine (cof_any _ _ (some ⟨w.heap.size + 1, 0, none⟩) 3 awl HN.out (Nat.le_refl _) (by decide)).mono ?_
  rintro e w1 ⟨rfl, hb⟩
  have HB1 : Hid (Below w.heap.size w w1) := HB.out.trans (hb.mono HB.out.size)
  rw [show cval (cen awl) = .agg (cl (cen awl)).toArray from rfl]
  obtain ⟨F, hF⟩ : ∃ F, F = cen awl := ⟨_, rfl⟩
  obtain ⟨f1, f19, f13, fo⟩ := awl_at
  have hFb : ∀ i, -1099511627776 ≤ F i ∧ F i ≤ 1099511627776 := fun i => by
    have h1 := cen_bound awl i
    have h2 : awl.length = 3 := rfl
    rw [hF]
    omega
  rw [← hF] at f1 f19 f13 fo ⊢
  have HFB := Lib.hid hFb
  have HFO := Lib.hid fo
  have hc0 := cat_new w1
  have hst := store_cl hc0 F
  have hlen := cl_len F
  have hc2 := hc0.sets F
  obtain ⟨W2, hW2⟩ : ∃ W2, W2 = (w1.alloc czero).setCells w1.heap.size 0 (cl F) := ⟨_, rfl⟩
  have HB2 : Hid (Below w.heap.size w W2) := by
    rw [hW2]
    exact (HB1.out.alloc HB1.out.size czero).trans ((Keep.setCells (S := fun y => y = w1.heap.size) rfl _ _ _ (Keep.refl _ _)).below (by have := HB1.out.size; simp; omega) (fun y e => by have := HB1.out.size; omega))
  rw [← hW2] at hst hc2
  have HC2 := Lib.hid hc2
  have k1 : W2.cell? ⟨w1.heap.size, 1, none⟩ = some (.int .i64 1) := by rw [← f1]; exact hc2.cell 1 (by omega)
  have k19 : W2.cell? ⟨w1.heap.size, 19, none⟩ = some (.int .i64 1) := by rw [← f19]; exact hc2.cell 19 (by omega)
  have k13 : W2.cell? ⟨w1.heap.size, 13, none⟩ = some (.int .i64 1) := by rw [← f13]; exact hc2.cell 13 (by omega)
  clear hb hF f1 f19 f13 fo hFb hc0 hc2 hW2
  go_wp2_with (first
    | (guard_target =~ wpList _ _ _ (Oper.mk _ (Op.load 67 _) _ _ _ _ :: _) _ _; refine BigFrame.wpList_want (by first | rfl | go_simp) (fun K hK => wp_load_mid 67 _ rfl w1.heap.size 0 rfl (cl F) _ HC2.out.at_ Tryd.underlying67 rfl (census_size _) (hK _ _ ?_))))
  refine (copen_any _ F (fun i _ => HFB.out i)).mono ?_
  rintro e w3 ⟨rfl, hb⟩
  rw [HFO.out]
  have HB3 : Hid (Below w.heap.size w w3) := HB2.out.trans (hb.mono HB2.out.size)
  clear hb
  go_wp2_with fail
  go_ret
  exact ⟨rfl, HB3.out⟩
end Go.Proofs.YtcheafeaioflmaaDoor

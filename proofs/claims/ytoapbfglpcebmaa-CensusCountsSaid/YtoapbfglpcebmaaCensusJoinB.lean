/- The walk of census.Join. -/
import Derived.Test.YtoapbfglpcebmaaCensusJoin
namespace Go.Proofs.Ytoapbfglpcebmaa
open Go Go.RowKit Go.Op
set_option linter.unusedSimpArgs false
set_option linter.unusedVariables false

theorem five_at (S f : Nat → Int) (i : Nat) (hi : i < 24) : (if i = 23 then S 23 + f 23 else if i = 22 then S 22 + f 22 else if i = 21 then S 21 + f 21 else if i = 20 then S 20 + f 20 else if i = 19 then S 19 + f 19 else if i < 12 + 7 then S i + f i else S i) = S i + f i := by
  by_cases b3 : i = 23
  · subst b3; simp
  rw [if_neg b3]
  by_cases b2 : i = 22
  · subst b2; simp
  rw [if_neg b2]
  by_cases b1 : i = 21
  · subst b1; simp
  rw [if_neg b1]
  by_cases b0 : i = 20
  · subst b0; simp
  rw [if_neg b0]
  by_cases b9 : i = 19
  · subst b9; simp
  rw [if_neg b9, if_pos (by omega)]
theorem range_12 {w : World} {b : Nat} {f : Nat → Int} (h : CAt w b f) : w.rangeAt b 0 ((cl f).take 12) := fun j v hv => by
  have hj : j < 12 := by have := (List.getElem?_eq_some_iff.1 hv).1; rw [List.length_take, cl_len] at this; omega
  rw [List.getElem?_take_of_lt hj, cl_at f j (by omega)] at hv
  cases hv
  rw [Nat.zero_add]
  exact h.cell j (by omega)
theorem range_7 {w : World} {b : Nat} {f : Nat → Int} (h : CAt w b f) : w.rangeAt b 12 (((cl f).drop 12).take 7) := fun j v hv => by
  have hj : j < 7 := by have := (List.getElem?_eq_some_iff.1 hv).1; rw [List.length_take, List.length_drop, cl_len] at this; omega
  rw [List.getElem?_take_of_lt hj, List.getElem?_drop, cl_at f (12 + j) (by omega)] at hv
  cases hv
  exact h.cell (12 + j) (by omega)
set_option maxHeartbeats 8000000 in
set_option maxRecDepth 100000 in
theorem join_any (w : World) (A : Option Addr) (c : Nat) (fs : List (Nat → Int)) (h : Cens w A fs) (hf : ∀ f ∈ fs, ∀ i, 0 ≤ f i ∧ f i ≤ 1) (hl : fs.length ≤ 100000) :
    Calls Try.prog 20 #[.slice A fs.length c] w fun e w' => e = .returned (cval (sumF fs)) ∧ Below w.heap.size w w' := by
  have HN := Lib.hid h
  have HL := Lib.hid hl
  have HF := Lib.hid hf
  have HR0 : Hid (CAt ((w.alloc czero).alloc czero) w.heap.size (fun _ => 0)) := (cat_new w).keep ((Keep.refl (fun _ => False) _).alloc _) id
  have HX0 : Hid (CAt ((w.alloc czero).alloc czero) (w.heap.size + 1) (fun _ => 0)) := by
    have := cat_new (w.alloc czero)
    rwa [World.size_alloc] at this
  have HW0 : Hid (Below w.heap.size w ((w.alloc czero).alloc czero)) := ((Below.refl _ _).alloc (Nat.le_refl _) _).alloc (by simp) _
  clear h hl hf
  go_enter Try.func20, Try.ntmps20
  go_wp2_with fail
  go_loopw [5, 6, 7, 8, 9, 12] (fun _ _ _ _ _ ix wr => ∃ k : Nat, k ≤ fs.length ∧ ix = .int .i64 k ∧ Hid (CAt wr (w.heap.size + 1) (sumF (fs.take k))) ∧ Hid (CAt wr w.heap.size (fun _ => 0)) ∧ Hid (Below w.heap.size w wr)) (fun _ _ _ _ _ ix _ => fs.length - (intOf ix).toNat)
  case atStart => exact ⟨0, Nat.zero_le _, rfl, HX0, HR0, HW0⟩
  case round =>
    obtain ⟨k, hk, rfl, HX, HR, HW⟩ := hrel
    clear HR0 HX0 HW0
    by_cases hlt : k < fs.length
    case neg =>
      have HE : Hid (sumF (fs.take k) = sumF fs) := by unfold Hid; rw [List.take_of_length_le (by omega)]
      rw [HE.out] at HX
      have HST := Lib.hid (HR.out.sets (sumF fs))
      have HWS : Hid (Below w.heap.size w (wr.setCells w.heap.size 0 (cl (sumF fs)))) := (Keep.setCells (S := fun y => y = w.heap.size) rfl _ _ _ (Keep.of_below (by simpa using HW.out) _)).below (Nat.le_refl _) (fun y e => by omega)
      have hst := store_cl HR.out (sumF fs)
      have hlen := cl_len (sumF fs)
      clear HE
      go_wp2_with (first
        | (refine wpList_load_mid rfl 38 _ rfl (w.heap.size + 1) 0 rfl (cl (sumF fs)) _ HX.out.at_ Try.underlying38 rfl (census_size _) ?_))
      exact bodyPost_ret (results_cell_mid Try.results20 _ _ w.heap.size (cl (sumF fs)) _ rfl HST.out.at_ Try.underlying38 rfl (census_size _)) rfl ⟨rfl, HWS.out⟩
    obtain ⟨f, hfk⟩ : ∃ f, fs[k]? = some f := ⟨_, List.getElem?_eq_getElem hlt⟩
    obtain ⟨g, rfl, hgl, hgc⟩ := HN.out.at_ (by omega)
    have HGR : Hid (wr.rangeAt g (k * 24) (cl f)) := fun j v hv => by
      have hj : j < 24 := by have := (List.getElem?_eq_some_iff.1 hv).1; rwa [cl_len] at this
      rw [cl_at f j hj] at hv
      cases hv
      exact (HW.out.cell (p := ⟨g, k * 24 + j, none⟩) hgl).trans (hgc k f hfk j hj)
    obtain ⟨S, hS⟩ : ∃ S : Nat → Int, S = sumF (fs.take k) := ⟨_, rfl⟩
    rw [← hS] at HX
    have HSB : Hid (∀ i, 0 ≤ S i ∧ S i ≤ 100000 ∧ 0 ≤ f i ∧ f i ≤ 1) := fun i => by
      have h1 := sumF_bd (fs.take k) i (fun g hg => HF.out g (List.mem_of_mem_take hg) i)
      have h2 : (fs.take k).length ≤ fs.length := by simp; omega
      have h3 := HL.out
      have h4 := HF.out f (List.mem_of_getElem? hfk) i
      rw [hS]
      omega
    have HSN : Hid (∀ i, S i + f i = sumF (fs.take (k + 1)) i) := fun i => by
      have e : fs.take (k + 1) = fs.take k ++ [f] := by rw [List.take_add_one, hfk]; rfl
      rw [e, sumF_snoc, hS]
    obtain ⟨yb, hyb⟩ : ∃ yb, yb = wr.heap.size := ⟨_, rfl⟩
    have hlx := HX.out.lt
    have HYN : Hid (¬ yb = w.heap.size + 1) := by unfold Hid; omega
    have HYN2 : Hid (¬ yb = w.heap.size) := by unfold Hid; omega
    have HYZ : Hid (w.heap.size ≤ yb) := by unfold Hid; omega
    have HYa := cat_new wr
    have HXa := HX.out.keep ((Keep.refl (fun _ => False) wr).alloc czero) id
    have HRa := HR.out.keep ((Keep.refl (fun _ => False) wr).alloc czero) id
    have HWa := HW.out.alloc HW.out.size czero
    rw [← hyb] at HYa
    have hst := store_cl HYa f
    rw [hyb] at hst
    have hlen := cl_len f
    have HYb := Lib.hid (HYa.sets f)
    have HKb : Keep (fun y => y = yb) (wr.alloc czero) ((wr.alloc czero).setCells yb 0 (cl f)) := Keep.setCells (S := fun y => y = yb) rfl _ _ _ (Keep.refl _ _)
    have HXb := Lib.hid (HXa.keep HKb (fun e => by omega))
    have HRb := Lib.hid (HRa.keep HKb (fun e => by omega))
    have HWb : Hid (Below w.heap.size w ((wr.alloc czero).setCells yb 0 (cl f))) := HWa.trans (HKb.below (by have := HWa.size; omega) (fun y e => by omega))
    have sk : IntKind.i64.wrap ((k : Int) + 1) = (k : Int) + 1 := IntWalk.i64_in _ (by have := HL.out; omega)
    obtain ⟨W1, hW1⟩ : ∃ W1, W1 = (wr.alloc czero).setCells yb 0 (cl f) := ⟨_, rfl⟩
    rw [← hW1] at HYb HXb HRb HWb
    have HYc := Lib.hid hyb
    rw [← hyb, ← hW1] at hst
    rw [hyb] at hst
    clear HYa HXa HRa HWa HKb hgc hgl hfk hS hlx HX HR HW hW1 hyb
    go_wp2_with (first
      | (guard_target =~ wpList _ _ _ (Oper.mk _ (Op.load 38 _) _ _ _ _ :: _) _ _; refine wpList_load_mid rfl 38 _ rfl g (k * 24) rfl (cl f) _ HGR.out Try.underlying38 rfl (census_size _) ?_)
      | (guard_target =~ wpList _ _ _ (Oper.mk _ (Op.load 35 _) _ _ _ _ :: _) _ _; refine wpList_load_mid rfl 35 _ rfl wr.heap.size 0 rfl ((cl f).take 12) _ (range_12 (by rw [← HYc.out]; exact HYb.out)) Try.underlying35 rfl (by rw [List.length_take, cl_len]; kernel_rfl) ?_))
    rw [← HYc.out]
    go_loopw [6, 7, 18] (fun _ _ jx wr => ∃ k2 : Nat, k2 ≤ 12 ∧ jx = .int .i64 k2 ∧ Hid (CAt wr (w.heap.size + 1) (fun i => if i < k2 then S i + f i else S i)) ∧ Hid (CAt wr w.heap.size (fun _ => 0)) ∧ Hid (CAt wr yb f) ∧ Hid (Below w.heap.size w wr)) (fun _ _ jx _ => 12 - (intOf jx).toNat)
    case atStart => exact ⟨0, by omega, rfl, by simpa using HXb, HRb, HYb, HWb⟩
    case round =>
      obtain ⟨k2, hk2, rfl, HX, HR, HY, HW⟩ := hrel
      by_cases hlt2 : k2 < 12
      · have c0 : wr.cell? ⟨w.heap.size + 1, k2, none⟩ = some (.int .i64 (S (k2))) := by
          have := HX.out.cell (k2) (by omega)
          rwa [if_neg (by omega)] at this
        have g0 := HX.out.frozen (k2) (by omega)
        have hx2 := HX.out.set (k2) (by omega) (S (k2) + f (k2))
        have hlx := HX.out.lt
        have HX' : Hid (CAt (wr.setCell ⟨w.heap.size + 1, k2, none⟩ (.int .i64 (S (k2) + f (k2)))) (w.heap.size + 1) (fun i => if i < (k2 + 1) then S i + f i else S i)) := hx2.congr (fun i _ => by
          by_cases e : i = k2
          · subst e; rw [if_pos rfl, if_pos (by omega)]
          · rw [if_neg e]
            by_cases e2 : i < k2
            · rw [if_pos e2, if_pos (by omega)]
            · rw [if_neg e2, if_neg (by omega)])
        have HR' : Hid (CAt (wr.setCell ⟨w.heap.size + 1, k2, none⟩ (.int .i64 (S (k2) + f (k2)))) w.heap.size (fun _ => 0)) := HR.out.keep (Keep.setCell (S := fun y => y = w.heap.size + 1) (Keep.refl _ _) (Or.inl rfl) _) (fun e => by omega)
        have HY' : Hid (CAt (wr.setCell ⟨w.heap.size + 1, k2, none⟩ (.int .i64 (S (k2) + f (k2)))) yb f) := HY.out.keep (Keep.setCell (S := fun y => y = w.heap.size + 1) (Keep.refl _ _) (Or.inl rfl) _) (fun e => HYN.out e)
        have HW' : Hid (Below w.heap.size w (wr.setCell ⟨w.heap.size + 1, k2, none⟩ (.int .i64 (S (k2) + f (k2))))) := HW.out.setCell (p := ⟨w.heap.size + 1, k2, none⟩) (by simp) _
        have hix := fun w' : World => index_12 w' f k2 hlt2
        have s0 : IntKind.i64.wrap (S (k2) + f (k2)) = S (k2) + f (k2) := IntWalk.i64_in _ (by have := HSB.out (k2); omega)
        have dl2 : decide ((k2 : Int) < 12) = true := by simp; omega
        have i1 : (0 : Int) ≤ (k2 : Int) := by omega
        have i2 : (k2 : Int) < 12 := by omega
        have sk2 : IntKind.i64.wrap ((k2 : Int) + 1) = (k2 : Int) + 1 := IntWalk.i64_in _ (by omega)
        clear hx2 hlx
        go_wp2_with fail
        go_roundw
        case rel => exact ⟨k2 + 1, by omega, by go_num, HX', HR', HY', HW'⟩
        case measure => (simp [intOf] <;> omega)
      have dl2 : decide ((k2 : Int) < 12) = false := by simp; omega
      have hke : k2 = 12 := by omega
      rw [hke] at HX
      clear hk2 hlt2 hke
      have HX2 := HX
      have HR2 := HR
      have HY2 := HY
      have HW2 := HW
      clear HX HR HY HW
      go_wp2_with (first
        | (guard_target =~ wpList _ _ _ (Oper.mk _ (Op.load 36 _) _ _ _ _ :: _) _ _; refine wpList_load_mid rfl 36 _ rfl yb 12 rfl (((cl f).drop 12).take 7) _ (range_7 HY2.out) Try.underlying36 rfl (by rw [List.length_take, List.length_drop, cl_len]; kernel_rfl) ?_))
      clear dl2
      go_loopw [8, 9, 33] (fun _ _ jx wr => ∃ k3 : Nat, k3 ≤ 7 ∧ jx = .int .i64 k3 ∧ Hid (CAt wr (w.heap.size + 1) (fun i => if i < 12 + k3 then S i + f i else S i)) ∧ Hid (CAt wr w.heap.size (fun _ => 0)) ∧ Hid (CAt wr yb f) ∧ Hid (Below w.heap.size w wr)) (fun _ _ jx _ => 7 - (intOf jx).toNat)
      case atStart => exact ⟨0, by omega, rfl, HX2, HR2, HY2, HW2⟩
      case round =>
        obtain ⟨k3, hk3, rfl, HX, HR, HY, HW⟩ := hrel
        by_cases hlt2 : k3 < 7
        · have c0 : wr.cell? ⟨w.heap.size + 1, 12 + k3, none⟩ = some (.int .i64 (S (12 + k3))) := by
            have := HX.out.cell (12 + k3) (by omega)
            rwa [if_neg (by omega)] at this
          have g0 := HX.out.frozen (12 + k3) (by omega)
          have hx2 := HX.out.set (12 + k3) (by omega) (S (12 + k3) + f (12 + k3))
          have hlx := HX.out.lt
          have HX' : Hid (CAt (wr.setCell ⟨w.heap.size + 1, 12 + k3, none⟩ (.int .i64 (S (12 + k3) + f (12 + k3)))) (w.heap.size + 1) (fun i => if i < 12 + (k3 + 1) then S i + f i else S i)) := hx2.congr (fun i _ => by
            by_cases e : i = 12 + k3
            · subst e; rw [if_pos rfl, if_pos (by omega)]
            · rw [if_neg e]
              by_cases e2 : i < 12 + k3
              · rw [if_pos e2, if_pos (by omega)]
              · rw [if_neg e2, if_neg (by omega)])
          have HR' : Hid (CAt (wr.setCell ⟨w.heap.size + 1, 12 + k3, none⟩ (.int .i64 (S (12 + k3) + f (12 + k3)))) w.heap.size (fun _ => 0)) := HR.out.keep (Keep.setCell (S := fun y => y = w.heap.size + 1) (Keep.refl _ _) (Or.inl rfl) _) (fun e => by omega)
          have HY' : Hid (CAt (wr.setCell ⟨w.heap.size + 1, 12 + k3, none⟩ (.int .i64 (S (12 + k3) + f (12 + k3)))) yb f) := HY.out.keep (Keep.setCell (S := fun y => y = w.heap.size + 1) (Keep.refl _ _) (Or.inl rfl) _) (fun e => HYN.out e)
          have HW' : Hid (Below w.heap.size w (wr.setCell ⟨w.heap.size + 1, 12 + k3, none⟩ (.int .i64 (S (12 + k3) + f (12 + k3))))) := HW.out.setCell (p := ⟨w.heap.size + 1, 12 + k3, none⟩) (by simp) _
          have hix := fun w' : World => index_7 w' f k3 hlt2
          have s0 : IntKind.i64.wrap (S (12 + k3) + f (12 + k3)) = S (12 + k3) + f (12 + k3) := IntWalk.i64_in _ (by have := HSB.out (12 + k3); omega)
          have dl2 : decide ((k3 : Int) < 7) = true := by simp; omega
          have i1 : (0 : Int) ≤ (k3 : Int) := by omega
          have i2 : (k3 : Int) < 7 := by omega
          have sk3 : IntKind.i64.wrap ((k3 : Int) + 1) = (k3 : Int) + 1 := IntWalk.i64_in _ (by omega)
          clear hx2 hlx
          go_wp2_with fail
          go_roundw
          case rel => exact ⟨k3 + 1, by omega, by go_num, HX', HR', HY', HW'⟩
          case measure => (simp [intOf] <;> omega)
        have dl2 : decide ((k3 : Int) < 7) = false := by simp; omega
        have hke : k3 = 7 := by omega
        rw [hke] at HX
        clear hk3 hlt2 hke
        have e19 : wr.cell? ⟨w.heap.size + 1, 19, none⟩ = some (.int .i64 (S 19)) := by have := HX.out.cell 19 (by omega); rwa [if_neg (by omega)] at this
        have e20 : wr.cell? ⟨w.heap.size + 1, 20, none⟩ = some (.int .i64 (S 20)) := by have := HX.out.cell 20 (by omega); rwa [if_neg (by omega)] at this
        have e21 : wr.cell? ⟨w.heap.size + 1, 21, none⟩ = some (.int .i64 (S 21)) := by have := HX.out.cell 21 (by omega); rwa [if_neg (by omega)] at this
        have e22 : wr.cell? ⟨w.heap.size + 1, 22, none⟩ = some (.int .i64 (S 22)) := by have := HX.out.cell 22 (by omega); rwa [if_neg (by omega)] at this
        have e23 : wr.cell? ⟨w.heap.size + 1, 23, none⟩ = some (.int .i64 (S 23)) := by have := HX.out.cell 23 (by omega); rwa [if_neg (by omega)] at this
        have g19 := HX.out.frozen 19 (by omega)
        have g20 := HX.out.frozen 20 (by omega)
        have g21 := HX.out.frozen 21 (by omega)
        have g22 := HX.out.frozen 22 (by omega)
        have g23 := HX.out.frozen 23 (by omega)
        have y19 := HY.out.cell 19 (by omega)
        have y20 := HY.out.cell 20 (by omega)
        have y21 := HY.out.cell 21 (by omega)
        have y22 := HY.out.cell 22 (by omega)
        have y23 := HY.out.cell 23 (by omega)
        have s19 : IntKind.i64.wrap (S 19 + f 19) = S 19 + f 19 := IntWalk.i64_in _ (by have := HSB.out 19; omega)
        have s20 : IntKind.i64.wrap (S 20 + f 20) = S 20 + f 20 := IntWalk.i64_in _ (by have := HSB.out 20; omega)
        have s21 : IntKind.i64.wrap (S 21 + f 21) = S 21 + f 21 := IntWalk.i64_in _ (by have := HSB.out 21; omega)
        have s22 : IntKind.i64.wrap (S 22 + f 22) = S 22 + f 22 := IntWalk.i64_in _ (by have := HSB.out 22; omega)
        have s23 : IntKind.i64.wrap (S 23 + f 23) = S 23 + f 23 := IntWalk.i64_in _ (by have := HSB.out 23; omega)
        have HC1 := (((((HX.out.set 19 (by omega) (S 19 + f 19)).set 20 (by omega) (S 20 + f 20)).set 21 (by omega) (S 21 + f 21)).set 22 (by omega) (S 22 + f 22)).set 23 (by omega) (S 23 + f 23))
        have HC2 : Hid (CAt (((((wr.setCell ⟨w.heap.size + 1, 19, none⟩ (.int .i64 (S 19 + f 19))).setCell ⟨w.heap.size + 1, 20, none⟩ (.int .i64 (S 20 + f 20))).setCell ⟨w.heap.size + 1, 21, none⟩ (.int .i64 (S 21 + f 21))).setCell ⟨w.heap.size + 1, 22, none⟩ (.int .i64 (S 22 + f 22))).setCell ⟨w.heap.size + 1, 23, none⟩ (.int .i64 (S 23 + f 23))) (w.heap.size + 1) (sumF (fs.take (k + 1)))) := HC1.congr (fun i hi => (five_at S f i hi).trans (HSN.out i))
        have HKK : Keep (fun y => y = w.heap.size + 1) wr (((((wr.setCell ⟨w.heap.size + 1, 19, none⟩ (.int .i64 (S 19 + f 19))).setCell ⟨w.heap.size + 1, 20, none⟩ (.int .i64 (S 20 + f 20))).setCell ⟨w.heap.size + 1, 21, none⟩ (.int .i64 (S 21 + f 21))).setCell ⟨w.heap.size + 1, 22, none⟩ (.int .i64 (S 22 + f 22))).setCell ⟨w.heap.size + 1, 23, none⟩ (.int .i64 (S 23 + f 23))) :=
          (((((Keep.refl (fun y => y = w.heap.size + 1) wr).setCell (p := ⟨w.heap.size + 1, 19, none⟩) (Or.inl rfl) _).setCell (p := ⟨w.heap.size + 1, 20, none⟩) (Or.inl rfl) _).setCell (p := ⟨w.heap.size + 1, 21, none⟩) (Or.inl rfl) _).setCell (p := ⟨w.heap.size + 1, 22, none⟩) (Or.inl rfl) _).setCell (p := ⟨w.heap.size + 1, 23, none⟩) (Or.inl rfl) _
        have HRE := Lib.hid (HR.out.keep HKK (fun e => by omega))
        have HWE := Lib.hid (HW.out.trans (HKK.below HW.out.size (fun y e => by omega)))
        clear HC1 HKK
        go_wp2_with fail
        go_roundw
        case rel => exact ⟨k + 1, by omega, by go_num, HC2, HRE, HWE⟩
        case measure => (simp [intOf] <;> omega)
end Go.Proofs.Ytoapbfglpcebmaa

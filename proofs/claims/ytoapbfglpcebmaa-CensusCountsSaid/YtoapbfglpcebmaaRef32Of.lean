/- The contract of mudlarkref32.Of. -/
import Derived.Test.YtoapbfglpcebmaaRef32
namespace Go.Proofs.Ytoapbfglpcebmaa
open Go Go.RowKit
set_option linter.unusedSimpArgs false
set_option linter.unusedVariables false

def f0 (a b c d e : Int) (i : Nat) : Int := if i = 19 then a else if i = 20 then b else if i = 21 then c else if i = 22 then d else if i = 23 then e else 0
theorem cl_f0 (a b c d e : Int) : (cl (f0 a b c d e)).toArray = #[.int .i64 0, .int .i64 0, .int .i64 0, .int .i64 0, .int .i64 0, .int .i64 0, .int .i64 0, .int .i64 0, .int .i64 0, .int .i64 0, .int .i64 0, .int .i64 0, .int .i64 0, .int .i64 0, .int .i64 0, .int .i64 0, .int .i64 0, .int .i64 0, .int .i64 0, .int .i64 a, .int .i64 b, .int .i64 c, .int .i64 d, .int .i64 e] := rfl
theorem cat_block {w : World} {b : Nat} {f : Nat → Int} (h : w.heap[b]? = some (.cells (cl f).toArray 38)) : CAt w b f := CAt.of (fun i hi => by
  refine ⟨?_, frozen_of_block h i⟩
  rw [cell_of_block h i, List.getElem?_toArray]
  exact cl_at f i hi)
theorem built_census (a b c d e : Int) : Try.prog.built 38 [(2, .int .i64 a), (3, .int .i64 b), (4, .int .i64 c), (5, .int .i64 d), (6, .int .i64 e)] = some #[.int .i64 0, .int .i64 0, .int .i64 0, .int .i64 0, .int .i64 0, .int .i64 0, .int .i64 0, .int .i64 0, .int .i64 0, .int .i64 0, .int .i64 0, .int .i64 0, .int .i64 0, .int .i64 0, .int .i64 0, .int .i64 0, .int .i64 0, .int .i64 0, .int .i64 0, .int .i64 a, .int .i64 b, .int .i64 c, .int .i64 d, .int .i64 e] := by kernel_rfl
theorem wpList_build_at {P : Program} {ops : Array Oper} {rest : List Oper} {o : Oper} {a : Act} {w : World} {Q : Exit → Act → World → Prop} (hg : o.guard = none) (t : TypeId) (parts : Array (Nat × Operand)) (ho : o.op = .build t parts)
    (cells : Array Value) (hc : P.built t (parts.map fun (i, x) => (i, a.eval x)).toList = some cells) (h : wpList P ops Q rest (a.put o.dst (.agg cells)) w) : wpList P ops Q (o :: rest) a w :=
  wpList_build hg t parts ho (by rw [hc]; rfl) (by rw [hc]; exact h)
theorem cen_many (l : List Nt) : cntP (fun t => decide (t.what = 2)) l = cen l 19 ∧ cntP (fun t => decide (t.what = 5)) l = cen l 21 ∧ cntP (fun t => decide (t.what = 4)) l = cen l 22 ∧ cntP (fun t => decide (t.what = 6)) l = cen l 23 ∧ cntP (fun t => decide (t.what = 2) && decide (t.op.kind = 3) && decide (t.n ≠ 5)) l = cen l 20 := by
  unfold cntP cen
  refine ⟨?_, ?_, ?_, ?_, ?_⟩
  all_goals
    congr 1
    refine List.countP_congr (fun t _ => ?_)
    by_cases hw : 1 ≤ t.what ∧ t.what ≤ 6
    · have h1 := wthin_lt t.op.kind 12 (by omega)
      have h3 := wthin_lt t.n 7 (by omega)
      obtain e | e | e | e | e | e : t.what = 1 ∨ t.what = 2 ∨ t.what = 3 ∨ t.what = 4 ∨ t.what = 5 ∨ t.what = 6 := by omega
      · rw [hit_1 e]; simp [e]; try omega
      · rw [hit_2 e]; simp [e]
      · rw [hit_3 e]; simp [e]; try omega
      · rw [hit_4 e]; simp [e]
      · rw [hit_5 e]; simp [e]
      · rw [hit_6 e]; simp [e]
    · rw [hit_0 hw]
      have h2 : ¬ t.what = 2 := by omega
      have h4 : ¬ t.what = 4 := by omega
      have h5 : ¬ t.what = 5 := by omega
      have h6 : ¬ t.what = 6 := by omega
      simp [h2, h4, h5, h6]
theorem cen_calls (l : List Nt) (k : Nat) (hk : k < 12) : cntP (fun t => decide (t.what = 1) && decide (wthin t.op.kind 12 = (k : Int))) l = cen l k := by
  unfold cntP cen
  congr 1
  refine List.countP_congr (fun t _ => ?_)
  by_cases hw : 1 ≤ t.what ∧ t.what ≤ 6
  · have h3 := wthin_lt t.n 7 (by omega)
    obtain e | e | e | e | e | e : t.what = 1 ∨ t.what = 2 ∨ t.what = 3 ∨ t.what = 4 ∨ t.what = 5 ∨ t.what = 6 := by omega
    · rw [hit_1 e]; simp [e]; exact ⟨fun h => h.symm, fun h => h.symm⟩
    · rw [hit_2 e]; simp [e]; omega
    · rw [hit_3 e]; simp [e]; omega
    · rw [hit_4 e]; simp [e]; omega
    · rw [hit_5 e]; simp [e]; omega
    · rw [hit_6 e]; simp [e]; omega
  · rw [hit_0 hw]
    have h2 : ¬ t.what = 1 := by omega
    simp [h2]
theorem cen_rets (l : List Nt) (k : Nat) (hk : k < 7) : cntP (fun t => decide (t.what = 3) && decide (wthin t.n 7 = (k : Int))) l = cen l (12 + k) := by
  unfold cntP cen
  congr 1
  refine List.countP_congr (fun t _ => ?_)
  by_cases hw : 1 ≤ t.what ∧ t.what ≤ 6
  · have h3 := wthin_lt t.op.kind 12 (by omega)
    obtain e | e | e | e | e | e : t.what = 1 ∨ t.what = 2 ∨ t.what = 3 ∨ t.what = 4 ∨ t.what = 5 ∨ t.what = 6 := by omega
    · rw [hit_1 e]; simp [e]; omega
    · rw [hit_2 e]; simp [e]; omega
    · rw [hit_3 e]; simp [e]; omega
    · rw [hit_4 e]; simp [e]; omega
    · rw [hit_5 e]; simp [e]; omega
    · rw [hit_6 e]; simp [e]; omega
  · rw [hit_0 hw]
    have h2 : ¬ t.what = 3 := by omega
    simp [h2]
set_option maxHeartbeats 4000000 in
set_option maxRecDepth 100000 in
theorem rof_any (w : World) (B : Nat) (A : Option Addr) (c : Nat) (l : List Nt) (h : Nts w B A l) (hB : B ≤ w.heap.size) (hl : l.length ≤ 100000) :
    Calls Try.prog 17 #[.slice A l.length c] w fun e w' => e = .returned (cval (cen l)) ∧ Below w.heap.size w w' := by
  have HN1 := Lib.hid (h.below (((Below.refl w.heap.size w).alloc (Nat.le_refl _) czero).mono hB))
  have HL := Lib.hid hl
  have HBB := Lib.hid hB
  have HR1 := Lib.hid (cat_new w)
  have HW1 : Hid (Below w.heap.size w (w.alloc czero)) := (Below.refl _ _).alloc (Nat.le_refl _) _
  have HSZ : Hid ((w.alloc czero).heap.size = w.heap.size + 1) := by unfold Hid; simp
  have HN := Lib.hid h
  obtain ⟨e2, e5, e4, e6, et⟩ := cen_many l
  obtain ⟨n2, h2⟩ : ∃ n, n = cen l 19 := ⟨_, rfl⟩
  obtain ⟨nt, ht⟩ : ∃ n, n = cen l 20 := ⟨_, rfl⟩
  obtain ⟨n5, h5⟩ : ∃ n, n = cen l 21 := ⟨_, rfl⟩
  obtain ⟨n4, h4⟩ : ∃ n, n = cen l 22 := ⟨_, rfl⟩
  obtain ⟨n6, h6⟩ : ∃ n, n = cen l 23 := ⟨_, rfl⟩
  rw [← h2] at e2
  rw [← ht] at et
  rw [← h5] at e5
  rw [← h4] at e4
  rw [← h6] at e6
  have N2 := Lib.hid h2
  have NTk := Lib.hid ht
  have N5 := Lib.hid h5
  have N4 := Lib.hid h4
  have N6 := Lib.hid h6
  have E2 := Lib.hid e2
  have E5 := Lib.hid e5
  have E4 := Lib.hid e4
  have E6 := Lib.hid e6
  have ET := Lib.hid et
  clear h hl hB e2 e5 e4 e6 et h2 ht h5 h4 h6
  go_enter Try.func17, Try.ntmps17
  go_wp2_with fail
  refine (many_any _ B A c l HN1.out HL.out 2).mono ?_
  rintro e w9 ⟨rfl, hw9⟩
  obtain rfl := hw9.symm
  clear hw9
  rw [E2.out]
  go_wp2_with fail
  refine (takes_any _ B A c l HN1.out HL.out).mono ?_
  rintro e w9 ⟨rfl, hw9⟩
  obtain rfl := hw9.symm
  clear hw9
  rw [ET.out]
  go_wp2_with fail
  refine (many_any _ B A c l HN1.out HL.out 5).mono ?_
  rintro e w9 ⟨rfl, hw9⟩
  obtain rfl := hw9.symm
  clear hw9
  rw [E5.out]
  go_wp2_with fail
  refine (many_any _ B A c l HN1.out HL.out 4).mono ?_
  rintro e w9 ⟨rfl, hw9⟩
  obtain rfl := hw9.symm
  clear hw9
  rw [E4.out]
  go_wp2_with fail
  refine (many_any _ B A c l HN1.out HL.out 6).mono ?_
  rintro e w9 ⟨rfl, hw9⟩
  obtain rfl := hw9.symm
  clear hw9
  rw [E6.out]
  obtain ⟨g, hg⟩ : ∃ g : Nat → Int, g = f0 n2 nt n5 n4 n6 := ⟨_, rfl⟩
  have HG := Lib.hid hg
  have HR2 : Hid (CAt ((w.alloc czero).alloc czero) w.heap.size (fun _ => 0)) := HR1.out.keep ((Keep.refl (fun _ => False) _).alloc _) id
  have HZ2 : Hid (CAt ((w.alloc czero).alloc czero) (w.heap.size + 1) (fun _ => 0)) := by
    have := cat_new (w.alloc czero)
    rwa [HSZ.out] at this
  have hst := store_cl HZ2.out g
  have hlen := cl_len g
  have HX3 := Lib.hid (HZ2.out.sets g)
  have HR3 : Hid (CAt (((w.alloc czero).alloc czero).setCells (w.heap.size + 1) 0 (cl g)) w.heap.size (fun _ => 0)) := HR2.out.keep (Keep.setCells (S := fun y => y = w.heap.size + 1) rfl _ _ _ (Keep.refl _ _)) (fun e => by omega)
  have HW3 : Hid (Below w.heap.size w (((w.alloc czero).alloc czero).setCells (w.heap.size + 1) 0 (cl g))) := (Keep.setCells (S := fun y => y = w.heap.size + 1) rfl _ _ _ ((((Keep.refl _ _).alloc _).alloc _))).below (Nat.le_refl _) (fun y e => by omega)
  have HBU : Hid (Try.prog.built 38 [(2, .int .i64 n2), (3, .int .i64 nt), (4, .int .i64 n5), (5, .int .i64 n4), (6, .int .i64 n6)] = some (cl g).toArray) := by unfold Hid; rw [hg, cl_f0]; exact built_census _ _ _ _ _
  clear hg
  go_wp2_with (first
    | (refine wpList_build_at rfl 38 _ rfl (cl g).toArray (by simpa [Act.eval] using HBU.out) ?_))
  go_loopw [4] (fun i wr => ∃ k : Nat, k ≤ 12 ∧ i = .int .i64 k ∧ Hid (CAt wr (w.heap.size + 1) (fun i => if i < k then cen l i else g i)) ∧ Hid (CAt wr w.heap.size (fun _ => 0)) ∧ Hid (Below w.heap.size w wr)) (fun i _ => 12 - (intOf i).toNat)
  case atStart => exact ⟨0, by omega, rfl, HX3.out.congr (fun i _ => by simp), HR3, HW3⟩
  case round =>
    obtain ⟨k, hk, rfl, HX, HR, HW⟩ := hrel
    clear hst
    by_cases hlt : k < 12
    · have c0 := HX.out.cell k (by omega)
      have g0 := HX.out.frozen k (by omega)
      have hx2 := HX.out.set k (by omega) (cen l k)
      have hlx := HX.out.lt
      have HX' : Hid (CAt (wr.setCell ⟨w.heap.size + 1, k, none⟩ (.int .i64 (cen l k))) (w.heap.size + 1) (fun i => if i < k + 1 then cen l i else g i)) := hx2.congr (fun i _ => by
        by_cases e : i = k
        · subst e; simp
        · rw [if_neg e]
          by_cases e2 : i < k
          · rw [if_pos e2, if_pos (by omega)]
          · rw [if_neg e2, if_neg (by omega)])
      have HR' : Hid (CAt (wr.setCell ⟨w.heap.size + 1, k, none⟩ (.int .i64 (cen l k))) w.heap.size (fun _ => 0)) := HR.out.keep (Keep.setCell (S := fun y => y = w.heap.size + 1) (Keep.refl _ _) (Or.inl rfl) _) (fun e => by omega)
      have HW' : Hid (Below w.heap.size w (wr.setCell ⟨w.heap.size + 1, k, none⟩ (.int .i64 (cen l k)))) := HW.out.setCell (p := ⟨w.heap.size + 1, k, none⟩) (by simp) _
      have HNR := Lib.hid (HN.out.below (HW.out.mono HBB.out))
      have HCK := Lib.hid (cen_calls l k hlt)
      have dl : decide ((k : Int) < 12) = true := by simp; omega
      have i1 : (0 : Int) ≤ (k : Int) := by omega
      have i2 : (k : Int) < 12 := by omega
      have sk : IntKind.i64.wrap ((k : Int) + 1) = (k : Int) + 1 := IntWalk.i64_in _ (by omega)
      clear hx2 hlx
      go_wp2_with fail
      refine (rcalls_any _ B A c l HNR.out HL.out k).mono ?_
      rintro e w9 ⟨rfl, hw9⟩
      obtain rfl := hw9.symm
      clear hw9
      rw [HCK.out]
      go_wp2_with fail
      go_roundw
      case rel => exact ⟨k + 1, by omega, by go_num, HX', HR', HW'⟩
      case measure => (simp [intOf] <;> omega)
    have dl : decide ((k : Int) < 12) = false := by simp; omega
    have hk12 : k = 12 := by omega
    rw [hk12] at HX
    clear hk hlt hk12
    go_wp2_with fail
    clear dl
    have HX0 := HX
    have HR0 := HR
    have HW0 := HW
    clear HX HR HW
    go_loopw [5] (fun i wr => ∃ k : Nat, k ≤ 7 ∧ i = .int .i64 k ∧ Hid (CAt wr (w.heap.size + 1) (fun i => if i < 12 + k then cen l i else g i)) ∧ Hid (CAt wr w.heap.size (fun _ => 0)) ∧ Hid (Below w.heap.size w wr)) (fun i _ => 7 - (intOf i).toNat)
    case atStart => exact ⟨0, by omega, rfl, HX0, HR0, HW0⟩
    case round =>
      obtain ⟨k, hk, rfl, HX, HR, HW⟩ := hrel
      clear HX0 HR0 HW0
      by_cases hlt : k < 7
      · have c0 := HX.out.cell (12 + k) (by omega)
        have g0 := HX.out.frozen (12 + k) (by omega)
        have hx2 := HX.out.set (12 + k) (by omega) (cen l (12 + k))
        have hlx := HX.out.lt
        have HX' : Hid (CAt (wr.setCell ⟨w.heap.size + 1, 12 + k, none⟩ (.int .i64 (cen l (12 + k)))) (w.heap.size + 1) (fun i => if i < 12 + (k + 1) then cen l i else g i)) := hx2.congr (fun i _ => by
          by_cases e : i = 12 + k
          · subst e; rw [if_pos rfl, if_pos (by omega)]
          · rw [if_neg e]
            by_cases e2 : i < 12 + k
            · rw [if_pos e2, if_pos (by omega)]
            · rw [if_neg e2, if_neg (by omega)])
        have HR' : Hid (CAt (wr.setCell ⟨w.heap.size + 1, 12 + k, none⟩ (.int .i64 (cen l (12 + k)))) w.heap.size (fun _ => 0)) := HR.out.keep (Keep.setCell (S := fun y => y = w.heap.size + 1) (Keep.refl _ _) (Or.inl rfl) _) (fun e => by omega)
        have HW' : Hid (Below w.heap.size w (wr.setCell ⟨w.heap.size + 1, 12 + k, none⟩ (.int .i64 (cen l (12 + k))))) := HW.out.setCell (p := ⟨w.heap.size + 1, 12 + k, none⟩) (by simp) _
        have HNR := Lib.hid (HN.out.below (HW.out.mono HBB.out))
        have HCK := Lib.hid (cen_rets l k hlt)
        have dl : decide ((k : Int) < 7) = true := by simp; omega
        have i1 : (0 : Int) ≤ (k : Int) := by omega
        have i2 : (k : Int) < 7 := by omega
        have sk : IntKind.i64.wrap ((k : Int) + 1) = (k : Int) + 1 := IntWalk.i64_in _ (by omega)
        clear hx2 hlx
        go_wp2_with fail
        refine (rreturns_any _ B A c l HNR.out HL.out k).mono ?_
        rintro e w9 ⟨rfl, hw9⟩
        obtain rfl := hw9.symm
        clear hw9
        rw [HCK.out]
        go_wp2_with fail
        go_roundw
        case rel => exact ⟨k + 1, by omega, by go_num, HX', HR', HW'⟩
        case measure => (simp [intOf] <;> omega)
      have dl : decide ((k : Int) < 7) = false := by simp; omega
      obtain rfl : k = 7 := by omega
      have HXF : Hid (CAt wr (w.heap.size + 1) (cen l)) := HX.out.congr (fun i hi => by
        by_cases e : i < 12 + 7
        · rw [if_pos e]
        · rw [if_neg e, HG.out]
          obtain e | e | e | e | e : i = 19 ∨ i = 20 ∨ i = 21 ∨ i = 22 ∨ i = 23 := by omega
          all_goals
            subst e
            simp [f0, N2.out, NTk.out, N5.out, N4.out, N6.out])
      have hz := HX.out.lt
      have HST := Lib.hid (HR.out.sets (cen l))
      have HWS : Hid (Below w.heap.size w (wr.setCells w.heap.size 0 (cl (cen l)))) := (Keep.setCells (S := fun y => y = w.heap.size) rfl _ _ _ (Keep.of_below (by simpa using HW.out) _)).below (Nat.le_refl _) (fun y e => by omega)
      have hst := store_cl HR.out (cen l)
      have hlen2 := cl_len (cen l)
      clear hk hlt
      go_wp2_with (first
        | (refine wpList_load_mid rfl 38 _ rfl (w.heap.size + 1) 0 rfl (cl (cen l)) _ HXF.out.at_ Try.underlying38 rfl (census_size _) ?_))
      exact bodyPost_ret (results_cell_mid Try.results17 _ _ w.heap.size (cl (cen l)) _ rfl HST.out.at_ Try.underlying38 rfl (census_size _)) rfl ⟨rfl, HWS.out⟩
end Go.Proofs.Ytoapbfglpcebmaa

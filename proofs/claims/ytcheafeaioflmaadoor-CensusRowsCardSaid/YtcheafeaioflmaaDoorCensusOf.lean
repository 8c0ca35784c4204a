/- The contracts of census.Of and census.By. -/
import Derived.Test.YtcheafeaioflmaaDoorNotes
import Derived.Test.YtcheafeaioflmaaDoorCensusCount
namespace Go.Proofs.YtcheafeaioflmaaDoor
open Go Go.RowKit
set_option linter.unusedSimpArgs false
set_option linter.unusedVariables false

abbrev cval (f : Nat → Int) : Value := .agg (cl f).toArray
theorem census_size (f : Nat → Int) : (Tryd.prog.info? 67).map (·.size) = some (cl f).length := by
  rw [cl_len]
  kernel_rfl
theorem census_size' (f : Nat → Int) : (Tryd.prog.info? 67).map (·.size) = some (cl f).toArray.size := by
  rw [List.size_toArray, cl_len]
  kernel_rfl
theorem results_cell_mid {fn : Func} {p : Tmp} {ty : TypeId} (h : fn.results = #[.cell p ty]) (tmps : Array Value) (w : World) (b : Nat) (cs : List Value) (d : TypeDesc)
    (hp : tmps.getD p undef = .pointer (some ⟨b, 0, none⟩)) (hc : w.rangeAt b 0 cs)
    (hu : Tryd.prog.underlying ty = some d) (hd : d.isRow = true) (hi : (Tryd.prog.info? ty).map (·.size) = some cs.length) :
    (results fn tmps).run Tryd.prog w = .ok (.agg cs.toArray) w := by
  have hp' : tmps[p]?.getD undef = .pointer (some ⟨b, 0, none⟩) := by simpa using hp
  simp [results, h, hp', asAddr, run_loadVar_mid w b 0 ty cs d hc hu hd hi]
theorem store_cl {w : World} {b : Nat} {f : Nat → Int} (h : CAt w b f) (g : Nat → Int) : (storeCells ⟨b, 0, none⟩ (cl g)).run Tryd.prog w = .ok () (w.setCells b 0 (cl g)) := by
  have := run_storeCells_cells (P := Tryd.prog) b 0 (cl g) 0 w (fun j hj => by rw [cl_len] at hj; simpa using (h.ok j hj).1) (fun j hj => by rw [cl_len] at hj; simpa using (h.ok j hj).2) (cl_one g)
  simpa using this
theorem cen_take {l : List Nt} {k : Nat} {t : Nt} (h : l[k]? = some t) (i : Nat) : bump (cen (l.take k)) t i = cen (l.take (k + 1)) i := by
  have e : l.take (k + 1) = l.take k ++ [t] := by
    rw [List.take_add_one, h]
    rfl
  rw [e, cen_snoc]
  rfl
theorem cen_bd {l : List Nt} (hl : l.length ≤ 100000) (k i : Nat) : 0 ≤ cen (l.take k) i ∧ cen (l.take k) i < 1000000 := by
  have h := cen_bound (l.take k) i
  have h2 : (l.take k).length ≤ l.length := by simp; omega
  omega
theorem cen_nil (i : Nat) : cen [] i = 0 := rfl
set_option maxHeartbeats 4000000 in
set_option maxRecDepth 100000 in
theorem cof_any (w : World) (B : Nat) (A : Option Addr) (c : Nat) (l : List Nt) (h : Nts w B A l) (hB : B ≤ w.heap.size) (hl : l.length ≤ 100000) :
    Calls Tryd.prog 87 #[.slice A l.length c] w fun e w' => e = .returned (cval (cen l)) ∧ Below w.heap.size w w' := by
  have HN := Lib.hid h
  have HL := Lib.hid hl
  have HBB := Lib.hid hB
  have HR0 : Hid (CAt ((w.alloc czero).alloc czero) w.heap.size (fun _ => 0)) := (cat_new w).keep ((Keep.refl (fun _ => False) _).alloc _) id
  have HX0 : Hid (CAt ((w.alloc czero).alloc czero) (w.heap.size + 1) (fun _ => 0)) := by
    have := cat_new (w.alloc czero)
    rwa [World.size_alloc] at this
  have HW0 : Hid (Below w.heap.size w ((w.alloc czero).alloc czero)) := ((Below.refl _ _).alloc (Nat.le_refl _) _).alloc (by simp) _
  generalize hw0 : (w.alloc czero).alloc czero = w0 at HR0 HX0 HW0
  have HW0' := Lib.hid hw0
  clear h hl hB hw0
  go_enter Tryd.func87, Tryd.ntmps87
  go_wp2_with fail
  rw [show (w.alloc czero).alloc czero = w0 from HW0'.out]
  go_loopw [5, 8] (fun _ i wr => ∃ k : Nat, k ≤ l.length ∧ i = .int .i64 k ∧ Hid (CAt wr (w.heap.size + 1) (cen (l.take k))) ∧ Hid (CAt wr w.heap.size (fun _ => 0)) ∧ Hid (Below w.heap.size w wr)) (fun _ i _ => l.length - (intOf i).toNat)
  case atStart => exact ⟨0, Nat.zero_le _, rfl, HX0, HR0, HW0⟩
  case round =>
    obtain ⟨k, hk, rfl, HX, HR, HW⟩ := hrel
    clear HR0 HX0 HW0
    by_cases hlt : k < l.length
    · obtain ⟨t, ht⟩ : ∃ t, l[k]? = some t := ⟨_, List.getElem?_eq_getElem hlt⟩
      obtain ⟨ad, rfl, hadB, hc⟩ := HN.out.cell (HW.out.mono HBB.out) ht
      obtain ⟨q0, q1, q2, q3, q4, q5, q6⟩ := hc
      have HT := Lib.hid ht
      have HWT : Hid (Below w.heap.size w (wr.alloc t.obj)) := HW.out.alloc HW.out.size _
      have HXT : Hid (CAt (wr.alloc t.obj) (w.heap.size + 1) (cen (l.take k))) := HX.out.keep ((Keep.refl (fun _ => False) _).alloc _) id
      have HRT : Hid (CAt (wr.alloc t.obj) w.heap.size (fun _ => 0)) := HR.out.keep ((Keep.refl (fun _ => False) _).alloc _) id
      have hz := HXT.out.lt
      have HZ := Lib.hid hz
      have sk : IntKind.i64.wrap ((k : Int) + 1) = (k : Int) + 1 := IntWalk.i64_in _ (by have := HL.out; omega)
      clear ht hadB
      go_wp2_with fail
      refine (count_any _ _ _ HXT.out t (fun i => cen_bd HL.out k i)).mono ?_
      rintro e w3 ⟨rfl, hx, hkk⟩
      have HX3 : Hid (CAt w3 (w.heap.size + 1) (cen (l.take (k + 1)))) := hx.congr (fun i _ => cen_take HT.out i)
      have HR3 := Lib.hid (HRT.out.keep hkk (fun e => by omega))
      have HW3 : Hid (Below w.heap.size w w3) := HWT.out.trans (hkk.below HWT.out.size (fun y e => by omega))
      clear hx hkk hz
      go_wp2_with fail
      go_roundw
      case rel => exact ⟨k + 1, by omega, by go_num, HX3, HR3, HW3⟩
      case measure => (simp [intOf] <;> omega)
    · have HE : Hid (cen (l.take k) = cen l) := by unfold Hid; rw [List.take_of_length_le (by omega)]
      rw [HE.out] at HX
      have hz := HX.out.lt
      have HST := Lib.hid (HR.out.sets (cen l))
      have HWS : Hid (Below w.heap.size w (wr.setCells w.heap.size 0 (cl (cen l)))) := (Keep.setCells (S := fun y => y = w.heap.size) rfl _ _ _ (Keep.of_below (by simpa using HW.out) _)).below (Nat.le_refl _) (fun y e => by omega)
      have hst := store_cl HR.out (cen l)
      have hlen := cl_len (cen l)
      clear HE
      go_wp2_with (first
        | (refine wpList_load_mid rfl 67 _ rfl (w.heap.size + 1) 0 rfl (cl (cen l)) _ HX.out.at_ Tryd.underlying67 rfl (census_size _) ?_))
      exact bodyPost_ret (results_cell_mid Tryd.results87 _ _ w.heap.size (cl (cen l)) _ rfl HST.out.at_ Tryd.underlying67 rfl (census_size _)) rfl ⟨rfl, HWS.out⟩
theorem cen_bd2 {l : List Nt} (hl : l.length ≤ 100000) (k i : Nat) (p : Nt → Bool) : 0 ≤ cen ((l.take k).filter p) i ∧ cen ((l.take k).filter p) i < 1000000 := by
  have h := cen_bound ((l.take k).filter p) i
  have h1 := List.length_filter_le p (l.take k)
  have h2 : (l.take k).length ≤ l.length := by simp; omega
  omega
end Go.Proofs.YtcheafeaioflmaaDoor

/- strings.Join at any strings. -/
import Derived.Test.YtipoklnoknkfhaaDoorWriteString
namespace Go.Proofs.YtipoklnoknkfhaaDoor
open Go Go.RowKit
set_option linter.unusedSimpArgs false
set_option linter.unusedVariables false

def jrest (sep : ByteArray) (ss : List ByteArray) : List UInt8 := ss.flatMap fun s => sep.data.toList ++ s.data.toList
def jbytes (sep : ByteArray) : List ByteArray → List UInt8
  | [] => []
  | s :: r => s.data.toList ++ jrest sep r
def jlen (ss : List ByteArray) : Nat := (ss.map ByteArray.size).sum
theorem jlen_take {ss : List ByteArray} {k : Nat} {s : ByteArray} (h : ss[k]? = some s) : jlen (ss.take (k + 1)) = jlen (ss.take k) + s.size := by
  unfold jlen
  rw [List.take_add_one, h]
  simp
theorem jlen_le (ss : List ByteArray) (k : Nat) : jlen (ss.take k) ≤ jlen ss := by
  unfold jlen
  conv => rhs; rw [← List.take_append_drop k ss]
  rw [List.map_append, List.sum_append]
  omega
theorem jrest_take {sep : ByteArray} {ss : List ByteArray} {k : Nat} {s : ByteArray} (h : ss[k]? = some s) : jrest sep (ss.take (k + 1)) = jrest sep (ss.take k) ++ (sep.data.toList ++ s.data.toList) := by
  unfold jrest
  rw [List.take_add_one, h]
  simp
theorem jrest_len (sep : ByteArray) : ∀ ss : List ByteArray, (jrest sep ss).length = ss.length * sep.size + jlen ss
  | [] => by simp [jrest, jlen]
  | s :: r => by
    have := jrest_len sep r
    have e1 : (jrest sep (s :: r)).length = sep.data.toList.length + s.data.toList.length + (jrest sep r).length := by simp [jrest]; omega
    have e2 : jlen (s :: r) = s.size + jlen r := by simp [jlen]
    have e3 : sep.data.toList.length = sep.size := by show _ = sep.data.size; exact Array.length_toList
    have e4 : s.data.toList.length = s.size := by show _ = s.data.size; exact Array.length_toList
    rw [e1, e2, e3, e4, this, List.length_cons, Nat.add_mul]
    omega
/-- strings lie behind a slice -/
structure Strs (w : World) (B : Nat) (A : Option Addr) (ss : List ByteArray) : Prop where
  at_ : 0 < ss.length → ∃ ad, A = some ad ∧ ad.block < B ∧ ∀ j s, ss[j]? = some s → w.cell? (ad.add j) = some (.string s)
theorem Strs.below {w w' : World} {B : Nat} {A : Option Addr} {ss : List ByteArray} (h : Strs w B A ss) (hb : Below B w w') : Strs w' B A ss := ⟨fun hp => by
  obtain ⟨ad, e, hB, hc⟩ := h.at_ hp
  exact ⟨ad, e, hB, fun j s hj => (hb.cell (by rw [block_of_add]; exact hB)).trans (hc j s hj)⟩⟩
set_option maxHeartbeats 4000000 in
set_option maxRecDepth 100000 in
theorem join_0 (w : World) (A : Option Addr) (c : Nat) (sep : ByteArray) :
    Calls Tryd.prog 99 #[.slice A 0 c, .string sep] w fun e w' => e = .returned (.string ⟨#[]⟩) ∧ Below w.heap.size w w' := by
  go_enter Tryd.func99, Tryd.ntmps99
  go_wp2_with fail
  go_ret
  exact ⟨rfl, Below.refl _ _⟩
theorem join_1 (w : World) (ad : Addr) (c : Nat) (s sep : ByteArray) (h : w.cell? ad = some (.string s)) :
    Calls Tryd.prog 99 #[.slice (some ad) 1 c, .string sep] w fun e w' => e = .returned (.string s) ∧ Below w.heap.size w w' := by
  have h0 : w.cell? (ad.add 0) = some (.string s) := by unfold Addr.add; rw [if_pos rfl]; exact h
  go_enter Tryd.func99, Tryd.ntmps99
  go_wp2_with fail
  go_ret
  exact ⟨rfl, Below.refl _ _⟩
set_option maxHeartbeats 8000000 in
set_option maxRecDepth 100000 in
theorem join_more (w : World) (A : Option Addr) (c : Nat) (ss : List ByteArray) (sep : ByteArray) (h : Strs w w.heap.size A ss) (h2 : 2 ≤ ss.length) (hcap : ss.length ≤ c) (hl : ss.length ≤ 1000) (hsz : jlen ss ≤ 1000000000) (h1 : 1 ≤ sep.size ∧ sep.size ≤ 1000) :
    Calls Tryd.prog 99 #[.slice A ss.length c, .string sep] w fun e w' => e = .returned (.string ⟨(jbytes sep ss).toArray⟩) ∧ Below w.heap.size w w' := by
  have H := Lib.hid h
  obtain ⟨ad, rfl, hadB, hcs⟩ := h.at_ (by omega)
  have HSZ := Lib.hid hsz
  have HCS := Lib.hid hcs
  clear hcs
  have t0 : ((ss.length : Int) == 0) = false := by rw [beq_eq_false_iff_ne]; omega
  have t1 : ((ss.length : Int) == 1) = false := by rw [beq_eq_false_iff_ne]; omega
  have dg : decide (0 < (sep.size : Int)) = true := by simp; omega
  have hq : (9223372036854775 : Int) ≤ 9223372036854775807 / ((ss.length : Int) - 1) := Int.le_ediv_of_mul_le (by omega) (by omega)
  have dq : decide (9223372036854775807 / ((ss.length : Int) - 1) ≤ (sep.size : Int)) = false := by simp; omega
  obtain ⟨M, hM⟩ : ∃ M : Nat, M = sep.size * (ss.length - 1) := ⟨_, rfl⟩
  have hM2 : M ≤ 1000000 := by
    rw [hM]
    exact Nat.le_trans (Nat.mul_le_mul h1.2 (show ss.length - 1 ≤ 1000 by omega)) (by decide)
  have s1 : IntKind.i64.wrap ((sep.size : Int) * ((ss.length : Int) - 1)) = (M : Int) := by
    have e : (sep.size : Int) * ((ss.length : Int) - 1) = (M : Int) := by
      rw [hM, Int.natCast_mul]
      congr 1
      omega
    rw [e]
    exact IntWalk.i64_in _ (by omega)
  have hpos : 0 < sep.size := h1.1
  have HM := Lib.hid hM
  have HM2 := Lib.hid hM2
  clear hq hM
  clear h
  go_enter Tryd.func99, Tryd.ntmps99
  go_wp2_with fail
  go_loopw [5, 7, 41] (fun n _ i wr => ∃ k : Nat, k ≤ ss.length ∧ i = .int .i64 k ∧ n = .int .i64 ((M + jlen (ss.take k) : Nat) : Int) ∧ wr = w) (fun _ _ i _ => ss.length - (intOf i).toNat)
  case atStart => exact ⟨0, Nat.zero_le _, rfl, rfl, rfl⟩
  case round =>
    obtain ⟨k, hk, rfl, rfl, hwr⟩ := hrel
    obtain rfl := hwr.symm
    clear hwr
    have hj := jlen_le ss k
    by_cases hlt : k < ss.length
    · obtain ⟨s, hs⟩ : ∃ s, ss[k]? = some s := ⟨_, List.getElem?_eq_getElem hlt⟩
      have hcx := HCS.out k s hs
      have HT := Lib.hid (jlen_take hs)
      have hj2 := jlen_le ss (k + 1)
      rw [HT.out] at hj2
      have i1 : ((k : Nat) : Int) < ((ss.length : Nat) : Int) := by omega
      have sk : IntKind.i64.wrap ((k : Int) + 1) = (k : Int) + 1 := IntWalk.i64_in _ (by omega)
      generalize jlen (ss.take k) = J at *
      have s3 : IntKind.i64.wrap (9223372036854775807 - ((M + J : Nat) : Int)) = 9223372036854775807 - ((M + J : Nat) : Int) := IntWalk.i64_in _ (by omega)
      have d3 : decide (9223372036854775807 - ((M + J : Nat) : Int) < (s.size : Int)) = false := by simp; omega
      have s4 : IntKind.i64.wrap (((M + J : Nat) : Int) + (s.size : Int)) = ((M + J : Nat) : Int) + (s.size : Int) := IntWalk.i64_in _ (by omega)
      obtain ⟨N, hN⟩ : ∃ N : Nat, N = M + J := ⟨_, rfl⟩
      rw [← hN] at s3 d3 s4 ⊢
      have HN := Lib.hid hN
      clear hN hj hj2 hs
      go_wp2_with fail
      go_roundw
      case rel => exact ⟨k + 1, by omega, by go_num, by rw [HT.out]; congr 1; have := HN.out; omega, by first | exact trivial | rfl⟩
      case measure => (simp [intOf] <;> omega)
    have HE : Hid (jlen (ss.take k) = jlen ss) := by unfold Hid; rw [List.take_of_length_le (by omega)]
    rw [HE.out]
    obtain ⟨N, hN⟩ : ∃ N : Nat, N = M + jlen ss := ⟨_, rfl⟩
    rw [← hN]
    have HN : Hid (N ≤ 2000000000) := by unfold Hid; have := HSZ.out; omega
    obtain ⟨s0, hs0⟩ : ∃ s0, ss[0]? = some s0 := ⟨_, List.getElem?_eq_getElem (by omega)⟩
    have HC0 := Lib.hid (HCS.out 0 s0 hs0)
    have HS0 := Lib.hid hs0
    have HJ1 : Hid (s0.size ≤ 1000000000) := by
      have a1 := jlen_le ss (0 + 1)
      have a2 := jlen_take hs0
      have a3 : jlen (ss.take 0) = 0 := rfl
      unfold Hid
      omega
    clear hN hj hs0 s1 dq
    go_wp2_with fail
    refine (Tryd.Builder_Grow_fresh w.heap.size w.heap.size N _ (Nat.le_refl _) (heap_alloc_new w _) (by simp) (by have := HN.out; omega)).mono ?_
    rintro e w2 ⟨rfl, hba, hbl⟩
    have HBA := Lib.hid hba
    have HB2 : Hid (Below w.heap.size w w2) := ((Below.refl _ w).alloc (Nat.le_refl _) _).trans hbl
    have hc0 : w2.cell? (ad.add 0) = some (.string s0) := (HB2.out.cell (by rw [block_of_add]; exact hadB)).trans HC0.out
    have hc0' : w2.cell? ad = some (.string s0) := by
      have := hc0
      unfold Addr.add at this
      rwa [if_pos rfl] at this
    have i0 : (0 : Int) < (ss.length : Int) := by omega
    clear hba hbl
    go_wp2_with fail
    refine (writeString_any w.heap.size w.heap.size [] s0 _ (Or.inr HBA.out) (by have := HJ1.out; simp; omega) HB2.out.size).mono ?_
    rintro e w3 ⟨rfl, hba, hbl⟩
    have HBA3 := Lib.hid hba
    have HB3 : Hid (Below w.heap.size w w3) := HB2.out.trans hbl
    clear hba hbl hc0 hc0'
    go_wp2_with fail
    have HBA4 : Hid (Lib.IsBuilder 162 5 w.heap.size w.heap.size (Lib.byteCells (s0.data.toList ++ jrest sep ((ss.drop 1).take 0))) w3) := by
      refine Or.inr ?_
      have := HBA3.out
      simpa [jrest, Lib.strCells, Lib.byteCells] using this
    have HNK := Lib.hid hk
    have hl2 : ss.length - 1 ≤ 1000 := by omega
    clear HBA HBA3 t0 t1 hlt hk
    go_loopw [10, 65] (fun _ i wr => ∃ j : Nat, j ≤ ss.length - 1 ∧ i = .int .i64 j ∧ Hid (Lib.IsBuilder 162 5 w.heap.size w.heap.size (Lib.byteCells (s0.data.toList ++ jrest sep ((ss.drop 1).take j))) wr) ∧ Hid (Below w.heap.size w wr)) (fun _ i _ => ss.length - 1 - (intOf i).toNat)
    case atStart => exact ⟨0, Nat.zero_le _, rfl, HBA4, HB3⟩
    case round =>
      obtain ⟨j, hj, rfl, HBI, HB⟩ := hrel
      clear HBA4 HB3 HB2
      have HLN : Hid ((Lib.byteCells (s0.data.toList ++ jrest sep ((ss.drop 1).take j))).length ≤ 5000000000) := by
        have a0 : s0.data.toList.length = s0.size := by show _ = s0.data.size; exact Array.length_toList
        have a1 := jlen_le (ss.drop 1) j
        have a2 : jlen (ss.drop 1) ≤ jlen ss := by
          unfold jlen
          conv => rhs; rw [← List.take_append_drop 1 ss]
          rw [List.map_append, List.sum_append]
          omega
        have a3 : ((ss.drop 1).take j).length ≤ 1000 := by simp; omega
        have a4 : ((ss.drop 1).take j).length * sep.size ≤ 1000 * 1000 := Nat.mul_le_mul a3 h1.2
        have := HJ1.out
        unfold Hid
        rw [Lib.byteCells_length, List.length_append, jrest_len, a0]
        omega
      by_cases hlt : j < ss.length - 1
      · obtain ⟨s, hs⟩ : ∃ s, ss[j + 1]? = some s := ⟨_, List.getElem?_eq_getElem (by omega)⟩
        have hx : ad.add (j + 1) = ⟨ad.block, ad.off + 1 + j, none⟩ := by
          unfold Addr.add
          rw [if_neg (by omega)]
          congr 1
          omega
        have hcj : wr.cell? ⟨ad.block, ad.off + 1 + j, none⟩ = some (.string s) := by
          rw [← hx]
          exact (HB.out.cell (by rw [block_of_add]; exact hadB)).trans (HCS.out (j + 1) s hs)
        have HT : Hid (jrest sep ((ss.drop 1).take (j + 1)) = jrest sep ((ss.drop 1).take j) ++ (sep.data.toList ++ s.data.toList)) := jrest_take (by rw [List.getElem?_drop, Nat.add_comm]; exact hs)
        have HSS : Hid (s.size ≤ 1000000000) := by
          have a1 := jlen_le ss (j + 1 + 1)
          have a2 := jlen_take hs
          unfold Hid
          omega
        have i1 : (j : Int) < (ss.length : Int) - 1 := by omega
        have sk : IntKind.i64.wrap ((j : Int) + 1) = (j : Int) + 1 := IntWalk.i64_in _ (by omega)
        have HFIN : Hid (Lib.byteCells (s0.data.toList ++ jrest sep ((ss.drop 1).take (j + 1))) = Lib.byteCells (s0.data.toList ++ jrest sep ((ss.drop 1).take j)) ++ Lib.strCells sep ++ Lib.strCells s) := by
          unfold Hid
          rw [HT.out, Lib.strCells_eq, Lib.strCells_eq]
          simp only [Lib.byteCells_append, List.append_assoc]
        generalize Lib.byteCells (s0.data.toList ++ jrest sep ((ss.drop 1).take j)) = bs at *
        clear hs hx
        go_wp2_with fail
        refine (writeString_any w.heap.size w.heap.size bs sep _ HBI.out (by have := HLN.out; omega) HB.out.size).mono ?_
        rintro e w4 ⟨rfl, hba, hbl⟩
        have HBA5 := Lib.hid hba
        have HB5 : Hid (Below w.heap.size w w4) := HB.out.trans hbl
        clear hba hbl
        go_wp2_with fail
        refine (writeString_any w.heap.size w.heap.size _ s _ (Or.inr HBA5.out) (by have := HLN.out; have := HSS.out; rw [List.length_append, Lib.strCells_length]; omega) HB5.out.size).mono ?_
        rintro e w5 ⟨rfl, hba, hbl⟩
        have HBA6 := Lib.hid hba
        have HB6 : Hid (Below w.heap.size w w5) := HB5.out.trans hbl
        clear hba hbl
        go_wp2_with fail
        go_roundw
        case rel => exact ⟨j + 1, by omega, by go_num, by rw [HFIN.out]; exact Or.inr HBA6.out, HB6⟩
        case measure => (simp [intOf] <;> omega)
      · have HE : Hid (s0.data.toList ++ jrest sep ((ss.drop 1).take j) = jbytes sep ss) := by
          have e : (ss.drop 1).take j = ss.drop 1 := List.take_of_length_le (by simp; omega)
          have e2 : ss = s0 :: ss.drop 1 := by
            have := HS0.out
            match ss, this with
            | x :: r, h => simp at h; subst h; rfl
          unfold Hid
          rw [e]
          conv => rhs; rw [e2]
          rfl
        rw [HE.out] at HBI
        clear HE HLN
        go_wp2_with fail
        refine (Tryd.Builder_String_any w.heap.size w.heap.size (jbytes sep ss) _ HBI.out HB.out.size).mono ?_
        rintro e w6 ⟨rfl, hbl⟩
        have HB6 : Hid (Below w.heap.size w w6) := HB.out.trans hbl
        clear hbl
        go_wp2_with fail
        go_ret
        exact ⟨rfl, HB6.out⟩
/-- strings.Join at any strings of bounded length, with a separator that isn't empty -/
theorem join_any (w : World) (A : Option Addr) (c : Nat) (ss : List ByteArray) (sep : ByteArray) (h : Strs w w.heap.size A ss) (hcap : ss.length ≤ c) (hl : ss.length ≤ 1000) (hsz : jlen ss ≤ 1000000000) (h1 : 1 ≤ sep.size ∧ sep.size ≤ 1000) :
    Calls Tryd.prog 99 #[.slice A ss.length c, .string sep] w fun e w' => e = .returned (.string ⟨(jbytes sep ss).toArray⟩) ∧ Below w.heap.size w w' := by
  match ss, h, hcap, hl, hsz with
  | [], h, _, _, _ => exact join_0 w A c sep
  | [s], h, _, _, _ =>
    obtain ⟨ad, rfl, _, hc⟩ := h.at_ (by simp)
    have h0 := hc 0 s rfl
    unfold Addr.add at h0
    rw [if_pos rfl] at h0
    refine (join_1 w ad c s sep h0).mono ?_
    rintro e w' ⟨he, hb⟩
    refine ⟨he.trans ?_, hb⟩
    simp [jbytes, jrest]
  | s :: s' :: r, h, hcap, hl, hsz => exact join_more w A c _ sep h (by simp) hcap hl hsz h1
end Go.Proofs.YtipoklnoknkfhaaDoor

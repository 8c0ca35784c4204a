/- The word of a text, by the reference: mudlarkref01.Parse. -/
import Derived.Test.YtdohmjdcgpkclaaDoorWordParse
namespace Go.Proofs.YtdohmjdcgpkclaaDoor
open Go Go.RowKit
set_option linter.unusedSimpArgs false
set_option linter.unusedVariables false

theorem nd_le : ∀ k n : Nat, n < 10 ^ (k + 1) → Lib.nDigits n ≤ k + 1
  | 0, n, h => by rw [Lib.nDigits_small (by simpa using h)]; exact Nat.le_refl _
  | k + 1, n, h => by
    by_cases h10 : n < 10
    · rw [Lib.nDigits_small h10]; omega
    · rw [Lib.nDigits_big h10]
      have := nd_le k (n / 10) (by rw [Nat.pow_succ] at h; omega)
      omega
/-- the bytes behind the mark, and the mark -/
def isMark (c : UInt8) : Bool := decide (c.toNat = 35) || decide (c.toNat = 63)
def rt : List UInt8 → List UInt8
  | [] => []
  | c :: r => if isMark c = true then r else c :: r
def rodd : List UInt8 → Int
  | [] => 0
  | c :: _ => if isMark c = true then 1 else 0
theorem rt_w (x : Int) : rt (wbytes x) = Lib.decDigits (x / 2).toNat ∧ rodd (wbytes x) = x % 2 := by
  rcases Int.emod_two_eq x with h | h
  · rw [wbytes_even x h, h]
    cases hd : Lib.decDigits (x / 2).toNat with
    | nil => exact ⟨rfl, rfl⟩
    | cons c r =>
      have hb := dd_bytes _ c (by rw [hd]; simp)
      have hm : isMark c = false := by unfold isMark; simp; omega
      simp [rt, rodd, hm]
  · obtain ⟨c, hc, e⟩ := wbytes_odd x h
    have hm : isMark c = true := by rcases hc with rfl | rfl <;> decide
    rw [e, h]
    simp [rt, rodd, hm]
theorem rt_of (s : ByteArray) (x : Int) (h : wread s = some x) : rt s.data.toList = Lib.decDigits (x / 2).toNat ∧ rodd s.data.toList = x % 2 ∧ wtext x = s ∧ 0 ≤ x ∧ x < 18446744073709551616 := by
  obtain ⟨h1, h2, h3⟩ := wread_some s x h
  obtain ⟨h4, h5⟩ := rt_w x
  rw [← h1, wtext_bytes]
  exact ⟨h4, h5, rfl, h2, h3⟩
theorem none_of {s : ByteArray} (h : ∀ x, wread s = some x → False) : wread s = none := by
  cases hw : wread s with
  | none => rfl
  | some x => exact (h x hw).elim
theorem rp_len (s : ByteArray) (h : (rt s.data.toList).length = 0 ∨ 19 < (rt s.data.toList).length) : wread s = none := none_of fun x hx => by
  obtain ⟨h1, h2, h3, h4, h5⟩ := rt_of s x hx
  rw [h1, Lib.decDigits_length] at h
  have a1 := Lib.nDigits_pos (x / 2).toNat
  have a2 := nd_le 18 (x / 2).toNat (by omega)
  omega
theorem rp_byte (s : ByteArray) (c : UInt8) (hc : c ∈ rt s.data.toList) (h : c.toNat < 48 ∨ 57 < c.toNat) : wread s = none := none_of fun x hx => by
  obtain ⟨h1, h2, h3, h4, h5⟩ := rt_of s x hx
  rw [h1] at hc
  have := dd_bytes _ c hc
  omega
theorem rp_big (s : ByteArray) (m : Nat) (hm : Lib.decFrom 0 (rt s.data.toList) = some m) (h : 9223372036854775807 < m) : wread s = none := none_of fun x hx => by
  obtain ⟨h1, h2, h3, h4, h5⟩ := rt_of s x hx
  rw [h1, dd_read] at hm
  have := Option.some.inj hm
  omega
theorem rp_end (s : ByteArray) (m : Nat) (hm : Lib.decFrom 0 (rt s.data.toList) = some m) (h : m ≤ 9223372036854775807) : wread s = if wtext (2 * (m : Int) + rodd s.data.toList) = s then some (2 * (m : Int) + rodd s.data.toList) else none := by
  have ho : 0 ≤ rodd s.data.toList ∧ rodd s.data.toList ≤ 1 := by
    unfold rodd
    split
    · omega
    · split <;> omega
  by_cases he : wtext (2 * (m : Int) + rodd s.data.toList) = s
  · rw [if_pos he]
    have := wread_w (2 * (m : Int) + rodd s.data.toList) (by omega) (by omega)
    rwa [he] at this
  · rw [if_neg he]
    refine none_of fun x hx => ?_
    obtain ⟨h1, h2, h3, h4, h5⟩ := rt_of s x hx
    rw [h1, dd_read] at hm
    have hmx := Option.some.inj hm
    refine he ?_
    rw [h2, show 2 * (m : Int) + x % 2 = x by omega]
    exact h3
set_option maxHeartbeats 8000000 in
set_option maxRecDepth 100000 in
theorem rparse_any (w : World) (s : ByteArray) (hs : s.size ≤ 100000) :
    Calls Tryd.prog 19 #[.string s] w fun e w' => e = .returned (.tuple #[.int .u64 (wval s), .int .i64 (werr s)]) ∧ Below w.heap.size w w' := by
  have HN0 : Hid (wread s = none → wval s = 0 ∧ werr s = 3) := fun h => by unfold wval werr; rw [h]; exact ⟨rfl, rfl⟩
  have HY0 : Hid (∀ x, wread s = some x → wval s = x ∧ werr s = 0) := fun x h => by unfold wval werr; rw [h]; exact ⟨rfl, rfl⟩
  have HLB := Lib.hid (rp_len s)
  have HBB := Lib.hid (rp_byte s)
  have HGB := Lib.hid (rp_big s)
  have HEE := Lib.hid (rp_end s)
  have hlen := bytes_len s
  by_cases h0 : s.size = 0
  · have HV := Lib.hid (HN0.out (HLB.out (by
      left
      have : s.data.toList = [] := List.eq_nil_of_length_eq_zero (by omega)
      rw [this]
      rfl)))
    have dz : decide (0 < s.size) = false := by simp [h0]
    have dzz : ((s.size : Int) == 0) = true := by simp [h0]
    have h00 : ¬ 0 < s.size := by omega
    clear hlen
    go_enter Tryd.func19, Tryd.ntmps19
    go_wp2_with fail
    go_ret2
    exact ⟨by rw [HV.out.1, HV.out.2]; rfl, Below.refl _ _⟩
  · have hpos : 0 < s.size := by omega
    obtain ⟨c, r, hcr⟩ : ∃ c r, s.data.toList = c :: r := by
      cases h : s.data.toList with
      | nil => rw [h] at hlen; simp at hlen; omega
      | cons c r => exact ⟨c, r, rfl⟩
    have hc0 : s[0]'hpos = c := by
      have h1 : s.data.toList[0]? = some (s[0]'hpos) := by simp [ByteArray.getElem_eq_getElem_data]
      rw [hcr] at h1
      simpa using h1.symm
    have HC0 := Lib.hid hc0
    by_cases hk : c.toNat = 35
    · have HRT : Hid (rt s.data.toList = r ∧ rodd s.data.toList = 1) := by
        unfold Hid
        rw [hcr]
        have hm : isMark c = true := by unfold isMark; simp; omega
        simp [rt, rodd, hm]
      have HD : Hid ((s.extract 1 s.size).data.toList = r ∧ (s.extract 1 s.size).size = s.size - 1) := by
        have h1 : (s.extract 1 s.size).data.toList = r := by rw [ByteArray.data_extract, Array.toList_extract, hcr]; simp [← hlen, hcr]
        exact ⟨h1, by rw [← bytes_len, h1]; rw [hcr] at hlen; simp at hlen; omega⟩
      have hrl : (r).length = s.size - 1 := by rw [hcr] at hlen; simp at hlen ⊢; omega
      have HRL := Lib.hid hrl
      have d35 : ((c.toNat : Int) == 35) = true := by simp; omega
      clear hcr hlen h0 hrl hk
      by_cases hl : s.size - 1 = 0 ∨ 19 < s.size - 1
      · have HV := Lib.hid (HN0.out (HLB.out (by rw [HRT.out.1, HRL.out]; exact hl)))
        by_cases hl0 : s.size - 1 = 0
        · have dz : (((s.size - 1 : Nat) : Int) == 0) = true := by simp; omega
          clear hl
          go_enter Tryd.func19, Tryd.ntmps19
          go_wp2_with fail
          go_ret2
          exact ⟨by rw [HV.out.1, HV.out.2]; rfl, Below.refl _ _⟩
        · have dz : (((s.size - 1 : Nat) : Int) == 0) = false := by rw [beq_eq_false_iff_ne]; omega
          have d19 : decide ((19 : Int) < ((s.size - 1 : Nat) : Int)) = true := by simp; omega
          clear hl
          go_enter Tryd.func19, Tryd.ntmps19
          go_wp2_with fail
          go_ret2
          exact ⟨by rw [HV.out.1, HV.out.2]; rfl, Below.refl _ _⟩
      · have hl0 : ¬ s.size - 1 = 0 := fun h => hl (.inl h)
        have hl1 : s.size - 1 ≤ 19 := by omega
        have dz : (((s.size - 1 : Nat) : Int) == 0) = false := by rw [beq_eq_false_iff_ne]; omega
        have d19 : decide ((19 : Int) < ((s.size - 1 : Nat) : Int)) = false := by simp; omega
        have d19' : ((s.size - 1 : Nat) : Int) ≤ 19 := by omega
        clear hl
        go_enter Tryd.func19, Tryd.ntmps19
        go_wp2_with fail
        obtain ⟨D, hD⟩ : ∃ D, D = s.extract 1 s.size := ⟨_, rfl⟩
        rw [← hD] at HD ⊢
        clear hD
        have HDZ : Hid (D.size ≤ 19) := by unfold Hid; rw [HD.out.2]; exact hl1
        have HOZ : Hid ((0 : Int) ≤ 1 ∧ (1 : Int) ≤ 1) := by unfold Hid; omega
        clear hl0 hl1 dz d19 d19'
        go_loop [6, 7] (fun n i => ∃ (k m : Nat) (a : Int), n = .int .u64 a ∧ i = .int .i64 k ∧ k ≤ D.size ∧ Hid (a = (m : Int) ∧ Lib.decFrom 0 (D.data.toList.take k) = some m)) (fun _ i => D.size - (intOf i).toNat)
        case atStart => exact ⟨0, 0, 0, rfl, rfl, Nat.zero_le _, rfl, rfl⟩
        case round =>
          obtain ⟨k, m, a, rfl, rfl, hk, HA⟩ := hrel
          have hlD := bytes_len D
          have hz := HDZ.out
          by_cases hkn : k < D.size
          · have hget : D.data.toList[k]? = some (D[k]'hkn) := by simp [ByteArray.getElem_eq_getElem_data]
            have hmb : m < 1000000000000000000 := by
              have h1 := Lib.decFrom_lt _ _ _ HA.out.2
              rw [List.length_take] at h1
              have h2 : (10 : Nat) ^ (min k D.data.toList.length) ≤ 10 ^ 18 := Nat.pow_le_pow_right (by omega) (by omega)
              omega
            have a0 : 0 ≤ a := by rw [HA.out.1]; omega
            have a1 : a ≤ 999999999999999999 := by rw [HA.out.1]; omega
            have hq : ((D[k]'hkn).toNat : Int) < 256 := by have := (D[k]'hkn).toNat_lt; omega
            have hq0 : (0 : Int) ≤ ((D[k]'hkn).toNat : Int) := by omega
            have HG := Lib.hid hget
            have HH := Lib.hid hkn
            by_cases hd : 48 ≤ (D[k]'hkn).toNat ∧ (D[k]'hkn).toNat ≤ 57
            · have g1 : (48 : Int) ≤ ((D[k]'hkn).toNat : Int) := by omega
              have g2 : ((D[k]'hkn).toNat : Int) ≤ 57 := by omega
              have hdv : Lib.digitVal (D[k]'hkn) = some ((D[k]'hkn).toNat - 48) := by unfold Lib.digitVal; rw [if_pos hd]
              have HN : Hid (10 * a + ((D[k]'hkn).toNat : Int) - 48 = ((m * 10 + ((D[k]'hkn).toNat - 48) : Nat) : Int) ∧ Lib.decFrom 0 (D.data.toList.take (k + 1)) = some (m * 10 + ((D[k]'hkn).toNat - 48))) :=
                ⟨by have := HA.out.1; omega, Lib.decFrom_take _ _ _ _ _ _ HA.out.2 hget hdv⟩
              clear hget hmb hlD hd hdv
              go_wp2_with fail
              go_round
              case rel => exact ⟨k + 1, _, _, rfl, by go_num, by omega, HN.out⟩
              case measure => simp [intOf]; omega
            · have HV := Lib.hid (HN0.out (HBB.out (D[k]'hkn) (by rw [HRT.out.1, ← HD.out.1]; exact List.mem_of_getElem? hget) (by omega)))
              by_cases g1 : (48 : Int) ≤ ((D[k]'hkn).toNat : Int)
              · have g2 : (57 : Int) < ((D[k]'hkn).toNat : Int) := by omega
                clear hget hmb hlD hd
                go_wp2_with fail
                go_ret2
                exact ⟨by rw [HV.out.1, HV.out.2]; rfl, Below.refl _ _⟩
              · have g2 : ((D[k]'hkn).toNat : Int) < 48 := by omega
                clear hget hmb hlD hd
                go_wp2_with fail
                go_ret2
                exact ⟨by rw [HV.out.1, HV.out.2]; rfl, Below.refl _ _⟩
          · have hke : k = D.size := by omega
            have hall : Lib.decFrom 0 (rt s.data.toList) = some m := by
              have h1 := HA.out.2
              rw [hke, ← bytes_len D, List.take_length] at h1
              rw [HRT.out.1, ← HD.out.1]
              exact h1
            have a0 : 0 ≤ a := by rw [HA.out.1]; omega
            by_cases hmb : m ≤ 9223372036854775807
            · have a1 : a ≤ 9223372036854775807 := by rw [HA.out.1]; omega
              have hee := HEE.out m hall hmb
              rw [HRT.out.2, ← HA.out.1] at hee
              have htx := Lib.hid (fun W => reftext_any W (2 * a + 1) (by omega) (by omega))
              by_cases hts : wtext (2 * a + 1) = s
              · have te : ((wtext (2 * a + 1)).toList == s.toList) = true := str_eqT hts
                have HV := Lib.hid (HY0.out _ (hee.trans (if_pos hts)))
                clear hall hee hts hke hlD hmb
                go_wp2_with fail
                refine (htx.out _).mono ?_
                rintro e w2 ⟨rfl, hb⟩
                have HB2 := Lib.hid hb
                clear hb
                go_wp2_with fail
                go_ret2
                exact ⟨by rw [HV.out.1, HV.out.2]; rfl, HB2.out⟩
              · have te : ((wtext (2 * a + 1)).toList == s.toList) = false := str_neT hts
                have HV := Lib.hid (HN0.out (hee.trans (if_neg hts)))
                clear hall hee hts hke hlD hmb
                go_wp2_with fail
                refine (htx.out _).mono ?_
                rintro e w2 ⟨rfl, hb⟩
                have HB2 := Lib.hid hb
                clear hb
                go_wp2_with fail
                go_ret2
                exact ⟨by rw [HV.out.1, HV.out.2]; rfl, HB2.out⟩
            · have a1 : 9223372036854775807 < a := by rw [HA.out.1]; omega
              have HV := Lib.hid (HN0.out (HGB.out m hall (by omega)))
              clear hall hke hlD hmb
              go_wp2_with fail
              go_ret2
              exact ⟨by rw [HV.out.1, HV.out.2]; rfl, Below.refl _ _⟩
    · by_cases hk2 : c.toNat = 63
      · have HRT : Hid (rt s.data.toList = r ∧ rodd s.data.toList = 1) := by
          unfold Hid
          rw [hcr]
          have hm : isMark c = true := by unfold isMark; simp; omega
          simp [rt, rodd, hm]
        have HD : Hid ((s.extract 1 s.size).data.toList = r ∧ (s.extract 1 s.size).size = s.size - 1) := by
          have h1 : (s.extract 1 s.size).data.toList = r := by rw [ByteArray.data_extract, Array.toList_extract, hcr]; simp [← hlen, hcr]
          exact ⟨h1, by rw [← bytes_len, h1]; rw [hcr] at hlen; simp at hlen; omega⟩
        have hrl : (r).length = s.size - 1 := by rw [hcr] at hlen; simp at hlen ⊢; omega
        have HRL := Lib.hid hrl
        have d35 : ((c.toNat : Int) == 35) = false := by rw [beq_eq_false_iff_ne]; omega
        have d63 : ((c.toNat : Int) == 63) = true := by simp; omega
        clear hcr hlen h0 hrl hk hk2
        by_cases hl : s.size - 1 = 0 ∨ 19 < s.size - 1
        · have HV := Lib.hid (HN0.out (HLB.out (by rw [HRT.out.1, HRL.out]; exact hl)))
          by_cases hl0 : s.size - 1 = 0
          · have dz : (((s.size - 1 : Nat) : Int) == 0) = true := by simp; omega
            clear hl
            go_enter Tryd.func19, Tryd.ntmps19
            go_wp2_with fail
            go_ret2
            exact ⟨by rw [HV.out.1, HV.out.2]; rfl, Below.refl _ _⟩
          · have dz : (((s.size - 1 : Nat) : Int) == 0) = false := by rw [beq_eq_false_iff_ne]; omega
            have d19 : decide ((19 : Int) < ((s.size - 1 : Nat) : Int)) = true := by simp; omega
            clear hl
            go_enter Tryd.func19, Tryd.ntmps19
            go_wp2_with fail
            go_ret2
            exact ⟨by rw [HV.out.1, HV.out.2]; rfl, Below.refl _ _⟩
        · have hl0 : ¬ s.size - 1 = 0 := fun h => hl (.inl h)
          have hl1 : s.size - 1 ≤ 19 := by omega
          have dz : (((s.size - 1 : Nat) : Int) == 0) = false := by rw [beq_eq_false_iff_ne]; omega
          have d19 : decide ((19 : Int) < ((s.size - 1 : Nat) : Int)) = false := by simp; omega
          have d19' : ((s.size - 1 : Nat) : Int) ≤ 19 := by omega
          clear hl
          go_enter Tryd.func19, Tryd.ntmps19
          go_wp2_with fail
          obtain ⟨D, hD⟩ : ∃ D, D = s.extract 1 s.size := ⟨_, rfl⟩
          rw [← hD] at HD ⊢
          clear hD
          have HDZ : Hid (D.size ≤ 19) := by unfold Hid; rw [HD.out.2]; exact hl1
          have HOZ : Hid ((0 : Int) ≤ 1 ∧ (1 : Int) ≤ 1) := by unfold Hid; omega
          clear hl0 hl1 dz d19 d19'
          go_loop [6, 7] (fun n i => ∃ (k m : Nat) (a : Int), n = .int .u64 a ∧ i = .int .i64 k ∧ k ≤ D.size ∧ Hid (a = (m : Int) ∧ Lib.decFrom 0 (D.data.toList.take k) = some m)) (fun _ i => D.size - (intOf i).toNat)
          case atStart => exact ⟨0, 0, 0, rfl, rfl, Nat.zero_le _, rfl, rfl⟩
          case round =>
            obtain ⟨k, m, a, rfl, rfl, hk, HA⟩ := hrel
            have hlD := bytes_len D
            have hz := HDZ.out
            by_cases hkn : k < D.size
            · have hget : D.data.toList[k]? = some (D[k]'hkn) := by simp [ByteArray.getElem_eq_getElem_data]
              have hmb : m < 1000000000000000000 := by
                have h1 := Lib.decFrom_lt _ _ _ HA.out.2
                rw [List.length_take] at h1
                have h2 : (10 : Nat) ^ (min k D.data.toList.length) ≤ 10 ^ 18 := Nat.pow_le_pow_right (by omega) (by omega)
                omega
              have a0 : 0 ≤ a := by rw [HA.out.1]; omega
              have a1 : a ≤ 999999999999999999 := by rw [HA.out.1]; omega
              have hq : ((D[k]'hkn).toNat : Int) < 256 := by have := (D[k]'hkn).toNat_lt; omega
              have hq0 : (0 : Int) ≤ ((D[k]'hkn).toNat : Int) := by omega
              have HG := Lib.hid hget
              have HH := Lib.hid hkn
              by_cases hd : 48 ≤ (D[k]'hkn).toNat ∧ (D[k]'hkn).toNat ≤ 57
              · have g1 : (48 : Int) ≤ ((D[k]'hkn).toNat : Int) := by omega
                have g2 : ((D[k]'hkn).toNat : Int) ≤ 57 := by omega
                have hdv : Lib.digitVal (D[k]'hkn) = some ((D[k]'hkn).toNat - 48) := by unfold Lib.digitVal; rw [if_pos hd]
                have HN : Hid (10 * a + ((D[k]'hkn).toNat : Int) - 48 = ((m * 10 + ((D[k]'hkn).toNat - 48) : Nat) : Int) ∧ Lib.decFrom 0 (D.data.toList.take (k + 1)) = some (m * 10 + ((D[k]'hkn).toNat - 48))) :=
                  ⟨by have := HA.out.1; omega, Lib.decFrom_take _ _ _ _ _ _ HA.out.2 hget hdv⟩
                clear hget hmb hlD hd hdv
                go_wp2_with fail
                go_round
                case rel => exact ⟨k + 1, _, _, rfl, by go_num, by omega, HN.out⟩
                case measure => simp [intOf]; omega
              · have HV := Lib.hid (HN0.out (HBB.out (D[k]'hkn) (by rw [HRT.out.1, ← HD.out.1]; exact List.mem_of_getElem? hget) (by omega)))
                by_cases g1 : (48 : Int) ≤ ((D[k]'hkn).toNat : Int)
                · have g2 : (57 : Int) < ((D[k]'hkn).toNat : Int) := by omega
                  clear hget hmb hlD hd
                  go_wp2_with fail
                  go_ret2
                  exact ⟨by rw [HV.out.1, HV.out.2]; rfl, Below.refl _ _⟩
                · have g2 : ((D[k]'hkn).toNat : Int) < 48 := by omega
                  clear hget hmb hlD hd
                  go_wp2_with fail
                  go_ret2
                  exact ⟨by rw [HV.out.1, HV.out.2]; rfl, Below.refl _ _⟩
            · have hke : k = D.size := by omega
              have hall : Lib.decFrom 0 (rt s.data.toList) = some m := by
                have h1 := HA.out.2
                rw [hke, ← bytes_len D, List.take_length] at h1
                rw [HRT.out.1, ← HD.out.1]
                exact h1
              have a0 : 0 ≤ a := by rw [HA.out.1]; omega
              by_cases hmb : m ≤ 9223372036854775807
              · have a1 : a ≤ 9223372036854775807 := by rw [HA.out.1]; omega
                have hee := HEE.out m hall hmb
                rw [HRT.out.2, ← HA.out.1] at hee
                have htx := Lib.hid (fun W => reftext_any W (2 * a + 1) (by omega) (by omega))
                by_cases hts : wtext (2 * a + 1) = s
                · have te : ((wtext (2 * a + 1)).toList == s.toList) = true := str_eqT hts
                  have HV := Lib.hid (HY0.out _ (hee.trans (if_pos hts)))
                  clear hall hee hts hke hlD hmb
                  go_wp2_with fail
                  refine (htx.out _).mono ?_
                  rintro e w2 ⟨rfl, hb⟩
                  have HB2 := Lib.hid hb
                  clear hb
                  go_wp2_with fail
                  go_ret2
                  exact ⟨by rw [HV.out.1, HV.out.2]; rfl, HB2.out⟩
                · have te : ((wtext (2 * a + 1)).toList == s.toList) = false := str_neT hts
                  have HV := Lib.hid (HN0.out (hee.trans (if_neg hts)))
                  clear hall hee hts hke hlD hmb
                  go_wp2_with fail
                  refine (htx.out _).mono ?_
                  rintro e w2 ⟨rfl, hb⟩
                  have HB2 := Lib.hid hb
                  clear hb
                  go_wp2_with fail
                  go_ret2
                  exact ⟨by rw [HV.out.1, HV.out.2]; rfl, HB2.out⟩
              · have a1 : 9223372036854775807 < a := by rw [HA.out.1]; omega
                have HV := Lib.hid (HN0.out (HGB.out m hall (by omega)))
                clear hall hke hlD hmb
                go_wp2_with fail
                go_ret2
                exact ⟨by rw [HV.out.1, HV.out.2]; rfl, Below.refl _ _⟩
      · have HRT : Hid (rt s.data.toList = c :: r ∧ rodd s.data.toList = 0) := by
          unfold Hid
          rw [hcr]
          have hm : isMark c = false := by unfold isMark; simp; omega
          simp [rt, rodd, hm]
        have HD : Hid (s.data.toList = c :: r ∧ s.size = s.size) := ⟨hcr, rfl⟩
        have hrl : (c :: r).length = s.size := by rw [hcr] at hlen; simp at hlen ⊢; omega
        have HRL := Lib.hid hrl
        have d35 : ((c.toNat : Int) == 35) = false := by rw [beq_eq_false_iff_ne]; omega
        have d63 : ((c.toNat : Int) == 63) = false := by rw [beq_eq_false_iff_ne]; omega
        clear hcr hlen h0 hrl hk hk2
        by_cases hl : s.size = 0 ∨ 19 < s.size
        · have HV := Lib.hid (HN0.out (HLB.out (by rw [HRT.out.1, HRL.out]; exact hl)))
          by_cases hl0 : s.size = 0
          · exact absurd hl0 (by omega)
          · have dz : (((s.size : Nat) : Int) == 0) = false := by rw [beq_eq_false_iff_ne]; omega
            have d19 : decide ((19 : Int) < ((s.size : Nat) : Int)) = true := by simp; omega
            clear hl
            go_enter Tryd.func19, Tryd.ntmps19
            go_wp2_with fail
            go_ret2
            exact ⟨by rw [HV.out.1, HV.out.2]; rfl, Below.refl _ _⟩
        · have hl0 : ¬ s.size = 0 := fun h => hl (.inl h)
          have hl1 : s.size ≤ 19 := by omega
          have dz : (((s.size : Nat) : Int) == 0) = false := by rw [beq_eq_false_iff_ne]; omega
          have d19 : decide ((19 : Int) < ((s.size : Nat) : Int)) = false := by simp; omega
          have d19' : ((s.size : Nat) : Int) ≤ 19 := by omega
          clear hl
          go_enter Tryd.func19, Tryd.ntmps19
          go_wp2_with fail
          have HDZ : Hid (s.size ≤ 19) := hl1
          have HOZ : Hid ((0 : Int) ≤ 0 ∧ (0 : Int) ≤ 1) := by unfold Hid; omega
          clear hl0 hl1 dz d19 d19'
          go_loop [6, 7] (fun n i => ∃ (k m : Nat) (a : Int), n = .int .u64 a ∧ i = .int .i64 k ∧ k ≤ s.size ∧ Hid (a = (m : Int) ∧ Lib.decFrom 0 (s.data.toList.take k) = some m)) (fun _ i => s.size - (intOf i).toNat)
          case atStart => exact ⟨0, 0, 0, rfl, rfl, Nat.zero_le _, rfl, rfl⟩
          case round =>
            obtain ⟨k, m, a, rfl, rfl, hk, HA⟩ := hrel
            have hlD := bytes_len s
            have hz := HDZ.out
            by_cases hkn : k < s.size
            · have hget : s.data.toList[k]? = some (s[k]'hkn) := by simp [ByteArray.getElem_eq_getElem_data]
              have hmb : m < 1000000000000000000 := by
                have h1 := Lib.decFrom_lt _ _ _ HA.out.2
                rw [List.length_take] at h1
                have h2 : (10 : Nat) ^ (min k s.data.toList.length) ≤ 10 ^ 18 := Nat.pow_le_pow_right (by omega) (by omega)
                omega
              have a0 : 0 ≤ a := by rw [HA.out.1]; omega
              have a1 : a ≤ 999999999999999999 := by rw [HA.out.1]; omega
              have hq : ((s[k]'hkn).toNat : Int) < 256 := by have := (s[k]'hkn).toNat_lt; omega
              have hq0 : (0 : Int) ≤ ((s[k]'hkn).toNat : Int) := by omega
              have HG := Lib.hid hget
              have HH := Lib.hid hkn
              by_cases hd : 48 ≤ (s[k]'hkn).toNat ∧ (s[k]'hkn).toNat ≤ 57
              · have g1 : (48 : Int) ≤ ((s[k]'hkn).toNat : Int) := by omega
                have g2 : ((s[k]'hkn).toNat : Int) ≤ 57 := by omega
                have hdv : Lib.digitVal (s[k]'hkn) = some ((s[k]'hkn).toNat - 48) := by unfold Lib.digitVal; rw [if_pos hd]
                have HN : Hid (10 * a + ((s[k]'hkn).toNat : Int) - 48 = ((m * 10 + ((s[k]'hkn).toNat - 48) : Nat) : Int) ∧ Lib.decFrom 0 (s.data.toList.take (k + 1)) = some (m * 10 + ((s[k]'hkn).toNat - 48))) :=
                  ⟨by have := HA.out.1; omega, Lib.decFrom_take _ _ _ _ _ _ HA.out.2 hget hdv⟩
                clear hget hmb hlD hd hdv
                go_wp2_with fail
                go_round
                case rel => exact ⟨k + 1, _, _, rfl, by go_num, by omega, HN.out⟩
                case measure => simp [intOf]; omega
              · have HV := Lib.hid (HN0.out (HBB.out (s[k]'hkn) (by rw [HRT.out.1, ← HD.out.1]; exact List.mem_of_getElem? hget) (by omega)))
                by_cases g1 : (48 : Int) ≤ ((s[k]'hkn).toNat : Int)
                · have g2 : (57 : Int) < ((s[k]'hkn).toNat : Int) := by omega
                  clear hget hmb hlD hd
                  go_wp2_with fail
                  go_ret2
                  exact ⟨by rw [HV.out.1, HV.out.2]; rfl, Below.refl _ _⟩
                · have g2 : ((s[k]'hkn).toNat : Int) < 48 := by omega
                  clear hget hmb hlD hd
                  go_wp2_with fail
                  go_ret2
                  exact ⟨by rw [HV.out.1, HV.out.2]; rfl, Below.refl _ _⟩
            · have hke : k = s.size := by omega
              have hall : Lib.decFrom 0 (rt s.data.toList) = some m := by
                have h1 := HA.out.2
                rw [hke, ← bytes_len s, List.take_length] at h1
                rw [HRT.out.1, ← HD.out.1]
                exact h1
              have a0 : 0 ≤ a := by rw [HA.out.1]; omega
              by_cases hmb : m ≤ 9223372036854775807
              · have a1 : a ≤ 9223372036854775807 := by rw [HA.out.1]; omega
                have hee := HEE.out m hall hmb
                rw [HRT.out.2, ← HA.out.1, Int.add_zero] at hee
                have htx := Lib.hid (fun W => reftext_any W (2 * a) (by omega) (by omega))
                by_cases hts : wtext (2 * a) = s
                · have te : ((wtext (2 * a)).toList == s.toList) = true := str_eqT hts
                  have HV := Lib.hid (HY0.out _ (hee.trans (if_pos hts)))
                  clear hall hee hts hke hlD hmb
                  go_wp2_with fail
                  refine (htx.out _).mono ?_
                  rintro e w2 ⟨rfl, hb⟩
                  have HB2 := Lib.hid hb
                  clear hb
                  go_wp2_with fail
                  go_ret2
                  exact ⟨by rw [HV.out.1, HV.out.2]; rfl, HB2.out⟩
                · have te : ((wtext (2 * a)).toList == s.toList) = false := str_neT hts
                  have HV := Lib.hid (HN0.out (hee.trans (if_neg hts)))
                  clear hall hee hts hke hlD hmb
                  go_wp2_with fail
                  refine (htx.out _).mono ?_
                  rintro e w2 ⟨rfl, hb⟩
                  have HB2 := Lib.hid hb
                  clear hb
                  go_wp2_with fail
                  go_ret2
                  exact ⟨by rw [HV.out.1, HV.out.2]; rfl, HB2.out⟩
              · have a1 : 9223372036854775807 < a := by rw [HA.out.1]; omega
                have HV := Lib.hid (HN0.out (HGB.out m hall (by omega)))
                clear hall hke hlD hmb
                go_wp2_with fail
                go_ret2
                exact ⟨by rw [HV.out.1, HV.out.2]; rfl, Below.refl _ _⟩
end Go.Proofs.YtdohmjdcgpkclaaDoor

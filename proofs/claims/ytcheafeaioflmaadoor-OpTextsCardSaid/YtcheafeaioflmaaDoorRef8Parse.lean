/- The document's reading of an operation, at any text. -/
import Derived.Test.YtcheafeaioflmaaDoorRef8Pure
import Derived.Test.YtcheafeaioflmaaDoorRef08Text
import Derived.Test.YtcheafeaioflmaaDoorIntArr
namespace Go.Proofs.YtcheafeaioflmaaDoor
open Go Go.RowKit
set_option linter.unusedSimpArgs false
set_option linter.unusedVariables false

abbrev zop8 : Opr := ⟨0, 0, 0, 0⟩
set_option maxHeartbeats 16000000 in
set_option maxRecDepth 100000 in
theorem r8parse_any (w : World) (s : ByteArray) (hs : s.size ≤ 1000) :
    Calls Tryd.prog 41 #[.string s] w fun e w' => e = .returned (.tuple #[(oread s).1.v, .int .i64 (oread s).2]) ∧ Below w.heap.size w w' := by
  have HL : Hid (s.data.toList.length = s.size) := bytes_len s
  have HA0 : Hid (IntArr 113 ((w.alloc zop8.obj).alloc (.cells #[.int .i64 0, .int .i64 0, .int .i64 0, .int .i64 0] 113)) (w.heap.size + 1) ([] ++ List.replicate (4 - 0) 0)) := by
    unfold Hid
    rw [show w.heap.size + 1 = (w.alloc zop8.obj).heap.size by simp]
    exact heap_alloc_new (w.alloc zop8.obj) (.cells #[.int .i64 0, .int .i64 0, .int .i64 0, .int .i64 0] 113)
  have HC0 : Hid (((w.alloc zop8.obj).alloc (.cells #[.int .i64 0, .int .i64 0, .int .i64 0, .int .i64 0] 113)).heap[w.heap.size]? = some zop8.obj) := (Below.heap_alloc _ _ _ (by simp)).trans (heap_alloc_new w _)
  have HB0 : Hid (Below w.heap.size w ((w.alloc zop8.obj).alloc (.cells #[.int .i64 0, .int .i64 0, .int .i64 0, .int .i64 0] 113))) := ((Below.refl _ _).alloc (Nat.le_refl _) _).alloc (by simp) _
  go_enter Tryd.func41, Tryd.ntmps41
  go_wp2_with fail
  go_loop [5] (fun at_ => ∃ a2 : Nat, at_ = .int .i64 a2 ∧ a2 ≤ s.size ∧ Hid (skip8 (s.data.toList.drop a2) = skip8 s.data.toList)) (fun at_ => s.size - (intOf at_).toNat)
  case atStart => exact ⟨0, rfl, by omega, rfl⟩
  case round =>
    obtain ⟨a2, rfl, ha2, HSK⟩ := hrel
    by_cases h2 : a2 < s.size
    · have j1 : ((a2 : Nat) : Int) < (s.size : Int) := by omega
      have HG2 : Hid (s.data.toList[a2]'(by rw [HL.out]; exact h2) = s[a2]'h2) := by unfold Hid; simp [ByteArray.getElem_eq_getElem_data]
      have hr : ((s[a2]'h2).toNat : Int) < 256 := by have := (s[a2]'h2).toNat_lt; omega
      have hr0 : (0 : Int) ≤ ((s[a2]'h2).toNat : Int) := by omega
      by_cases h33 : (s[a2]'h2).toNat = 32
      · have e33 : (((s[a2]'h2).toNat : Int) != 32) = false := by rw [h33]; rfl
        have HNX : Hid (s.data.toList.drop a2 = skip8 s.data.toList) := by
          unfold Hid
          rw [← HSK.out, skip8_stop _ a2 (by rw [HL.out]; exact h2) (by rw [HG2.out]; exact UInt8.toNat_inj.1 h33)]
        clear h33
        go_wp2_with fail
        go_loopw [5, 6, 7] (fun at_ mv _ wr => ∃ (m a : Nat) (pre : List Int), m ≤ 4 ∧ mv = .int .i64 m ∧ at_ = .int .i64 a ∧ a ≤ s.size ∧ pre.length = m ∧ Hid ((rest (4 - m) (s.data.toList.drop a)).map (pre ++ ·) = goal8 s) ∧ Hid (IntArr 113 wr (w.heap.size + 1) (pre ++ List.replicate (4 - m) 0)) ∧ Hid (wr.heap[w.heap.size]? = some zop8.obj) ∧ Hid (Below w.heap.size w wr)) (fun _ mv _ _ => 4 - (intOf mv).toNat)
        case atStart => exact ⟨0, a2, [], by omega, rfl, rfl, by omega, rfl, (by unfold Hid; rw [HNX.out]; simp [goal8]), HA0.out, HC0.out, HB0.out⟩
        case round =>
          obtain ⟨m, a, pre, hm4, rfl, rfl, has, hpl, HGR, HA, HC, HB⟩ := hrel
          have hs1 := HA.out.lt
          by_cases hal : a < s.size
          · have j2 : ((a : Nat) : Int) < (s.size : Int) := by omega
            by_cases hm : m < 4
            · have j3 : ((m : Nat) : Int) < 4 := by omega
              have HG1 : Hid (cont m pre (dig 0 0 (s.data.toList.drop (a + 1))) = goal8 s) := by unfold Hid; have e := List.drop_eq_getElem_cons (show a < s.data.toList.length by rw [HL.out]; exact hal); rw [← HGR.out, e, rest_step m pre _ _ hm]
              go_wp2_with fail
              go_loopw [5] (fun at_ wr => ∃ (b : Nat) (acc : Int), at_ = .int .i64 b ∧ a + 1 ≤ b ∧ b ≤ s.size ∧ 0 ≤ acc ∧ acc ≤ 9223372036854775807 ∧ Hid (cont m pre (dig (b - (a + 1)) acc (s.data.toList.drop b)) = goal8 s) ∧ Hid (IntArr 113 wr (w.heap.size + 1) ((pre ++ List.replicate (4 - m) 0).set m acc)) ∧ Hid (wr.heap[w.heap.size]? = some zop8.obj) ∧ Hid (Below w.heap.size w wr)) (fun at_ _ => s.size - (intOf at_).toNat)
              case atStart => exact ⟨a + 1, 0, by go_num, by omega, by omega, by omega, by omega, by rw [Nat.sub_self]; exact HG1.out, by rw [pad_zero m pre hm hpl]; exact HA.out, HC.out, HB.out⟩
              case round =>
                obtain ⟨b, acc, rfl, hab, hbs, ha0, ha1, HG2, HA2, HC2, HB2⟩ := hrel
                have c0 : wr.cell? ⟨w.heap.size + 1, m, none⟩ = some (.int .i64 acc) := by have h := HA2.out.cell (k := m) (by simp [hpl]; omega); rw [pad_get m pre acc hm hpl] at h; exact h
                have fz : wr.frozen? ⟨w.heap.size + 1, m, none⟩ = false := frozen_of_block HA2.out m
                have hs2 := HA2.out.lt
                by_cases hb2 : b < s.size
                · have i1 : ((b : Nat) : Int) < (s.size : Int) := by omega
                  have hbl : b < s.data.toList.length := by rw [HL.out]; exact hb2
                  have HG : Hid (s.data.toList[b]'hbl = s[b]'hb2) := by unfold Hid; simp [ByteArray.getElem_eq_getElem_data]
                  have hq : ((s[b]'hb2).toNat : Int) < 256 := by have := (s[b]'hb2).toNat_lt; omega
                  have hq0 : (0 : Int) ≤ ((s[b]'hb2).toNat : Int) := by omega
                  by_cases h32 : (s[b]'hb2).toNat = 32
                  · have e32 : (((s[b]'hb2).toNat : Int) != 32) = false := by rw [h32]; rfl
                    have HD : Hid ((rest (4 - (m + 1)) (s.data.toList.drop b)).map ((pre ++ [acc]) ++ ·) = goal8 s) := by unfold Hid; rw [← HG2.out, dig_stop _ b _ acc hbl (by rw [HG.out]; exact UInt8.toNat_inj.1 h32), cont_done m pre acc _ hm]
                    clear h32
                    go_wp2_with fail
                    go_roundw
                    case rel => exact ⟨m + 1, b, pre ++ [acc], by omega, by go_num, rfl, by omega, by simp [hpl], HD.out, by rw [← pad_set m pre acc hm hpl]; exact HA2.out, HC2.out, HB2.out⟩
                    case measure => simp [intOf]; omega
                  · have e32 : (((s[b]'hb2).toNat : Int) != 32) = true := by rw [bne_iff_ne]; omega
                    have hn32 : s.data.toList[b]'hbl ≠ 32 := by rw [HG.out]; exact fun e => h32 (by rw [e]; rfl)
                    have sb : IntKind.i64.wrap ((b : Int) - ((a : Int) + 1)) = ((b - (a + 1) : Nat) : Int) := by rw [IntWalk.i64_in _ (by omega)]; omega
                    have HBD := Lib.hid (dig_bad s.data.toList b (b - (a + 1)) acc hbl hn32)
                    have HST := Lib.hid (dig_step s.data.toList b (b - (a + 1)) acc hbl hn32)
                    rw [HG.out] at HBD HST
                    clear h32 hn32
                    by_cases l1 : (s[b]'hb2).toNat < 48
                    · have d1 : decide (((s[b]'hb2).toNat : Int) < 48) = true := by simp; omega
                      have HBAD : Hid (dig (b - (a + 1)) acc (s.data.toList.drop b) = none) := HBD.out (Or.inl (Or.inl (Or.inl l1)))
                      have HNY : Hid (oread s = (⟨0, 0, 0, 0⟩, 3)) := goal8_none (by rw [← HG2.out, HBAD.out]; rfl)
                      obtain ⟨z0, z1, z2, z3⟩ := opr_cells HC2.out
                      have f0 := frozen_of_block HC2.out 0
                      have f1 := frozen_of_block HC2.out 1
                      have f2 := frozen_of_block HC2.out 2
                      have f3 := frozen_of_block HC2.out 3
                      have hsz0 := block_lt HC2.out
                      go_wp2_with fail
                      exact bodyPost_ret (v := .tuple #[.agg #[.int .i64 0, .int .i64 0, .int .i64 0, .int .i64 0], .int .i64 3]) (by simp [results, Tryd.results41, go_sem, z0, z1, z2, z3]) rfl
                        ⟨by rw [HNY.out], by repeat (first | exact HB2.out | refine Below.setCell ?_ (by simp) _)⟩
                    have d1 : decide (((s[b]'hb2).toNat : Int) < 48) = false := by simp; omega
                    by_cases l2 : 57 < (s[b]'hb2).toNat
                    · have d2 : decide (57 < ((s[b]'hb2).toNat : Int)) = true := by simp; omega
                      have HBAD : Hid (dig (b - (a + 1)) acc (s.data.toList.drop b) = none) := HBD.out (Or.inl (Or.inl (Or.inr l2)))
                      have HNY : Hid (oread s = (⟨0, 0, 0, 0⟩, 3)) := goal8_none (by rw [← HG2.out, HBAD.out]; rfl)
                      obtain ⟨z0, z1, z2, z3⟩ := opr_cells HC2.out
                      have f0 := frozen_of_block HC2.out 0
                      have f1 := frozen_of_block HC2.out 1
                      have f2 := frozen_of_block HC2.out 2
                      have f3 := frozen_of_block HC2.out 3
                      have hsz0 := block_lt HC2.out
                      go_wp2_with fail
                      exact bodyPost_ret (v := .tuple #[.agg #[.int .i64 0, .int .i64 0, .int .i64 0, .int .i64 0], .int .i64 3]) (by simp [results, Tryd.results41, go_sem, z0, z1, z2, z3]) rfl
                        ⟨by rw [HNY.out], by repeat (first | exact HB2.out | refine Below.setCell ?_ (by simp) _)⟩
                    have d2 : decide (57 < ((s[b]'hb2).toNat : Int)) = false := by simp; omega
                    by_cases l3 : 18 < b - (a + 1)
                    · have d3 : decide (18 < ((b - (a + 1) : Nat) : Int)) = true := by simp; omega
                      have HBAD : Hid (dig (b - (a + 1)) acc (s.data.toList.drop b) = none) := HBD.out (Or.inl (Or.inr l3))
                      have HNY : Hid (oread s = (⟨0, 0, 0, 0⟩, 3)) := goal8_none (by rw [← HG2.out, HBAD.out]; rfl)
                      obtain ⟨z0, z1, z2, z3⟩ := opr_cells HC2.out
                      have f0 := frozen_of_block HC2.out 0
                      have f1 := frozen_of_block HC2.out 1
                      have f2 := frozen_of_block HC2.out 2
                      have f3 := frozen_of_block HC2.out 3
                      have hsz0 := block_lt HC2.out
                      go_wp2_with fail
                      exact bodyPost_ret (v := .tuple #[.agg #[.int .i64 0, .int .i64 0, .int .i64 0, .int .i64 0], .int .i64 3]) (by simp [results, Tryd.results41, go_sem, z0, z1, z2, z3]) rfl
                        ⟨by rw [HNY.out], by repeat (first | exact HB2.out | refine Below.setCell ?_ (by simp) _)⟩
                    have d3 : decide (18 < ((b - (a + 1) : Nat) : Int)) = false := by simp; omega
                    by_cases l4 : 922337203685477580 < acc
                    · have d4 : decide (922337203685477580 < acc) = true := by simpa using l4
                      have HBAD : Hid (dig (b - (a + 1)) acc (s.data.toList.drop b) = none) := HBD.out (Or.inr (Or.inl l4))
                      have HNY : Hid (oread s = (⟨0, 0, 0, 0⟩, 3)) := goal8_none (by rw [← HG2.out, HBAD.out]; rfl)
                      obtain ⟨z0, z1, z2, z3⟩ := opr_cells HC2.out
                      have f0 := frozen_of_block HC2.out 0
                      have f1 := frozen_of_block HC2.out 1
                      have f2 := frozen_of_block HC2.out 2
                      have f3 := frozen_of_block HC2.out 3
                      have hsz0 := block_lt HC2.out
                      go_wp2_with fail
                      exact bodyPost_ret (v := .tuple #[.agg #[.int .i64 0, .int .i64 0, .int .i64 0, .int .i64 0], .int .i64 3]) (by simp [results, Tryd.results41, go_sem, z0, z1, z2, z3]) rfl
                        ⟨by rw [HNY.out], by repeat (first | exact HB2.out | refine Below.setCell ?_ (by simp) _)⟩
                    have d4 : decide (922337203685477580 < acc) = false := by simpa using l4
                    by_cases l5 : acc = 922337203685477580
                    · have d5 : (acc == 922337203685477580) = true := by rw [beq_iff_eq]; exact l5
                      by_cases l6 : 55 < (s[b]'hb2).toNat
                      · have d6 : decide (55 < ((s[b]'hb2).toNat : Int)) = true := by simp; omega
                        have HBAD : Hid (dig (b - (a + 1)) acc (s.data.toList.drop b) = none) := HBD.out (Or.inr (Or.inr ⟨l5, l6⟩))
                        clear l5
                        have HNY : Hid (oread s = (⟨0, 0, 0, 0⟩, 3)) := goal8_none (by rw [← HG2.out, HBAD.out]; rfl)
                        obtain ⟨z0, z1, z2, z3⟩ := opr_cells HC2.out
                        have f0 := frozen_of_block HC2.out 0
                        have f1 := frozen_of_block HC2.out 1
                        have f2 := frozen_of_block HC2.out 2
                        have f3 := frozen_of_block HC2.out 3
                        have hsz0 := block_lt HC2.out
                        go_wp2_with fail
                        exact bodyPost_ret (v := .tuple #[.agg #[.int .i64 0, .int .i64 0, .int .i64 0, .int .i64 0], .int .i64 3]) (by simp [results, Tryd.results41, go_sem, z0, z1, z2, z3]) rfl
                          ⟨by rw [HNY.out], by repeat (first | exact HB2.out | refine Below.setCell ?_ (by simp) _)⟩
                      · have d6 : decide (55 < ((s[b]'hb2).toNat : Int)) = false := by simp; omega
                        have HNX : Hid (cont m pre (dig (b + 1 - (a + 1)) (10 * acc + ((s[b]'hb2).toNat : Int) - 48) (s.data.toList.drop (b + 1))) = goal8 s) := by
                          have h := HST.out (by omega) (by omega) (by omega)
                          unfold Hid
                          rw [← HG2.out, ← h, show b - (a + 1) + 1 = b + 1 - (a + 1) by omega]
                        have hlo : 0 ≤ 10 * acc + ((s[b]'hb2).toNat : Int) - 48 := by omega
                        have hhi : 10 * acc + ((s[b]'hb2).toNat : Int) - 48 ≤ 9223372036854775807 := by omega
                        have wq : IntKind.i64.wrap ((s[b]'hb2).toNat : Int) = ((s[b]'hb2).toNat : Int) := IntWalk.i64_in _ (by omega)
                        have HV : Hid (wrap64 (wrap64 (wrap64 (10 * acc) + ((s[b]'hb2).toNat : Int)) - 48) = 10 * acc + ((s[b]'hb2).toNat : Int) - 48) := by unfold Hid wrap64; omega
                        have HV2 : Hid (wrap64 (wrap64 (10 * acc + ((s[b]'hb2).toNat : Int)) - 48) = 10 * acc + ((s[b]'hb2).toNat : Int) - 48) := by unfold Hid wrap64; omega
                        have HV3 : Hid (wrap64 (10 * acc + ((s[b]'hb2).toNat : Int) - 48) = 10 * acc + ((s[b]'hb2).toNat : Int) - 48) := by unfold Hid wrap64; omega
                        clear l5
                        go_wp2_with fail
                        go_region_with (fail)
                        all_goals
                         go_wp2_with fail
                         go_roundw
                         case rel => exact ⟨b + 1, 10 * acc + ((s[b]'hb2).toNat : Int) - 48, by go_num, by omega, by omega, hlo, hhi, HNX.out, (by (try rw [HV.out]); (try rw [HV2.out]); (try rw [HV3.out]); have h := HA2.out.put m (10 * acc + ((s[b]'hb2).toNat : Int) - 48); rw [List.set_set] at h; first | exact h | exact h.drew | fail), (by first | exact (Below.heap_setCell _ _ _ _ (by simp)).trans HC2.out | fail), (by first | exact HB2.out.setCell (by simp) _ | exact (HB2.out.setCell (by simp) _).drew | exact HB2.out.drew.setCell (by simp) _ | fail)⟩
                         case measure => simp [intOf]; omega
                    · have d5 : (acc == 922337203685477580) = false := by rw [beq_eq_false_iff_ne]; exact l5
                      have HNX : Hid (cont m pre (dig (b + 1 - (a + 1)) (10 * acc + ((s[b]'hb2).toNat : Int) - 48) (s.data.toList.drop (b + 1))) = goal8 s) := by
                        have h := HST.out (by omega) (by omega) (by omega)
                        unfold Hid
                        rw [← HG2.out, ← h, show b - (a + 1) + 1 = b + 1 - (a + 1) by omega]
                      have hlo : 0 ≤ 10 * acc + ((s[b]'hb2).toNat : Int) - 48 := by omega
                      have hhi : 10 * acc + ((s[b]'hb2).toNat : Int) - 48 ≤ 9223372036854775807 := by omega
                      have wq : IntKind.i64.wrap ((s[b]'hb2).toNat : Int) = ((s[b]'hb2).toNat : Int) := IntWalk.i64_in _ (by omega)
                      have HV : Hid (wrap64 (wrap64 (wrap64 (10 * acc) + ((s[b]'hb2).toNat : Int)) - 48) = 10 * acc + ((s[b]'hb2).toNat : Int) - 48) := by unfold Hid wrap64; omega
                      have HV2 : Hid (wrap64 (wrap64 (10 * acc + ((s[b]'hb2).toNat : Int)) - 48) = 10 * acc + ((s[b]'hb2).toNat : Int) - 48) := by unfold Hid wrap64; omega
                      have HV3 : Hid (wrap64 (10 * acc + ((s[b]'hb2).toNat : Int) - 48) = 10 * acc + ((s[b]'hb2).toNat : Int) - 48) := by unfold Hid wrap64; omega
                      go_wp2_with fail
                      go_region_with (fail)
                      all_goals
                       go_wp2_with fail
                       go_roundw
                       case rel => exact ⟨b + 1, 10 * acc + ((s[b]'hb2).toNat : Int) - 48, by go_num, by omega, by omega, hlo, hhi, HNX.out, (by (try rw [HV.out]); (try rw [HV2.out]); (try rw [HV3.out]); have h := HA2.out.put m (10 * acc + ((s[b]'hb2).toNat : Int) - 48); rw [List.set_set] at h; first | exact h | exact h.drew | fail), (by first | exact (Below.heap_setCell _ _ _ _ (by simp)).trans HC2.out | fail), (by first | exact HB2.out.setCell (by simp) _ | exact (HB2.out.setCell (by simp) _).drew | exact HB2.out.drew.setCell (by simp) _ | fail)⟩
                       case measure => simp [intOf]; omega
                · have HD : Hid ((rest (4 - (m + 1)) (s.data.toList.drop b)).map ((pre ++ [acc]) ++ ·) = goal8 s) := by unfold Hid; rw [← HG2.out, dig_end _ b _ acc (by rw [HL.out]; omega), cont_done m pre acc _ hm]
                  go_wp2_with fail
                  go_roundw
                  case rel => exact ⟨m + 1, b, pre ++ [acc], by omega, by go_num, rfl, by omega, by simp [hpl], HD.out, by rw [← pad_set m pre acc hm hpl]; exact HA2.out, HC2.out, HB2.out⟩
                  case measure => simp [intOf]; omega
            · have HGS : Hid (goal8 s = some (pre ++ List.replicate (4 - m) 0)) := by
                unfold Hid
                rw [← HGR.out, show 4 - m = 0 by omega]
                simp [rest]
              obtain ⟨x0, x1, x2, x3, hv⟩ : ∃ x0 x1 x2 x3 : Int, pre ++ List.replicate (4 - m) 0 = [x0, x1, x2, x3] := by
                have hl : (pre ++ List.replicate (4 - m) 0).length = 4 := by simp [hpl]; omega
                match pre ++ List.replicate (4 - m) 0, hl with
                | [a0, a1, a2, a3], _ => exact ⟨a0, a1, a2, a3, rfl⟩
              rw [hv] at HA HGS
              have HON := Lib.hid (goal8_some HGS.out)
              clear hv HGS
              go_wp2_with fail
              go_loopw [8, 9] (fun kv _ wr => ∃ k : Nat, 1 ≤ k ∧ k ≤ 12 ∧ kv = .int .i64 k ∧ Hid (IntArr 113 wr (w.heap.size + 1) [x0, x1, x2, x3]) ∧ Hid (wr.heap[w.heap.size]? = some zop8.obj) ∧ Hid (Below w.heap.size w wr) ∧ Hid (∀ j : Int, 1 ≤ j → j < k → otext ⟨j, x0, x1, x2⟩ ≠ s)) (fun kv _ _ => 12 - (intOf kv).toNat)
              case atStart => exact ⟨1, by omega, by omega, rfl, HA.out, HC.out, HB.out, fun j h1 h2 => by omega⟩
              case round =>
                obtain ⟨k, hk1, hk, rfl, HA5, HC5, HB5, HJ⟩ := hrel
                by_cases hlt : k < 12
                · have i1 : ((k : Nat) : Int) ≤ 11 := by omega
                  have g0 : decide (((k : Nat) : Int) ≤ 11) = true := by simp; omega
                  have g1 : k ≤ 11 := by omega
                  have y0 : wr.cell? ⟨w.heap.size + 1, 0, none⟩ = some (.int .i64 x0) := HA5.out.cell (k := 0) (by simp)
                  have y1 : wr.cell? ⟨w.heap.size + 1, 1, none⟩ = some (.int .i64 x1) := HA5.out.cell (k := 1) (by simp)
                  have y2 : wr.cell? ⟨w.heap.size + 1, 2, none⟩ = some (.int .i64 x2) := HA5.out.cell (k := 2) (by simp)
                  have hs5 := HA5.out.lt
                  obtain ⟨WA, hWA⟩ : ∃ W, W = wr.alloc (⟨(k : Int), x0, x1, x2⟩ : Opr).obj := ⟨_, rfl⟩
                  have HBA : Hid (Below w.heap.size w WA) := by rw [hWA]; exact HB5.out.alloc HB5.out.size _
                  have HCA : Hid (WA.heap[w.heap.size]? = some zop8.obj) := by rw [hWA]; exact (Below.heap_alloc _ _ _ (block_lt HC5.out)).trans HC5.out
                  have HAA : Hid (IntArr 113 WA (w.heap.size + 1) [x0, x1, x2, x3]) := by rw [hWA]; exact (Below.heap_alloc _ _ _ hs5).trans HA5.out
                  have HXA : Hid (WA.heap[wr.heap.size]? = some (⟨(k : Int), x0, x1, x2⟩ : Opr).obj) := by rw [hWA]; exact heap_alloc_new wr _
                  have HTX : Hid (∀ W, Calls Tryd.prog 39 #[.agg #[.int .i64 (k : Int), .int .i64 x0, .int .i64 x1, .int .i64 x2]] W fun e w' => e = .returned (.string (otext ⟨(k : Int), x0, x1, x2⟩)) ∧ Below W.heap.size W w') := fun W => ref8text_any W ⟨(k : Int), x0, x1, x2⟩ (onums_fits HON.out (by omega))
                  have HALL : Hid (∀ W, Below WA.heap.size WA W → W.cell? ⟨wr.heap.size, 0, none⟩ = some (.int .i64 (k : Int)) ∧ W.cell? ⟨wr.heap.size, 1, none⟩ = some (.int .i64 x0) ∧ W.cell? ⟨wr.heap.size, 2, none⟩ = some (.int .i64 x1) ∧ W.cell? ⟨wr.heap.size, 3, none⟩ = some (.int .i64 x2) ∧ Below WA.heap.size WA W) := fun W hB => by
                    obtain ⟨q0, q1, q2, q3⟩ := opr_cells ((hB.block _ (block_lt HXA.out)).trans HXA.out)
                    exact ⟨q0, q1, q2, q3, hB⟩
                  have HLT := Lib.hid hlt
                  by_cases hts : otext ⟨(k : Int), x0, x1, x2⟩ = s
                  · have q1 := strT hts
                    have HNY : Hid (oread s = (⟨(k : Int), x0, x1, x2⟩, 0)) := onums_yes HON.out (by omega) hts
                    have HPL : Hid (∀ W, Calls Tryd.prog 40 #[.agg #[.int .i64 (k : Int), .int .i64 x0, .int .i64 x1, .int .i64 x2]] W fun e w' => e = .returned (.agg #[.int .i64 (k : Int), .int .i64 x0, .int .i64 x1, .int .i64 x2]) ∧ Below W.heap.size W w') := fun W => by have h := plain_any W ⟨(k : Int), x0, x1, x2⟩; rw [onums_plain HON.out (by omega) hts] at h; exact h
                    have heq : ∀ W : World, (binOp .eql 56 (.agg #[.int .i64 (k : Int), .int .i64 x0, .int .i64 x1, .int .i64 x2]) (.agg #[.int .i64 (k : Int), .int .i64 x0, .int .i64 x1, .int .i64 x2])).run Tryd.prog W = .ok (.bool true) W := fun W => by
                      have h := opr_eql W ⟨(k : Int), x0, x1, x2⟩ ⟨(k : Int), x0, x1, x2⟩
                      rw [decide_eq_true rfl] at h
                      exact h
                    clear hts hlt hk
                    generalize otext ⟨(k : Int), x0, x1, x2⟩ = tx at q1 HTX
                    go_wp2_with fail
                    rw [← hWA]
                    clear hWA y0 y1 y2
                    refine wp_region_held_drew (S := fun W => W.cell? ⟨wr.heap.size, 0, none⟩ = some (.int .i64 (k : Int)) ∧ W.cell? ⟨wr.heap.size, 1, none⟩ = some (.int .i64 x0) ∧ W.cell? ⟨wr.heap.size, 2, none⟩ = some (.int .i64 x1) ∧ W.cell? ⟨wr.heap.size, 3, none⟩ = some (.int .i64 x2) ∧ Below WA.heap.size WA W) (by kernel_rfl) ?_ (fun hHeld => ?_)
                    · exact HALL.out _ (Below.refl _ _).drew
                    refine wpAnyH_take (i := 0) (oi := ?oi1) (v := ?v1) ?hi1 (by kernel_rfl) (by kernel_rfl) (by kernel_rfl) ?hq1 (Or.inl ⟨?hw1, ?hy1⟩) (by assumption) ?rest1
                    case hi1 => simp only [List.getElem?_toArray, List.getElem?_cons_succ, List.getElem?_cons_zero]; rfl
                    case hq1 => exact fun _ _ _ h => h
                    case hw1 => kernel_rfl
                    case hy1 => (intro w hSw; (try dsimp only at hSw); go_simp; try with_reducible rfl)
                    try simp only [Act.put, List.setIfInBounds_toArray, List.set_cons_zero, List.set_cons_succ]
                    refine wpAnyH_take (i := 2) (oi := ?oi2) (v := ?v2) ?hi2 (by kernel_rfl) (by kernel_rfl) (by kernel_rfl) ?hq2 (Or.inl ⟨?hw2, ?hy2⟩) (by assumption) ?rest2
                    case hi2 => simp only [List.getElem?_toArray, List.getElem?_cons_succ, List.getElem?_cons_zero]; rfl
                    case hq2 => exact fun _ _ _ h => h
                    case hw2 => kernel_rfl
                    case hy2 => (intro w hSw; (try dsimp only at hSw); go_simp; try with_reducible rfl)
                    try simp only [Act.put, List.setIfInBounds_toArray, List.set_cons_zero, List.set_cons_succ]
                    refine wpAnyH_ready (rs := [1]) (by kernel_rfl) (by simp) ?_
                    refine AllReadyH.cons (o := ?o3) ?ho3 (fun K hK => ?st3) AllReadyH.nil
                    case ho3 => simp only [List.getElem?_toArray, List.getElem?_cons_succ, List.getElem?_cons_zero]; rfl
                    go_simp
                    go_at_call 39
                    refine (HTX.out _).mono ?_
                    rintro e wq ⟨rfl, hb2⟩
                    have hBel := Below.trans hHeld.2.2.2.2 (hb2.mono (Below.size hHeld.2.2.2.2))
                    clear hHeld
                    try go_simp
                    refine hK.out _ _ ?_ (fun hHeld => ?_)
                    · exact HALL.out _ hBel
                    clear hK K hb2 hBel
                    try simp only [Act.put, List.setIfInBounds_toArray, List.set_cons_zero, List.set_cons_succ]
                    refine wpAnyH_take (i := 3) (oi := ?oi4) (v := ?v4) ?hi4 (by kernel_rfl) (by kernel_rfl) (by kernel_rfl) ?hq4 (Or.inl ⟨?hw4, ?hy4⟩) (by assumption) ?rest4
                    case hi4 => simp only [List.getElem?_toArray, List.getElem?_cons_succ, List.getElem?_cons_zero]; rfl
                    case hq4 => exact fun _ _ _ h => h
                    case hw4 => kernel_rfl
                    case hy4 => (intro w hSw; (try dsimp only at hSw); go_simp; try with_reducible rfl)
                    try simp only [Act.put, List.setIfInBounds_toArray, List.set_cons_zero, List.set_cons_succ]
                    refine wpAnyH_take (i := 4) (oi := ?oi5) (v := ?v5) ?hi5 (by kernel_rfl) (by kernel_rfl) (by kernel_rfl) ?hq5 (Or.inl ⟨?hw5, ?hy5⟩) (by assumption) ?rest5
                    case hi5 => simp only [List.getElem?_toArray, List.getElem?_cons_succ, List.getElem?_cons_zero]; rfl
                    case hq5 => exact fun _ _ _ h => h
                    case hw5 => kernel_rfl
                    case hy5 => (intro w hSw; (try dsimp only at hSw); go_simp; try with_reducible rfl)
                    try simp only [Act.put, List.setIfInBounds_toArray, List.set_cons_zero, List.set_cons_succ]
                    refine wpAnyH_take (i := 5) (oi := ?oi6) (v := ?v6) ?hi6 (by kernel_rfl) (by kernel_rfl) (by kernel_rfl) ?hq6 (Or.inl ⟨?hw6, ?hy6⟩) (by assumption) ?rest6
                    case hi6 => simp only [List.getElem?_toArray, List.getElem?_cons_succ, List.getElem?_cons_zero]; rfl
                    case hq6 => exact fun _ _ _ h => h
                    case hw6 => kernel_rfl
                    case hy6 => (intro w hSw; (try dsimp only at hSw); go_simp; try with_reducible rfl)
                    try simp only [Act.put, List.setIfInBounds_toArray, List.set_cons_zero, List.set_cons_succ]
                    refine wpAnyH_take (i := 7) (oi := ?oi7) (v := ?v7) ?hi7 (by kernel_rfl) (by kernel_rfl) (by kernel_rfl) ?hq7 (Or.inl ⟨?hw7, ?hy7⟩) (by assumption) ?rest7
                    case hi7 => simp only [List.getElem?_toArray, List.getElem?_cons_succ, List.getElem?_cons_zero]; rfl
                    case hq7 => exact fun _ _ _ h => h
                    case hw7 => kernel_rfl
                    case hy7 => (intro w hSw; (try dsimp only at hSw); go_simp; try with_reducible rfl)
                    try simp only [Act.put, List.setIfInBounds_toArray, List.set_cons_zero, List.set_cons_succ]
                    refine wpAnyH_ready (rs := [6]) (by kernel_rfl) (by simp) ?_
                    refine AllReadyH.cons (o := ?o8) ?ho8 (fun K hK => ?st8) AllReadyH.nil
                    case ho8 => simp only [List.getElem?_toArray, List.getElem?_cons_succ, List.getElem?_cons_zero]; rfl
                    go_simp
                    go_at_call 40
                    refine (HPL.out _).mono ?_
                    rintro e wq ⟨rfl, hb2⟩
                    have hBel := Below.trans hHeld.2.2.2.2 (hb2.mono (Below.size hHeld.2.2.2.2))
                    clear hHeld
                    try go_simp
                    refine hK.out _ _ ?_ (fun hHeld => ?_)
                    · exact HALL.out _ hBel
                    clear hK K hb2 hBel
                    try simp only [Act.put, List.setIfInBounds_toArray, List.set_cons_zero, List.set_cons_succ]
                    refine wpAnyH_take (i := 8) (oi := ?oi9) (v := ?v9) ?hi9 (by kernel_rfl) (by kernel_rfl) (by kernel_rfl) ?hq9 (Or.inl ⟨?hw9, ?hy9⟩) (by assumption) ?rest9
                    case hi9 => simp only [List.getElem?_toArray, List.getElem?_cons_succ, List.getElem?_cons_zero]; rfl
                    case hq9 => exact fun _ _ _ h => h
                    case hw9 => kernel_rfl
                    case hy9 => (intro w hSw; (try dsimp only at hSw); go_simp; try with_reducible rfl)
                    try simp only [Act.put, List.setIfInBounds_toArray, List.set_cons_zero, List.set_cons_succ]
                    refine wpAnyH_take (i := 9) (oi := ?oi10) (v := ?v10) ?hi10 (by kernel_rfl) (by kernel_rfl) (by kernel_rfl) ?hq10 (Or.inl ⟨?hw10, ?hy10⟩) (by assumption) ?rest10
                    case hi10 => simp only [List.getElem?_toArray, List.getElem?_cons_succ, List.getElem?_cons_zero]; rfl
                    case hq10 => exact fun _ _ _ h => h
                    case hw10 => kernel_rfl
                    case hy10 => (intro w hSw; (try dsimp only at hSw); go_simp; try with_reducible rfl)
                    try simp only [Act.put, List.setIfInBounds_toArray, List.set_cons_zero, List.set_cons_succ]
                    refine wpAnyH_done (by kernel_rfl) ?_ _
                    have hq : Below WA.heap.size WA wq := hHeld.2.2.2.2
                    have HBq : Hid (Below w.heap.size w wq) := HBA.out.trans (hq.mono HBA.out.size)
                    have HCq : Hid (wq.heap[w.heap.size]? = some zop8.obj) := (hq.block _ (block_lt HCA.out)).trans HCA.out
                    have HXq : Hid (wq.heap[wr.heap.size]? = some (⟨(k : Int), x0, x1, x2⟩ : Opr).obj) := (hq.block _ (block_lt HXA.out)).trans HXA.out
                    clear hHeld hq
                    obtain ⟨v0, v1, v2, v3⟩ := opr_cells HXq.out
                    have hsq := block_lt HXq.out
                    obtain ⟨z0, z1, z2, z3⟩ := opr_cells HCq.out
                    have f0 := frozen_of_block HCq.out 0
                    have f1 := frozen_of_block HCq.out 1
                    have f2 := frozen_of_block HCq.out 2
                    have f3 := frozen_of_block HCq.out 3
                    have hsz0 := block_lt HCq.out
                    go_wp2_with fail
                    exact bodyPost_ret (v := .tuple #[.agg #[.int .i64 (k : Int), .int .i64 x0, .int .i64 x1, .int .i64 x2], .int .i64 0]) (by simp [results, Tryd.results41, go_sem, z0, z1, z2, z3]) rfl
                      ⟨by rw [HNY.out], by repeat (first | exact HBq.out | refine Below.setCell ?_ (by simp) _)⟩
                  · have q1 := strF hts
                    have HNX : Hid (∀ j : Int, 1 ≤ j → j < ((k + 1 : Nat) : Int) → otext ⟨j, x0, x1, x2⟩ ≠ s) := fun j h1 h2 => by
                      by_cases e : j = (k : Int)
                      · rw [e]; exact hts
                      · exact HJ.out j h1 (by omega)
                    clear hts hlt hk
                    generalize otext ⟨(k : Int), x0, x1, x2⟩ = tx at q1 HTX
                    go_wp2_with fail
                    rw [← hWA]
                    clear hWA y0 y1 y2
                    refine wp_region_held_drew (S := fun W => W.cell? ⟨wr.heap.size, 0, none⟩ = some (.int .i64 (k : Int)) ∧ W.cell? ⟨wr.heap.size, 1, none⟩ = some (.int .i64 x0) ∧ W.cell? ⟨wr.heap.size, 2, none⟩ = some (.int .i64 x1) ∧ W.cell? ⟨wr.heap.size, 3, none⟩ = some (.int .i64 x2) ∧ Below WA.heap.size WA W) (by kernel_rfl) ?_ (fun hHeld => ?_)
                    · exact HALL.out _ (Below.refl _ _).drew
                    refine wpAnyH_take (i := 0) (oi := ?oi11) (v := ?v11) ?hi11 (by kernel_rfl) (by kernel_rfl) (by kernel_rfl) ?hq11 (Or.inl ⟨?hw11, ?hy11⟩) (by assumption) ?rest11
                    case hi11 => simp only [List.getElem?_toArray, List.getElem?_cons_succ, List.getElem?_cons_zero]; rfl
                    case hq11 => exact fun _ _ _ h => h
                    case hw11 => kernel_rfl
                    case hy11 => (intro w hSw; (try dsimp only at hSw); go_simp; try with_reducible rfl)
                    try simp only [Act.put, List.setIfInBounds_toArray, List.set_cons_zero, List.set_cons_succ]
                    refine wpAnyH_take (i := 2) (oi := ?oi12) (v := ?v12) ?hi12 (by kernel_rfl) (by kernel_rfl) (by kernel_rfl) ?hq12 (Or.inl ⟨?hw12, ?hy12⟩) (by assumption) ?rest12
                    case hi12 => simp only [List.getElem?_toArray, List.getElem?_cons_succ, List.getElem?_cons_zero]; rfl
                    case hq12 => exact fun _ _ _ h => h
                    case hw12 => kernel_rfl
                    case hy12 => (intro w hSw; (try dsimp only at hSw); go_simp; try with_reducible rfl)
                    try simp only [Act.put, List.setIfInBounds_toArray, List.set_cons_zero, List.set_cons_succ]
                    refine wpAnyH_ready (rs := [1]) (by kernel_rfl) (by simp) ?_
                    refine AllReadyH.cons (o := ?o13) ?ho13 (fun K hK => ?st13) AllReadyH.nil
                    case ho13 => simp only [List.getElem?_toArray, List.getElem?_cons_succ, List.getElem?_cons_zero]; rfl
                    go_simp
                    go_at_call 39
                    refine (HTX.out _).mono ?_
                    rintro e wq ⟨rfl, hb2⟩
                    have hBel := Below.trans hHeld.2.2.2.2 (hb2.mono (Below.size hHeld.2.2.2.2))
                    clear hHeld
                    try go_simp
                    refine hK.out _ _ ?_ (fun hHeld => ?_)
                    · exact HALL.out _ hBel
                    clear hK K hb2 hBel
                    try simp only [Act.put, List.setIfInBounds_toArray, List.set_cons_zero, List.set_cons_succ]
                    refine wpAnyH_take (i := 3) (oi := ?oi14) (v := ?v14) ?hi14 (by kernel_rfl) (by kernel_rfl) (by kernel_rfl) ?hq14 (Or.inl ⟨?hw14, ?hy14⟩) (by assumption) ?rest14
                    case hi14 => simp only [List.getElem?_toArray, List.getElem?_cons_succ, List.getElem?_cons_zero]; rfl
                    case hq14 => exact fun _ _ _ h => h
                    case hw14 => kernel_rfl
                    case hy14 => (intro w hSw; (try dsimp only at hSw); go_simp; try with_reducible rfl)
                    try simp only [Act.put, List.setIfInBounds_toArray, List.set_cons_zero, List.set_cons_succ]
                    refine wpAnyH_take (i := 4) (oi := ?oi15) (v := ?v15) ?hi15 (by kernel_rfl) (by kernel_rfl) (by kernel_rfl) ?hq15 (Or.inl ⟨?hw15, ?hy15⟩) (by assumption) ?rest15
                    case hi15 => simp only [List.getElem?_toArray, List.getElem?_cons_succ, List.getElem?_cons_zero]; rfl
                    case hq15 => exact fun _ _ _ h => h
                    case hw15 => kernel_rfl
                    case hy15 => (intro w hSw; (try dsimp only at hSw); go_simp; try with_reducible rfl)
                    try simp only [Act.put, List.setIfInBounds_toArray, List.set_cons_zero, List.set_cons_succ]
                    refine wpAnyH_take (i := 5) (oi := ?oi16) (v := undef) ?hi16 (by kernel_rfl) (by kernel_rfl) (by kernel_rfl) ?hq16 (Or.inr ⟨?hw16, rfl⟩) (by assumption) ?rest16
                    case hi16 => simp only [List.getElem?_toArray, List.getElem?_cons_succ, List.getElem?_cons_zero]; rfl
                    case hq16 => exact fun _ _ _ h => h
                    case hw16 => kernel_rfl
                    try simp only [Act.put, List.setIfInBounds_toArray, List.set_cons_zero, List.set_cons_succ]
                    refine wpAnyH_take (i := 6) (oi := ?oi17) (v := undef) ?hi17 (by kernel_rfl) (by kernel_rfl) (by kernel_rfl) ?hq17 (Or.inr ⟨?hw17, rfl⟩) (by assumption) ?rest17
                    case hi17 => simp only [List.getElem?_toArray, List.getElem?_cons_succ, List.getElem?_cons_zero]; rfl
                    case hq17 => exact fun _ _ _ h => h
                    case hw17 => kernel_rfl
                    try simp only [Act.put, List.setIfInBounds_toArray, List.set_cons_zero, List.set_cons_succ]
                    refine wpAnyH_take (i := 7) (oi := ?oi18) (v := undef) ?hi18 (by kernel_rfl) (by kernel_rfl) (by kernel_rfl) ?hq18 (Or.inr ⟨?hw18, rfl⟩) (by assumption) ?rest18
                    case hi18 => simp only [List.getElem?_toArray, List.getElem?_cons_succ, List.getElem?_cons_zero]; rfl
                    case hq18 => exact fun _ _ _ h => h
                    case hw18 => kernel_rfl
                    try simp only [Act.put, List.setIfInBounds_toArray, List.set_cons_zero, List.set_cons_succ]
                    refine wpAnyH_take (i := 8) (oi := ?oi19) (v := undef) ?hi19 (by kernel_rfl) (by kernel_rfl) (by kernel_rfl) ?hq19 (Or.inr ⟨?hw19, rfl⟩) (by assumption) ?rest19
                    case hi19 => simp only [List.getElem?_toArray, List.getElem?_cons_succ, List.getElem?_cons_zero]; rfl
                    case hq19 => exact fun _ _ _ h => h
                    case hw19 => kernel_rfl
                    try simp only [Act.put, List.setIfInBounds_toArray, List.set_cons_zero, List.set_cons_succ]
                    refine wpAnyH_take (i := 9) (oi := ?oi20) (v := ?v20) ?hi20 (by kernel_rfl) (by kernel_rfl) (by kernel_rfl) ?hq20 (Or.inl ⟨?hw20, ?hy20⟩) (by assumption) ?rest20
                    case hi20 => simp only [List.getElem?_toArray, List.getElem?_cons_succ, List.getElem?_cons_zero]; rfl
                    case hq20 => exact fun _ _ _ h => h
                    case hw20 => kernel_rfl
                    case hy20 => (intro w hSw; (try dsimp only at hSw); go_simp; try with_reducible rfl)
                    try simp only [Act.put, List.setIfInBounds_toArray, List.set_cons_zero, List.set_cons_succ]
                    refine wpAnyH_done (by kernel_rfl) ?_ _
                    have hq : Below WA.heap.size WA wq := hHeld.2.2.2.2
                    have HBq : Hid (Below w.heap.size w wq) := HBA.out.trans (hq.mono HBA.out.size)
                    have HCq : Hid (wq.heap[w.heap.size]? = some zop8.obj) := (hq.block _ (block_lt HCA.out)).trans HCA.out
                    have HAq : Hid (IntArr 113 wq (w.heap.size + 1) [x0, x1, x2, x3]) := HAA.out.below HAA.out.lt hq
                    clear hHeld hq
                    go_wp2_with fail
                    go_roundw
                    case rel => exact ⟨k + 1, by omega, by have := HLT.out; omega, by go_num, HAq.out, HCq.out, HBq.out, HNX.out⟩
                    case measure => have := HLT.out; simp [intOf]; omega
                · obtain rfl : k = 12 := by omega
                  have HNY : Hid (oread s = (⟨0, 0, 0, 0⟩, 3)) := onums_no HON.out (fun j hj => HJ.out j hj.1 (by omega))
                  clear hlt hk hk1
                  obtain ⟨z0, z1, z2, z3⟩ := opr_cells HC5.out
                  have f0 := frozen_of_block HC5.out 0
                  have f1 := frozen_of_block HC5.out 1
                  have f2 := frozen_of_block HC5.out 2
                  have f3 := frozen_of_block HC5.out 3
                  have hsz0 := block_lt HC5.out
                  go_wp2_with fail
                  exact bodyPost_ret (v := .tuple #[.agg #[.int .i64 0, .int .i64 0, .int .i64 0, .int .i64 0], .int .i64 3]) (by simp [results, Tryd.results41, go_sem, z0, z1, z2, z3]) rfl
                    ⟨by rw [HNY.out], by repeat (first | exact HB5.out | refine Below.setCell ?_ (by simp) _)⟩
          · have HGS : Hid (goal8 s = some (pre ++ List.replicate (4 - m) 0)) := by
              unfold Hid
              rw [← HGR.out, List.drop_eq_nil_of_le (by rw [HL.out]; omega), rest_nil]
              rfl
            obtain ⟨x0, x1, x2, x3, hv⟩ : ∃ x0 x1 x2 x3 : Int, pre ++ List.replicate (4 - m) 0 = [x0, x1, x2, x3] := by
              have hl : (pre ++ List.replicate (4 - m) 0).length = 4 := by simp [hpl]; omega
              match pre ++ List.replicate (4 - m) 0, hl with
              | [a0, a1, a2, a3], _ => exact ⟨a0, a1, a2, a3, rfl⟩
            rw [hv] at HA HGS
            have HON := Lib.hid (goal8_some HGS.out)
            clear hv HGS
            go_wp2_with fail
            go_loopw [8, 9] (fun kv _ wr => ∃ k : Nat, 1 ≤ k ∧ k ≤ 12 ∧ kv = .int .i64 k ∧ Hid (IntArr 113 wr (w.heap.size + 1) [x0, x1, x2, x3]) ∧ Hid (wr.heap[w.heap.size]? = some zop8.obj) ∧ Hid (Below w.heap.size w wr) ∧ Hid (∀ j : Int, 1 ≤ j → j < k → otext ⟨j, x0, x1, x2⟩ ≠ s)) (fun kv _ _ => 12 - (intOf kv).toNat)
            case atStart => exact ⟨1, by omega, by omega, rfl, HA.out, HC.out, HB.out, fun j h1 h2 => by omega⟩
            case round =>
              obtain ⟨k, hk1, hk, rfl, HA5, HC5, HB5, HJ⟩ := hrel
              by_cases hlt : k < 12
              · have i1 : ((k : Nat) : Int) ≤ 11 := by omega
                have g0 : decide (((k : Nat) : Int) ≤ 11) = true := by simp; omega
                have g1 : k ≤ 11 := by omega
                have y0 : wr.cell? ⟨w.heap.size + 1, 0, none⟩ = some (.int .i64 x0) := HA5.out.cell (k := 0) (by simp)
                have y1 : wr.cell? ⟨w.heap.size + 1, 1, none⟩ = some (.int .i64 x1) := HA5.out.cell (k := 1) (by simp)
                have y2 : wr.cell? ⟨w.heap.size + 1, 2, none⟩ = some (.int .i64 x2) := HA5.out.cell (k := 2) (by simp)
                have hs5 := HA5.out.lt
                obtain ⟨WA, hWA⟩ : ∃ W, W = wr.alloc (⟨(k : Int), x0, x1, x2⟩ : Opr).obj := ⟨_, rfl⟩
                have HBA : Hid (Below w.heap.size w WA) := by rw [hWA]; exact HB5.out.alloc HB5.out.size _
                have HCA : Hid (WA.heap[w.heap.size]? = some zop8.obj) := by rw [hWA]; exact (Below.heap_alloc _ _ _ (block_lt HC5.out)).trans HC5.out
                have HAA : Hid (IntArr 113 WA (w.heap.size + 1) [x0, x1, x2, x3]) := by rw [hWA]; exact (Below.heap_alloc _ _ _ hs5).trans HA5.out
                have HXA : Hid (WA.heap[wr.heap.size]? = some (⟨(k : Int), x0, x1, x2⟩ : Opr).obj) := by rw [hWA]; exact heap_alloc_new wr _
                have HTX : Hid (∀ W, Calls Tryd.prog 39 #[.agg #[.int .i64 (k : Int), .int .i64 x0, .int .i64 x1, .int .i64 x2]] W fun e w' => e = .returned (.string (otext ⟨(k : Int), x0, x1, x2⟩)) ∧ Below W.heap.size W w') := fun W => ref8text_any W ⟨(k : Int), x0, x1, x2⟩ (onums_fits HON.out (by omega))
                have HALL : Hid (∀ W, Below WA.heap.size WA W → W.cell? ⟨wr.heap.size, 0, none⟩ = some (.int .i64 (k : Int)) ∧ W.cell? ⟨wr.heap.size, 1, none⟩ = some (.int .i64 x0) ∧ W.cell? ⟨wr.heap.size, 2, none⟩ = some (.int .i64 x1) ∧ W.cell? ⟨wr.heap.size, 3, none⟩ = some (.int .i64 x2) ∧ Below WA.heap.size WA W) := fun W hB => by
                  obtain ⟨q0, q1, q2, q3⟩ := opr_cells ((hB.block _ (block_lt HXA.out)).trans HXA.out)
                  exact ⟨q0, q1, q2, q3, hB⟩
                have HLT := Lib.hid hlt
                by_cases hts : otext ⟨(k : Int), x0, x1, x2⟩ = s
                · have q1 := strT hts
                  have HNY : Hid (oread s = (⟨(k : Int), x0, x1, x2⟩, 0)) := onums_yes HON.out (by omega) hts
                  have HPL : Hid (∀ W, Calls Tryd.prog 40 #[.agg #[.int .i64 (k : Int), .int .i64 x0, .int .i64 x1, .int .i64 x2]] W fun e w' => e = .returned (.agg #[.int .i64 (k : Int), .int .i64 x0, .int .i64 x1, .int .i64 x2]) ∧ Below W.heap.size W w') := fun W => by have h := plain_any W ⟨(k : Int), x0, x1, x2⟩; rw [onums_plain HON.out (by omega) hts] at h; exact h
                  have heq : ∀ W : World, (binOp .eql 56 (.agg #[.int .i64 (k : Int), .int .i64 x0, .int .i64 x1, .int .i64 x2]) (.agg #[.int .i64 (k : Int), .int .i64 x0, .int .i64 x1, .int .i64 x2])).run Tryd.prog W = .ok (.bool true) W := fun W => by
                    have h := opr_eql W ⟨(k : Int), x0, x1, x2⟩ ⟨(k : Int), x0, x1, x2⟩
                    rw [decide_eq_true rfl] at h
                    exact h
                  clear hts hlt hk
                  generalize otext ⟨(k : Int), x0, x1, x2⟩ = tx at q1 HTX
                  go_wp2_with fail
                  rw [← hWA]
                  clear hWA y0 y1 y2
                  refine wp_region_held_drew (S := fun W => W.cell? ⟨wr.heap.size, 0, none⟩ = some (.int .i64 (k : Int)) ∧ W.cell? ⟨wr.heap.size, 1, none⟩ = some (.int .i64 x0) ∧ W.cell? ⟨wr.heap.size, 2, none⟩ = some (.int .i64 x1) ∧ W.cell? ⟨wr.heap.size, 3, none⟩ = some (.int .i64 x2) ∧ Below WA.heap.size WA W) (by kernel_rfl) ?_ (fun hHeld => ?_)
                  · exact HALL.out _ (Below.refl _ _).drew
                  refine wpAnyH_take (i := 0) (oi := ?oi21) (v := ?v21) ?hi21 (by kernel_rfl) (by kernel_rfl) (by kernel_rfl) ?hq21 (Or.inl ⟨?hw21, ?hy21⟩) (by assumption) ?rest21
                  case hi21 => simp only [List.getElem?_toArray, List.getElem?_cons_succ, List.getElem?_cons_zero]; rfl
                  case hq21 => exact fun _ _ _ h => h
                  case hw21 => kernel_rfl
                  case hy21 => (intro w hSw; (try dsimp only at hSw); go_simp; try with_reducible rfl)
                  try simp only [Act.put, List.setIfInBounds_toArray, List.set_cons_zero, List.set_cons_succ]
                  refine wpAnyH_take (i := 2) (oi := ?oi22) (v := ?v22) ?hi22 (by kernel_rfl) (by kernel_rfl) (by kernel_rfl) ?hq22 (Or.inl ⟨?hw22, ?hy22⟩) (by assumption) ?rest22
                  case hi22 => simp only [List.getElem?_toArray, List.getElem?_cons_succ, List.getElem?_cons_zero]; rfl
                  case hq22 => exact fun _ _ _ h => h
                  case hw22 => kernel_rfl
                  case hy22 => (intro w hSw; (try dsimp only at hSw); go_simp; try with_reducible rfl)
                  try simp only [Act.put, List.setIfInBounds_toArray, List.set_cons_zero, List.set_cons_succ]
                  refine wpAnyH_ready (rs := [1]) (by kernel_rfl) (by simp) ?_
                  refine AllReadyH.cons (o := ?o23) ?ho23 (fun K hK => ?st23) AllReadyH.nil
                  case ho23 => simp only [List.getElem?_toArray, List.getElem?_cons_succ, List.getElem?_cons_zero]; rfl
                  go_simp
                  go_at_call 39
                  refine (HTX.out _).mono ?_
                  rintro e wq ⟨rfl, hb2⟩
                  have hBel := Below.trans hHeld.2.2.2.2 (hb2.mono (Below.size hHeld.2.2.2.2))
                  clear hHeld
                  try go_simp
                  refine hK.out _ _ ?_ (fun hHeld => ?_)
                  · exact HALL.out _ hBel
                  clear hK K hb2 hBel
                  try simp only [Act.put, List.setIfInBounds_toArray, List.set_cons_zero, List.set_cons_succ]
                  refine wpAnyH_take (i := 3) (oi := ?oi24) (v := ?v24) ?hi24 (by kernel_rfl) (by kernel_rfl) (by kernel_rfl) ?hq24 (Or.inl ⟨?hw24, ?hy24⟩) (by assumption) ?rest24
                  case hi24 => simp only [List.getElem?_toArray, List.getElem?_cons_succ, List.getElem?_cons_zero]; rfl
                  case hq24 => exact fun _ _ _ h => h
                  case hw24 => kernel_rfl
                  case hy24 => (intro w hSw; (try dsimp only at hSw); go_simp; try with_reducible rfl)
                  try simp only [Act.put, List.setIfInBounds_toArray, List.set_cons_zero, List.set_cons_succ]
                  refine wpAnyH_take (i := 4) (oi := ?oi25) (v := ?v25) ?hi25 (by kernel_rfl) (by kernel_rfl) (by kernel_rfl) ?hq25 (Or.inl ⟨?hw25, ?hy25⟩) (by assumption) ?rest25
                  case hi25 => simp only [List.getElem?_toArray, List.getElem?_cons_succ, List.getElem?_cons_zero]; rfl
                  case hq25 => exact fun _ _ _ h => h
                  case hw25 => kernel_rfl
                  case hy25 => (intro w hSw; (try dsimp only at hSw); go_simp; try with_reducible rfl)
                  try simp only [Act.put, List.setIfInBounds_toArray, List.set_cons_zero, List.set_cons_succ]
                  refine wpAnyH_take (i := 5) (oi := ?oi26) (v := ?v26) ?hi26 (by kernel_rfl) (by kernel_rfl) (by kernel_rfl) ?hq26 (Or.inl ⟨?hw26, ?hy26⟩) (by assumption) ?rest26
                  case hi26 => simp only [List.getElem?_toArray, List.getElem?_cons_succ, List.getElem?_cons_zero]; rfl
                  case hq26 => exact fun _ _ _ h => h
                  case hw26 => kernel_rfl
                  case hy26 => (intro w hSw; (try dsimp only at hSw); go_simp; try with_reducible rfl)
                  try simp only [Act.put, List.setIfInBounds_toArray, List.set_cons_zero, List.set_cons_succ]
                  refine wpAnyH_take (i := 7) (oi := ?oi27) (v := ?v27) ?hi27 (by kernel_rfl) (by kernel_rfl) (by kernel_rfl) ?hq27 (Or.inl ⟨?hw27, ?hy27⟩) (by assumption) ?rest27
                  case hi27 => simp only [List.getElem?_toArray, List.getElem?_cons_succ, List.getElem?_cons_zero]; rfl
                  case hq27 => exact fun _ _ _ h => h
                  case hw27 => kernel_rfl
                  case hy27 => (intro w hSw; (try dsimp only at hSw); go_simp; try with_reducible rfl)
                  try simp only [Act.put, List.setIfInBounds_toArray, List.set_cons_zero, List.set_cons_succ]
                  refine wpAnyH_ready (rs := [6]) (by kernel_rfl) (by simp) ?_
                  refine AllReadyH.cons (o := ?o28) ?ho28 (fun K hK => ?st28) AllReadyH.nil
                  case ho28 => simp only [List.getElem?_toArray, List.getElem?_cons_succ, List.getElem?_cons_zero]; rfl
                  go_simp
                  go_at_call 40
                  refine (HPL.out _).mono ?_
                  rintro e wq ⟨rfl, hb2⟩
                  have hBel := Below.trans hHeld.2.2.2.2 (hb2.mono (Below.size hHeld.2.2.2.2))
                  clear hHeld
                  try go_simp
                  refine hK.out _ _ ?_ (fun hHeld => ?_)
                  · exact HALL.out _ hBel
                  clear hK K hb2 hBel
                  try simp only [Act.put, List.setIfInBounds_toArray, List.set_cons_zero, List.set_cons_succ]
                  refine wpAnyH_take (i := 8) (oi := ?oi29) (v := ?v29) ?hi29 (by kernel_rfl) (by kernel_rfl) (by kernel_rfl) ?hq29 (Or.inl ⟨?hw29, ?hy29⟩) (by assumption) ?rest29
                  case hi29 => simp only [List.getElem?_toArray, List.getElem?_cons_succ, List.getElem?_cons_zero]; rfl
                  case hq29 => exact fun _ _ _ h => h
                  case hw29 => kernel_rfl
                  case hy29 => (intro w hSw; (try dsimp only at hSw); go_simp; try with_reducible rfl)
                  try simp only [Act.put, List.setIfInBounds_toArray, List.set_cons_zero, List.set_cons_succ]
                  refine wpAnyH_take (i := 9) (oi := ?oi30) (v := ?v30) ?hi30 (by kernel_rfl) (by kernel_rfl) (by kernel_rfl) ?hq30 (Or.inl ⟨?hw30, ?hy30⟩) (by assumption) ?rest30
                  case hi30 => simp only [List.getElem?_toArray, List.getElem?_cons_succ, List.getElem?_cons_zero]; rfl
                  case hq30 => exact fun _ _ _ h => h
                  case hw30 => kernel_rfl
                  case hy30 => (intro w hSw; (try dsimp only at hSw); go_simp; try with_reducible rfl)
                  try simp only [Act.put, List.setIfInBounds_toArray, List.set_cons_zero, List.set_cons_succ]
                  refine wpAnyH_done (by kernel_rfl) ?_ _
                  have hq : Below WA.heap.size WA wq := hHeld.2.2.2.2
                  have HBq : Hid (Below w.heap.size w wq) := HBA.out.trans (hq.mono HBA.out.size)
                  have HCq : Hid (wq.heap[w.heap.size]? = some zop8.obj) := (hq.block _ (block_lt HCA.out)).trans HCA.out
                  have HXq : Hid (wq.heap[wr.heap.size]? = some (⟨(k : Int), x0, x1, x2⟩ : Opr).obj) := (hq.block _ (block_lt HXA.out)).trans HXA.out
                  clear hHeld hq
                  obtain ⟨v0, v1, v2, v3⟩ := opr_cells HXq.out
                  have hsq := block_lt HXq.out
                  obtain ⟨z0, z1, z2, z3⟩ := opr_cells HCq.out
                  have f0 := frozen_of_block HCq.out 0
                  have f1 := frozen_of_block HCq.out 1
                  have f2 := frozen_of_block HCq.out 2
                  have f3 := frozen_of_block HCq.out 3
                  have hsz0 := block_lt HCq.out
                  go_wp2_with fail
                  exact bodyPost_ret (v := .tuple #[.agg #[.int .i64 (k : Int), .int .i64 x0, .int .i64 x1, .int .i64 x2], .int .i64 0]) (by simp [results, Tryd.results41, go_sem, z0, z1, z2, z3]) rfl
                    ⟨by rw [HNY.out], by repeat (first | exact HBq.out | refine Below.setCell ?_ (by simp) _)⟩
                · have q1 := strF hts
                  have HNX : Hid (∀ j : Int, 1 ≤ j → j < ((k + 1 : Nat) : Int) → otext ⟨j, x0, x1, x2⟩ ≠ s) := fun j h1 h2 => by
                    by_cases e : j = (k : Int)
                    · rw [e]; exact hts
                    · exact HJ.out j h1 (by omega)
                  clear hts hlt hk
                  generalize otext ⟨(k : Int), x0, x1, x2⟩ = tx at q1 HTX
                  go_wp2_with fail
                  rw [← hWA]
                  clear hWA y0 y1 y2
                  refine wp_region_held_drew (S := fun W => W.cell? ⟨wr.heap.size, 0, none⟩ = some (.int .i64 (k : Int)) ∧ W.cell? ⟨wr.heap.size, 1, none⟩ = some (.int .i64 x0) ∧ W.cell? ⟨wr.heap.size, 2, none⟩ = some (.int .i64 x1) ∧ W.cell? ⟨wr.heap.size, 3, none⟩ = some (.int .i64 x2) ∧ Below WA.heap.size WA W) (by kernel_rfl) ?_ (fun hHeld => ?_)
                  · exact HALL.out _ (Below.refl _ _).drew
                  refine wpAnyH_take (i := 0) (oi := ?oi31) (v := ?v31) ?hi31 (by kernel_rfl) (by kernel_rfl) (by kernel_rfl) ?hq31 (Or.inl ⟨?hw31, ?hy31⟩) (by assumption) ?rest31
                  case hi31 => simp only [List.getElem?_toArray, List.getElem?_cons_succ, List.getElem?_cons_zero]; rfl
                  case hq31 => exact fun _ _ _ h => h
                  case hw31 => kernel_rfl
                  case hy31 => (intro w hSw; (try dsimp only at hSw); go_simp; try with_reducible rfl)
                  try simp only [Act.put, List.setIfInBounds_toArray, List.set_cons_zero, List.set_cons_succ]
                  refine wpAnyH_take (i := 2) (oi := ?oi32) (v := ?v32) ?hi32 (by kernel_rfl) (by kernel_rfl) (by kernel_rfl) ?hq32 (Or.inl ⟨?hw32, ?hy32⟩) (by assumption) ?rest32
                  case hi32 => simp only [List.getElem?_toArray, List.getElem?_cons_succ, List.getElem?_cons_zero]; rfl
                  case hq32 => exact fun _ _ _ h => h
                  case hw32 => kernel_rfl
                  case hy32 => (intro w hSw; (try dsimp only at hSw); go_simp; try with_reducible rfl)
                  try simp only [Act.put, List.setIfInBounds_toArray, List.set_cons_zero, List.set_cons_succ]
                  refine wpAnyH_ready (rs := [1]) (by kernel_rfl) (by simp) ?_
                  refine AllReadyH.cons (o := ?o33) ?ho33 (fun K hK => ?st33) AllReadyH.nil
                  case ho33 => simp only [List.getElem?_toArray, List.getElem?_cons_succ, List.getElem?_cons_zero]; rfl
                  go_simp
                  go_at_call 39
                  refine (HTX.out _).mono ?_
                  rintro e wq ⟨rfl, hb2⟩
                  have hBel := Below.trans hHeld.2.2.2.2 (hb2.mono (Below.size hHeld.2.2.2.2))
                  clear hHeld
                  try go_simp
                  refine hK.out _ _ ?_ (fun hHeld => ?_)
                  · exact HALL.out _ hBel
                  clear hK K hb2 hBel
                  try simp only [Act.put, List.setIfInBounds_toArray, List.set_cons_zero, List.set_cons_succ]
                  refine wpAnyH_take (i := 3) (oi := ?oi34) (v := ?v34) ?hi34 (by kernel_rfl) (by kernel_rfl) (by kernel_rfl) ?hq34 (Or.inl ⟨?hw34, ?hy34⟩) (by assumption) ?rest34
                  case hi34 => simp only [List.getElem?_toArray, List.getElem?_cons_succ, List.getElem?_cons_zero]; rfl
                  case hq34 => exact fun _ _ _ h => h
                  case hw34 => kernel_rfl
                  case hy34 => (intro w hSw; (try dsimp only at hSw); go_simp; try with_reducible rfl)
                  try simp only [Act.put, List.setIfInBounds_toArray, List.set_cons_zero, List.set_cons_succ]
                  refine wpAnyH_take (i := 4) (oi := ?oi35) (v := ?v35) ?hi35 (by kernel_rfl) (by kernel_rfl) (by kernel_rfl) ?hq35 (Or.inl ⟨?hw35, ?hy35⟩) (by assumption) ?rest35
                  case hi35 => simp only [List.getElem?_toArray, List.getElem?_cons_succ, List.getElem?_cons_zero]; rfl
                  case hq35 => exact fun _ _ _ h => h
                  case hw35 => kernel_rfl
                  case hy35 => (intro w hSw; (try dsimp only at hSw); go_simp; try with_reducible rfl)
                  try simp only [Act.put, List.setIfInBounds_toArray, List.set_cons_zero, List.set_cons_succ]
                  refine wpAnyH_take (i := 5) (oi := ?oi36) (v := undef) ?hi36 (by kernel_rfl) (by kernel_rfl) (by kernel_rfl) ?hq36 (Or.inr ⟨?hw36, rfl⟩) (by assumption) ?rest36
                  case hi36 => simp only [List.getElem?_toArray, List.getElem?_cons_succ, List.getElem?_cons_zero]; rfl
                  case hq36 => exact fun _ _ _ h => h
                  case hw36 => kernel_rfl
                  try simp only [Act.put, List.setIfInBounds_toArray, List.set_cons_zero, List.set_cons_succ]
                  refine wpAnyH_take (i := 6) (oi := ?oi37) (v := undef) ?hi37 (by kernel_rfl) (by kernel_rfl) (by kernel_rfl) ?hq37 (Or.inr ⟨?hw37, rfl⟩) (by assumption) ?rest37
                  case hi37 => simp only [List.getElem?_toArray, List.getElem?_cons_succ, List.getElem?_cons_zero]; rfl
                  case hq37 => exact fun _ _ _ h => h
                  case hw37 => kernel_rfl
                  try simp only [Act.put, List.setIfInBounds_toArray, List.set_cons_zero, List.set_cons_succ]
                  refine wpAnyH_take (i := 7) (oi := ?oi38) (v := undef) ?hi38 (by kernel_rfl) (by kernel_rfl) (by kernel_rfl) ?hq38 (Or.inr ⟨?hw38, rfl⟩) (by assumption) ?rest38
                  case hi38 => simp only [List.getElem?_toArray, List.getElem?_cons_succ, List.getElem?_cons_zero]; rfl
                  case hq38 => exact fun _ _ _ h => h
                  case hw38 => kernel_rfl
                  try simp only [Act.put, List.setIfInBounds_toArray, List.set_cons_zero, List.set_cons_succ]
                  refine wpAnyH_take (i := 8) (oi := ?oi39) (v := undef) ?hi39 (by kernel_rfl) (by kernel_rfl) (by kernel_rfl) ?hq39 (Or.inr ⟨?hw39, rfl⟩) (by assumption) ?rest39
                  case hi39 => simp only [List.getElem?_toArray, List.getElem?_cons_succ, List.getElem?_cons_zero]; rfl
                  case hq39 => exact fun _ _ _ h => h
                  case hw39 => kernel_rfl
                  try simp only [Act.put, List.setIfInBounds_toArray, List.set_cons_zero, List.set_cons_succ]
                  refine wpAnyH_take (i := 9) (oi := ?oi40) (v := ?v40) ?hi40 (by kernel_rfl) (by kernel_rfl) (by kernel_rfl) ?hq40 (Or.inl ⟨?hw40, ?hy40⟩) (by assumption) ?rest40
                  case hi40 => simp only [List.getElem?_toArray, List.getElem?_cons_succ, List.getElem?_cons_zero]; rfl
                  case hq40 => exact fun _ _ _ h => h
                  case hw40 => kernel_rfl
                  case hy40 => (intro w hSw; (try dsimp only at hSw); go_simp; try with_reducible rfl)
                  try simp only [Act.put, List.setIfInBounds_toArray, List.set_cons_zero, List.set_cons_succ]
                  refine wpAnyH_done (by kernel_rfl) ?_ _
                  have hq : Below WA.heap.size WA wq := hHeld.2.2.2.2
                  have HBq : Hid (Below w.heap.size w wq) := HBA.out.trans (hq.mono HBA.out.size)
                  have HCq : Hid (wq.heap[w.heap.size]? = some zop8.obj) := (hq.block _ (block_lt HCA.out)).trans HCA.out
                  have HAq : Hid (IntArr 113 wq (w.heap.size + 1) [x0, x1, x2, x3]) := HAA.out.below HAA.out.lt hq
                  clear hHeld hq
                  go_wp2_with fail
                  go_roundw
                  case rel => exact ⟨k + 1, by omega, by have := HLT.out; omega, by go_num, HAq.out, HCq.out, HBq.out, HNX.out⟩
                  case measure => have := HLT.out; simp [intOf]; omega
              · obtain rfl : k = 12 := by omega
                have HNY : Hid (oread s = (⟨0, 0, 0, 0⟩, 3)) := onums_no HON.out (fun j hj => HJ.out j hj.1 (by omega))
                clear hlt hk hk1
                obtain ⟨z0, z1, z2, z3⟩ := opr_cells HC5.out
                have f0 := frozen_of_block HC5.out 0
                have f1 := frozen_of_block HC5.out 1
                have f2 := frozen_of_block HC5.out 2
                have f3 := frozen_of_block HC5.out 3
                have hsz0 := block_lt HC5.out
                go_wp2_with fail
                exact bodyPost_ret (v := .tuple #[.agg #[.int .i64 0, .int .i64 0, .int .i64 0, .int .i64 0], .int .i64 3]) (by simp [results, Tryd.results41, go_sem, z0, z1, z2, z3]) rfl
                  ⟨by rw [HNY.out], by repeat (first | exact HB5.out | refine Below.setCell ?_ (by simp) _)⟩
      · have e33 : (((s[a2]'h2).toNat : Int) != 32) = true := by rw [bne_iff_ne]; omega
        have HNX : Hid (skip8 (s.data.toList.drop (a2 + 1)) = skip8 s.data.toList) := by
          unfold Hid
          rw [← HSK.out, skip8_step _ a2 (by rw [HL.out]; exact h2) (by rw [HG2.out]; exact fun e => h33 (by rw [e]; rfl))]
        clear h33
        go_wp2_with fail
        go_round
        case rel => exact ⟨a2 + 1, by go_num, by omega, HNX.out⟩
        case measure => simp [intOf]; omega
    · have HNX : Hid (s.data.toList.drop a2 = skip8 s.data.toList) := by
        unfold Hid
        rw [← HSK.out, skip8_end _ a2 (by rw [HL.out]; omega)]
      go_wp2_with fail
      go_loopw [5, 6, 7] (fun at_ mv _ wr => ∃ (m a : Nat) (pre : List Int), m ≤ 4 ∧ mv = .int .i64 m ∧ at_ = .int .i64 a ∧ a ≤ s.size ∧ pre.length = m ∧ Hid ((rest (4 - m) (s.data.toList.drop a)).map (pre ++ ·) = goal8 s) ∧ Hid (IntArr 113 wr (w.heap.size + 1) (pre ++ List.replicate (4 - m) 0)) ∧ Hid (wr.heap[w.heap.size]? = some zop8.obj) ∧ Hid (Below w.heap.size w wr)) (fun _ mv _ _ => 4 - (intOf mv).toNat)
      case atStart => exact ⟨0, a2, [], by omega, rfl, rfl, by omega, rfl, (by unfold Hid; rw [HNX.out]; simp [goal8]), HA0.out, HC0.out, HB0.out⟩
      case round =>
        obtain ⟨m, a, pre, hm4, rfl, rfl, has, hpl, HGR, HA, HC, HB⟩ := hrel
        have hs1 := HA.out.lt
        by_cases hal : a < s.size
        · have j2 : ((a : Nat) : Int) < (s.size : Int) := by omega
          by_cases hm : m < 4
          · have j3 : ((m : Nat) : Int) < 4 := by omega
            have HG1 : Hid (cont m pre (dig 0 0 (s.data.toList.drop (a + 1))) = goal8 s) := by unfold Hid; have e := List.drop_eq_getElem_cons (show a < s.data.toList.length by rw [HL.out]; exact hal); rw [← HGR.out, e, rest_step m pre _ _ hm]
            go_wp2_with fail
            go_loopw [5] (fun at_ wr => ∃ (b : Nat) (acc : Int), at_ = .int .i64 b ∧ a + 1 ≤ b ∧ b ≤ s.size ∧ 0 ≤ acc ∧ acc ≤ 9223372036854775807 ∧ Hid (cont m pre (dig (b - (a + 1)) acc (s.data.toList.drop b)) = goal8 s) ∧ Hid (IntArr 113 wr (w.heap.size + 1) ((pre ++ List.replicate (4 - m) 0).set m acc)) ∧ Hid (wr.heap[w.heap.size]? = some zop8.obj) ∧ Hid (Below w.heap.size w wr)) (fun at_ _ => s.size - (intOf at_).toNat)
            case atStart => exact ⟨a + 1, 0, by go_num, by omega, by omega, by omega, by omega, by rw [Nat.sub_self]; exact HG1.out, by rw [pad_zero m pre hm hpl]; exact HA.out, HC.out, HB.out⟩
            case round =>
              obtain ⟨b, acc, rfl, hab, hbs, ha0, ha1, HG2, HA2, HC2, HB2⟩ := hrel
              have c0 : wr.cell? ⟨w.heap.size + 1, m, none⟩ = some (.int .i64 acc) := by have h := HA2.out.cell (k := m) (by simp [hpl]; omega); rw [pad_get m pre acc hm hpl] at h; exact h
              have fz : wr.frozen? ⟨w.heap.size + 1, m, none⟩ = false := frozen_of_block HA2.out m
              have hs2 := HA2.out.lt
              by_cases hb2 : b < s.size
              · have i1 : ((b : Nat) : Int) < (s.size : Int) := by omega
                have hbl : b < s.data.toList.length := by rw [HL.out]; exact hb2
                have HG : Hid (s.data.toList[b]'hbl = s[b]'hb2) := by unfold Hid; simp [ByteArray.getElem_eq_getElem_data]
                have hq : ((s[b]'hb2).toNat : Int) < 256 := by have := (s[b]'hb2).toNat_lt; omega
                have hq0 : (0 : Int) ≤ ((s[b]'hb2).toNat : Int) := by omega
                by_cases h32 : (s[b]'hb2).toNat = 32
                · have e32 : (((s[b]'hb2).toNat : Int) != 32) = false := by rw [h32]; rfl
                  have HD : Hid ((rest (4 - (m + 1)) (s.data.toList.drop b)).map ((pre ++ [acc]) ++ ·) = goal8 s) := by unfold Hid; rw [← HG2.out, dig_stop _ b _ acc hbl (by rw [HG.out]; exact UInt8.toNat_inj.1 h32), cont_done m pre acc _ hm]
                  clear h32
                  go_wp2_with fail
                  go_roundw
                  case rel => exact ⟨m + 1, b, pre ++ [acc], by omega, by go_num, rfl, by omega, by simp [hpl], HD.out, by rw [← pad_set m pre acc hm hpl]; exact HA2.out, HC2.out, HB2.out⟩
                  case measure => simp [intOf]; omega
                · have e32 : (((s[b]'hb2).toNat : Int) != 32) = true := by rw [bne_iff_ne]; omega
                  have hn32 : s.data.toList[b]'hbl ≠ 32 := by rw [HG.out]; exact fun e => h32 (by rw [e]; rfl)
                  have sb : IntKind.i64.wrap ((b : Int) - ((a : Int) + 1)) = ((b - (a + 1) : Nat) : Int) := by rw [IntWalk.i64_in _ (by omega)]; omega
                  have HBD := Lib.hid (dig_bad s.data.toList b (b - (a + 1)) acc hbl hn32)
                  have HST := Lib.hid (dig_step s.data.toList b (b - (a + 1)) acc hbl hn32)
                  rw [HG.out] at HBD HST
                  clear h32 hn32
                  by_cases l1 : (s[b]'hb2).toNat < 48
                  · have d1 : decide (((s[b]'hb2).toNat : Int) < 48) = true := by simp; omega
                    have HBAD : Hid (dig (b - (a + 1)) acc (s.data.toList.drop b) = none) := HBD.out (Or.inl (Or.inl (Or.inl l1)))
                    have HNY : Hid (oread s = (⟨0, 0, 0, 0⟩, 3)) := goal8_none (by rw [← HG2.out, HBAD.out]; rfl)
                    obtain ⟨z0, z1, z2, z3⟩ := opr_cells HC2.out
                    have f0 := frozen_of_block HC2.out 0
                    have f1 := frozen_of_block HC2.out 1
                    have f2 := frozen_of_block HC2.out 2
                    have f3 := frozen_of_block HC2.out 3
                    have hsz0 := block_lt HC2.out
                    go_wp2_with fail
                    exact bodyPost_ret (v := .tuple #[.agg #[.int .i64 0, .int .i64 0, .int .i64 0, .int .i64 0], .int .i64 3]) (by simp [results, Tryd.results41, go_sem, z0, z1, z2, z3]) rfl
                      ⟨by rw [HNY.out], by repeat (first | exact HB2.out | refine Below.setCell ?_ (by simp) _)⟩
                  have d1 : decide (((s[b]'hb2).toNat : Int) < 48) = false := by simp; omega
                  by_cases l2 : 57 < (s[b]'hb2).toNat
                  · have d2 : decide (57 < ((s[b]'hb2).toNat : Int)) = true := by simp; omega
                    have HBAD : Hid (dig (b - (a + 1)) acc (s.data.toList.drop b) = none) := HBD.out (Or.inl (Or.inl (Or.inr l2)))
                    have HNY : Hid (oread s = (⟨0, 0, 0, 0⟩, 3)) := goal8_none (by rw [← HG2.out, HBAD.out]; rfl)
                    obtain ⟨z0, z1, z2, z3⟩ := opr_cells HC2.out
                    have f0 := frozen_of_block HC2.out 0
                    have f1 := frozen_of_block HC2.out 1
                    have f2 := frozen_of_block HC2.out 2
                    have f3 := frozen_of_block HC2.out 3
                    have hsz0 := block_lt HC2.out
                    go_wp2_with fail
                    exact bodyPost_ret (v := .tuple #[.agg #[.int .i64 0, .int .i64 0, .int .i64 0, .int .i64 0], .int .i64 3]) (by simp [results, Tryd.results41, go_sem, z0, z1, z2, z3]) rfl
                      ⟨by rw [HNY.out], by repeat (first | exact HB2.out | refine Below.setCell ?_ (by simp) _)⟩
                  have d2 : decide (57 < ((s[b]'hb2).toNat : Int)) = false := by simp; omega
                  by_cases l3 : 18 < b - (a + 1)
                  · have d3 : decide (18 < ((b - (a + 1) : Nat) : Int)) = true := by simp; omega
                    have HBAD : Hid (dig (b - (a + 1)) acc (s.data.toList.drop b) = none) := HBD.out (Or.inl (Or.inr l3))
                    have HNY : Hid (oread s = (⟨0, 0, 0, 0⟩, 3)) := goal8_none (by rw [← HG2.out, HBAD.out]; rfl)
                    obtain ⟨z0, z1, z2, z3⟩ := opr_cells HC2.out
                    have f0 := frozen_of_block HC2.out 0
                    have f1 := frozen_of_block HC2.out 1
                    have f2 := frozen_of_block HC2.out 2
                    have f3 := frozen_of_block HC2.out 3
                    have hsz0 := block_lt HC2.out
                    go_wp2_with fail
                    exact bodyPost_ret (v := .tuple #[.agg #[.int .i64 0, .int .i64 0, .int .i64 0, .int .i64 0], .int .i64 3]) (by simp [results, Tryd.results41, go_sem, z0, z1, z2, z3]) rfl
                      ⟨by rw [HNY.out], by repeat (first | exact HB2.out | refine Below.setCell ?_ (by simp) _)⟩
                  have d3 : decide (18 < ((b - (a + 1) : Nat) : Int)) = false := by simp; omega
                  by_cases l4 : 922337203685477580 < acc
                  · have d4 : decide (922337203685477580 < acc) = true := by simpa using l4
                    have HBAD : Hid (dig (b - (a + 1)) acc (s.data.toList.drop b) = none) := HBD.out (Or.inr (Or.inl l4))
                    have HNY : Hid (oread s = (⟨0, 0, 0, 0⟩, 3)) := goal8_none (by rw [← HG2.out, HBAD.out]; rfl)
                    obtain ⟨z0, z1, z2, z3⟩ := opr_cells HC2.out
                    have f0 := frozen_of_block HC2.out 0
                    have f1 := frozen_of_block HC2.out 1
                    have f2 := frozen_of_block HC2.out 2
                    have f3 := frozen_of_block HC2.out 3
                    have hsz0 := block_lt HC2.out
                    go_wp2_with fail
                    exact bodyPost_ret (v := .tuple #[.agg #[.int .i64 0, .int .i64 0, .int .i64 0, .int .i64 0], .int .i64 3]) (by simp [results, Tryd.results41, go_sem, z0, z1, z2, z3]) rfl
                      ⟨by rw [HNY.out], by repeat (first | exact HB2.out | refine Below.setCell ?_ (by simp) _)⟩
                  have d4 : decide (922337203685477580 < acc) = false := by simpa using l4
                  by_cases l5 : acc = 922337203685477580
                  · have d5 : (acc == 922337203685477580) = true := by rw [beq_iff_eq]; exact l5
                    by_cases l6 : 55 < (s[b]'hb2).toNat
                    · have d6 : decide (55 < ((s[b]'hb2).toNat : Int)) = true := by simp; omega
                      have HBAD : Hid (dig (b - (a + 1)) acc (s.data.toList.drop b) = none) := HBD.out (Or.inr (Or.inr ⟨l5, l6⟩))
                      clear l5
                      have HNY : Hid (oread s = (⟨0, 0, 0, 0⟩, 3)) := goal8_none (by rw [← HG2.out, HBAD.out]; rfl)
                      obtain ⟨z0, z1, z2, z3⟩ := opr_cells HC2.out
                      have f0 := frozen_of_block HC2.out 0
                      have f1 := frozen_of_block HC2.out 1
                      have f2 := frozen_of_block HC2.out 2
                      have f3 := frozen_of_block HC2.out 3
                      have hsz0 := block_lt HC2.out
                      go_wp2_with fail
                      exact bodyPost_ret (v := .tuple #[.agg #[.int .i64 0, .int .i64 0, .int .i64 0, .int .i64 0], .int .i64 3]) (by simp [results, Tryd.results41, go_sem, z0, z1, z2, z3]) rfl
                        ⟨by rw [HNY.out], by repeat (first | exact HB2.out | refine Below.setCell ?_ (by simp) _)⟩
                    · have d6 : decide (55 < ((s[b]'hb2).toNat : Int)) = false := by simp; omega
                      have HNX : Hid (cont m pre (dig (b + 1 - (a + 1)) (10 * acc + ((s[b]'hb2).toNat : Int) - 48) (s.data.toList.drop (b + 1))) = goal8 s) := by
                        have h := HST.out (by omega) (by omega) (by omega)
                        unfold Hid
                        rw [← HG2.out, ← h, show b - (a + 1) + 1 = b + 1 - (a + 1) by omega]
                      have hlo : 0 ≤ 10 * acc + ((s[b]'hb2).toNat : Int) - 48 := by omega
                      have hhi : 10 * acc + ((s[b]'hb2).toNat : Int) - 48 ≤ 9223372036854775807 := by omega
                      have wq : IntKind.i64.wrap ((s[b]'hb2).toNat : Int) = ((s[b]'hb2).toNat : Int) := IntWalk.i64_in _ (by omega)
                      have HV : Hid (wrap64 (wrap64 (wrap64 (10 * acc) + ((s[b]'hb2).toNat : Int)) - 48) = 10 * acc + ((s[b]'hb2).toNat : Int) - 48) := by unfold Hid wrap64; omega
                      have HV2 : Hid (wrap64 (wrap64 (10 * acc + ((s[b]'hb2).toNat : Int)) - 48) = 10 * acc + ((s[b]'hb2).toNat : Int) - 48) := by unfold Hid wrap64; omega
                      have HV3 : Hid (wrap64 (10 * acc + ((s[b]'hb2).toNat : Int) - 48) = 10 * acc + ((s[b]'hb2).toNat : Int) - 48) := by unfold Hid wrap64; omega
                      clear l5
                      go_wp2_with fail
                      go_region_with (fail)
                      all_goals
                       go_wp2_with fail
                       go_roundw
                       case rel => exact ⟨b + 1, 10 * acc + ((s[b]'hb2).toNat : Int) - 48, by go_num, by omega, by omega, hlo, hhi, HNX.out, (by (try rw [HV.out]); (try rw [HV2.out]); (try rw [HV3.out]); have h := HA2.out.put m (10 * acc + ((s[b]'hb2).toNat : Int) - 48); rw [List.set_set] at h; first | exact h | exact h.drew | fail), (by first | exact (Below.heap_setCell _ _ _ _ (by simp)).trans HC2.out | fail), (by first | exact HB2.out.setCell (by simp) _ | exact (HB2.out.setCell (by simp) _).drew | exact HB2.out.drew.setCell (by simp) _ | fail)⟩
                       case measure => simp [intOf]; omega
                  · have d5 : (acc == 922337203685477580) = false := by rw [beq_eq_false_iff_ne]; exact l5
                    have HNX : Hid (cont m pre (dig (b + 1 - (a + 1)) (10 * acc + ((s[b]'hb2).toNat : Int) - 48) (s.data.toList.drop (b + 1))) = goal8 s) := by
                      have h := HST.out (by omega) (by omega) (by omega)
                      unfold Hid
                      rw [← HG2.out, ← h, show b - (a + 1) + 1 = b + 1 - (a + 1) by omega]
                    have hlo : 0 ≤ 10 * acc + ((s[b]'hb2).toNat : Int) - 48 := by omega
                    have hhi : 10 * acc + ((s[b]'hb2).toNat : Int) - 48 ≤ 9223372036854775807 := by omega
                    have wq : IntKind.i64.wrap ((s[b]'hb2).toNat : Int) = ((s[b]'hb2).toNat : Int) := IntWalk.i64_in _ (by omega)
                    have HV : Hid (wrap64 (wrap64 (wrap64 (10 * acc) + ((s[b]'hb2).toNat : Int)) - 48) = 10 * acc + ((s[b]'hb2).toNat : Int) - 48) := by unfold Hid wrap64; omega
                    have HV2 : Hid (wrap64 (wrap64 (10 * acc + ((s[b]'hb2).toNat : Int)) - 48) = 10 * acc + ((s[b]'hb2).toNat : Int) - 48) := by unfold Hid wrap64; omega
                    have HV3 : Hid (wrap64 (10 * acc + ((s[b]'hb2).toNat : Int) - 48) = 10 * acc + ((s[b]'hb2).toNat : Int) - 48) := by unfold Hid wrap64; omega
                    go_wp2_with fail
                    go_region_with (fail)
                    all_goals
                     go_wp2_with fail
                     go_roundw
                     case rel => exact ⟨b + 1, 10 * acc + ((s[b]'hb2).toNat : Int) - 48, by go_num, by omega, by omega, hlo, hhi, HNX.out, (by (try rw [HV.out]); (try rw [HV2.out]); (try rw [HV3.out]); have h := HA2.out.put m (10 * acc + ((s[b]'hb2).toNat : Int) - 48); rw [List.set_set] at h; first | exact h | exact h.drew | fail), (by first | exact (Below.heap_setCell _ _ _ _ (by simp)).trans HC2.out | fail), (by first | exact HB2.out.setCell (by simp) _ | exact (HB2.out.setCell (by simp) _).drew | exact HB2.out.drew.setCell (by simp) _ | fail)⟩
                     case measure => simp [intOf]; omega
              · have HD : Hid ((rest (4 - (m + 1)) (s.data.toList.drop b)).map ((pre ++ [acc]) ++ ·) = goal8 s) := by unfold Hid; rw [← HG2.out, dig_end _ b _ acc (by rw [HL.out]; omega), cont_done m pre acc _ hm]
                go_wp2_with fail
                go_roundw
                case rel => exact ⟨m + 1, b, pre ++ [acc], by omega, by go_num, rfl, by omega, by simp [hpl], HD.out, by rw [← pad_set m pre acc hm hpl]; exact HA2.out, HC2.out, HB2.out⟩
                case measure => simp [intOf]; omega
          · have HGS : Hid (goal8 s = some (pre ++ List.replicate (4 - m) 0)) := by
              unfold Hid
              rw [← HGR.out, show 4 - m = 0 by omega]
              simp [rest]
            obtain ⟨x0, x1, x2, x3, hv⟩ : ∃ x0 x1 x2 x3 : Int, pre ++ List.replicate (4 - m) 0 = [x0, x1, x2, x3] := by
              have hl : (pre ++ List.replicate (4 - m) 0).length = 4 := by simp [hpl]; omega
              match pre ++ List.replicate (4 - m) 0, hl with
              | [a0, a1, a2, a3], _ => exact ⟨a0, a1, a2, a3, rfl⟩
            rw [hv] at HA HGS
            have HON := Lib.hid (goal8_some HGS.out)
            clear hv HGS
            go_wp2_with fail
            go_loopw [8, 9] (fun kv _ wr => ∃ k : Nat, 1 ≤ k ∧ k ≤ 12 ∧ kv = .int .i64 k ∧ Hid (IntArr 113 wr (w.heap.size + 1) [x0, x1, x2, x3]) ∧ Hid (wr.heap[w.heap.size]? = some zop8.obj) ∧ Hid (Below w.heap.size w wr) ∧ Hid (∀ j : Int, 1 ≤ j → j < k → otext ⟨j, x0, x1, x2⟩ ≠ s)) (fun kv _ _ => 12 - (intOf kv).toNat)
            case atStart => exact ⟨1, by omega, by omega, rfl, HA.out, HC.out, HB.out, fun j h1 h2 => by omega⟩
            case round =>
              obtain ⟨k, hk1, hk, rfl, HA5, HC5, HB5, HJ⟩ := hrel
              by_cases hlt : k < 12
              · have i1 : ((k : Nat) : Int) ≤ 11 := by omega
                have g0 : decide (((k : Nat) : Int) ≤ 11) = true := by simp; omega
                have g1 : k ≤ 11 := by omega
                have y0 : wr.cell? ⟨w.heap.size + 1, 0, none⟩ = some (.int .i64 x0) := HA5.out.cell (k := 0) (by simp)
                have y1 : wr.cell? ⟨w.heap.size + 1, 1, none⟩ = some (.int .i64 x1) := HA5.out.cell (k := 1) (by simp)
                have y2 : wr.cell? ⟨w.heap.size + 1, 2, none⟩ = some (.int .i64 x2) := HA5.out.cell (k := 2) (by simp)
                have hs5 := HA5.out.lt
                obtain ⟨WA, hWA⟩ : ∃ W, W = wr.alloc (⟨(k : Int), x0, x1, x2⟩ : Opr).obj := ⟨_, rfl⟩
                have HBA : Hid (Below w.heap.size w WA) := by rw [hWA]; exact HB5.out.alloc HB5.out.size _
                have HCA : Hid (WA.heap[w.heap.size]? = some zop8.obj) := by rw [hWA]; exact (Below.heap_alloc _ _ _ (block_lt HC5.out)).trans HC5.out
                have HAA : Hid (IntArr 113 WA (w.heap.size + 1) [x0, x1, x2, x3]) := by rw [hWA]; exact (Below.heap_alloc _ _ _ hs5).trans HA5.out
                have HXA : Hid (WA.heap[wr.heap.size]? = some (⟨(k : Int), x0, x1, x2⟩ : Opr).obj) := by rw [hWA]; exact heap_alloc_new wr _
                have HTX : Hid (∀ W, Calls Tryd.prog 39 #[.agg #[.int .i64 (k : Int), .int .i64 x0, .int .i64 x1, .int .i64 x2]] W fun e w' => e = .returned (.string (otext ⟨(k : Int), x0, x1, x2⟩)) ∧ Below W.heap.size W w') := fun W => ref8text_any W ⟨(k : Int), x0, x1, x2⟩ (onums_fits HON.out (by omega))
                have HALL : Hid (∀ W, Below WA.heap.size WA W → W.cell? ⟨wr.heap.size, 0, none⟩ = some (.int .i64 (k : Int)) ∧ W.cell? ⟨wr.heap.size, 1, none⟩ = some (.int .i64 x0) ∧ W.cell? ⟨wr.heap.size, 2, none⟩ = some (.int .i64 x1) ∧ W.cell? ⟨wr.heap.size, 3, none⟩ = some (.int .i64 x2) ∧ Below WA.heap.size WA W) := fun W hB => by
                  obtain ⟨q0, q1, q2, q3⟩ := opr_cells ((hB.block _ (block_lt HXA.out)).trans HXA.out)
                  exact ⟨q0, q1, q2, q3, hB⟩
                have HLT := Lib.hid hlt
                by_cases hts : otext ⟨(k : Int), x0, x1, x2⟩ = s
                · have q1 := strT hts
                  have HNY : Hid (oread s = (⟨(k : Int), x0, x1, x2⟩, 0)) := onums_yes HON.out (by omega) hts
                  have HPL : Hid (∀ W, Calls Tryd.prog 40 #[.agg #[.int .i64 (k : Int), .int .i64 x0, .int .i64 x1, .int .i64 x2]] W fun e w' => e = .returned (.agg #[.int .i64 (k : Int), .int .i64 x0, .int .i64 x1, .int .i64 x2]) ∧ Below W.heap.size W w') := fun W => by have h := plain_any W ⟨(k : Int), x0, x1, x2⟩; rw [onums_plain HON.out (by omega) hts] at h; exact h
                  have heq : ∀ W : World, (binOp .eql 56 (.agg #[.int .i64 (k : Int), .int .i64 x0, .int .i64 x1, .int .i64 x2]) (.agg #[.int .i64 (k : Int), .int .i64 x0, .int .i64 x1, .int .i64 x2])).run Tryd.prog W = .ok (.bool true) W := fun W => by
                    have h := opr_eql W ⟨(k : Int), x0, x1, x2⟩ ⟨(k : Int), x0, x1, x2⟩
                    rw [decide_eq_true rfl] at h
                    exact h
                  clear hts hlt hk
                  generalize otext ⟨(k : Int), x0, x1, x2⟩ = tx at q1 HTX
                  go_wp2_with fail
                  rw [← hWA]
                  clear hWA y0 y1 y2
                  refine wp_region_held_drew (S := fun W => W.cell? ⟨wr.heap.size, 0, none⟩ = some (.int .i64 (k : Int)) ∧ W.cell? ⟨wr.heap.size, 1, none⟩ = some (.int .i64 x0) ∧ W.cell? ⟨wr.heap.size, 2, none⟩ = some (.int .i64 x1) ∧ W.cell? ⟨wr.heap.size, 3, none⟩ = some (.int .i64 x2) ∧ Below WA.heap.size WA W) (by kernel_rfl) ?_ (fun hHeld => ?_)
                  · exact HALL.out _ (Below.refl _ _).drew
                  refine wpAnyH_take (i := 0) (oi := ?oi41) (v := ?v41) ?hi41 (by kernel_rfl) (by kernel_rfl) (by kernel_rfl) ?hq41 (Or.inl ⟨?hw41, ?hy41⟩) (by assumption) ?rest41
                  case hi41 => simp only [List.getElem?_toArray, List.getElem?_cons_succ, List.getElem?_cons_zero]; rfl
                  case hq41 => exact fun _ _ _ h => h
                  case hw41 => kernel_rfl
                  case hy41 => (intro w hSw; (try dsimp only at hSw); go_simp; try with_reducible rfl)
                  try simp only [Act.put, List.setIfInBounds_toArray, List.set_cons_zero, List.set_cons_succ]
                  refine wpAnyH_take (i := 2) (oi := ?oi42) (v := ?v42) ?hi42 (by kernel_rfl) (by kernel_rfl) (by kernel_rfl) ?hq42 (Or.inl ⟨?hw42, ?hy42⟩) (by assumption) ?rest42
                  case hi42 => simp only [List.getElem?_toArray, List.getElem?_cons_succ, List.getElem?_cons_zero]; rfl
                  case hq42 => exact fun _ _ _ h => h
                  case hw42 => kernel_rfl
                  case hy42 => (intro w hSw; (try dsimp only at hSw); go_simp; try with_reducible rfl)
                  try simp only [Act.put, List.setIfInBounds_toArray, List.set_cons_zero, List.set_cons_succ]
                  refine wpAnyH_ready (rs := [1]) (by kernel_rfl) (by simp) ?_
                  refine AllReadyH.cons (o := ?o43) ?ho43 (fun K hK => ?st43) AllReadyH.nil
                  case ho43 => simp only [List.getElem?_toArray, List.getElem?_cons_succ, List.getElem?_cons_zero]; rfl
                  go_simp
                  go_at_call 39
                  refine (HTX.out _).mono ?_
                  rintro e wq ⟨rfl, hb2⟩
                  have hBel := Below.trans hHeld.2.2.2.2 (hb2.mono (Below.size hHeld.2.2.2.2))
                  clear hHeld
                  try go_simp
                  refine hK.out _ _ ?_ (fun hHeld => ?_)
                  · exact HALL.out _ hBel
                  clear hK K hb2 hBel
                  try simp only [Act.put, List.setIfInBounds_toArray, List.set_cons_zero, List.set_cons_succ]
                  refine wpAnyH_take (i := 3) (oi := ?oi44) (v := ?v44) ?hi44 (by kernel_rfl) (by kernel_rfl) (by kernel_rfl) ?hq44 (Or.inl ⟨?hw44, ?hy44⟩) (by assumption) ?rest44
                  case hi44 => simp only [List.getElem?_toArray, List.getElem?_cons_succ, List.getElem?_cons_zero]; rfl
                  case hq44 => exact fun _ _ _ h => h
                  case hw44 => kernel_rfl
                  case hy44 => (intro w hSw; (try dsimp only at hSw); go_simp; try with_reducible rfl)
                  try simp only [Act.put, List.setIfInBounds_toArray, List.set_cons_zero, List.set_cons_succ]
                  refine wpAnyH_take (i := 4) (oi := ?oi45) (v := ?v45) ?hi45 (by kernel_rfl) (by kernel_rfl) (by kernel_rfl) ?hq45 (Or.inl ⟨?hw45, ?hy45⟩) (by assumption) ?rest45
                  case hi45 => simp only [List.getElem?_toArray, List.getElem?_cons_succ, List.getElem?_cons_zero]; rfl
                  case hq45 => exact fun _ _ _ h => h
                  case hw45 => kernel_rfl
                  case hy45 => (intro w hSw; (try dsimp only at hSw); go_simp; try with_reducible rfl)
                  try simp only [Act.put, List.setIfInBounds_toArray, List.set_cons_zero, List.set_cons_succ]
                  refine wpAnyH_take (i := 5) (oi := ?oi46) (v := ?v46) ?hi46 (by kernel_rfl) (by kernel_rfl) (by kernel_rfl) ?hq46 (Or.inl ⟨?hw46, ?hy46⟩) (by assumption) ?rest46
                  case hi46 => simp only [List.getElem?_toArray, List.getElem?_cons_succ, List.getElem?_cons_zero]; rfl
                  case hq46 => exact fun _ _ _ h => h
                  case hw46 => kernel_rfl
                  case hy46 => (intro w hSw; (try dsimp only at hSw); go_simp; try with_reducible rfl)
                  try simp only [Act.put, List.setIfInBounds_toArray, List.set_cons_zero, List.set_cons_succ]
                  refine wpAnyH_take (i := 7) (oi := ?oi47) (v := ?v47) ?hi47 (by kernel_rfl) (by kernel_rfl) (by kernel_rfl) ?hq47 (Or.inl ⟨?hw47, ?hy47⟩) (by assumption) ?rest47
                  case hi47 => simp only [List.getElem?_toArray, List.getElem?_cons_succ, List.getElem?_cons_zero]; rfl
                  case hq47 => exact fun _ _ _ h => h
                  case hw47 => kernel_rfl
                  case hy47 => (intro w hSw; (try dsimp only at hSw); go_simp; try with_reducible rfl)
                  try simp only [Act.put, List.setIfInBounds_toArray, List.set_cons_zero, List.set_cons_succ]
                  refine wpAnyH_ready (rs := [6]) (by kernel_rfl) (by simp) ?_
                  refine AllReadyH.cons (o := ?o48) ?ho48 (fun K hK => ?st48) AllReadyH.nil
                  case ho48 => simp only [List.getElem?_toArray, List.getElem?_cons_succ, List.getElem?_cons_zero]; rfl
                  go_simp
                  go_at_call 40
                  refine (HPL.out _).mono ?_
                  rintro e wq ⟨rfl, hb2⟩
                  have hBel := Below.trans hHeld.2.2.2.2 (hb2.mono (Below.size hHeld.2.2.2.2))
                  clear hHeld
                  try go_simp
                  refine hK.out _ _ ?_ (fun hHeld => ?_)
                  · exact HALL.out _ hBel
                  clear hK K hb2 hBel
                  try simp only [Act.put, List.setIfInBounds_toArray, List.set_cons_zero, List.set_cons_succ]
                  refine wpAnyH_take (i := 8) (oi := ?oi49) (v := ?v49) ?hi49 (by kernel_rfl) (by kernel_rfl) (by kernel_rfl) ?hq49 (Or.inl ⟨?hw49, ?hy49⟩) (by assumption) ?rest49
                  case hi49 => simp only [List.getElem?_toArray, List.getElem?_cons_succ, List.getElem?_cons_zero]; rfl
                  case hq49 => exact fun _ _ _ h => h
                  case hw49 => kernel_rfl
                  case hy49 => (intro w hSw; (try dsimp only at hSw); go_simp; try with_reducible rfl)
                  try simp only [Act.put, List.setIfInBounds_toArray, List.set_cons_zero, List.set_cons_succ]
                  refine wpAnyH_take (i := 9) (oi := ?oi50) (v := ?v50) ?hi50 (by kernel_rfl) (by kernel_rfl) (by kernel_rfl) ?hq50 (Or.inl ⟨?hw50, ?hy50⟩) (by assumption) ?rest50
                  case hi50 => simp only [List.getElem?_toArray, List.getElem?_cons_succ, List.getElem?_cons_zero]; rfl
                  case hq50 => exact fun _ _ _ h => h
                  case hw50 => kernel_rfl
                  case hy50 => (intro w hSw; (try dsimp only at hSw); go_simp; try with_reducible rfl)
                  try simp only [Act.put, List.setIfInBounds_toArray, List.set_cons_zero, List.set_cons_succ]
                  refine wpAnyH_done (by kernel_rfl) ?_ _
                  have hq : Below WA.heap.size WA wq := hHeld.2.2.2.2
                  have HBq : Hid (Below w.heap.size w wq) := HBA.out.trans (hq.mono HBA.out.size)
                  have HCq : Hid (wq.heap[w.heap.size]? = some zop8.obj) := (hq.block _ (block_lt HCA.out)).trans HCA.out
                  have HXq : Hid (wq.heap[wr.heap.size]? = some (⟨(k : Int), x0, x1, x2⟩ : Opr).obj) := (hq.block _ (block_lt HXA.out)).trans HXA.out
                  clear hHeld hq
                  obtain ⟨v0, v1, v2, v3⟩ := opr_cells HXq.out
                  have hsq := block_lt HXq.out
                  obtain ⟨z0, z1, z2, z3⟩ := opr_cells HCq.out
                  have f0 := frozen_of_block HCq.out 0
                  have f1 := frozen_of_block HCq.out 1
                  have f2 := frozen_of_block HCq.out 2
                  have f3 := frozen_of_block HCq.out 3
                  have hsz0 := block_lt HCq.out
                  go_wp2_with fail
                  exact bodyPost_ret (v := .tuple #[.agg #[.int .i64 (k : Int), .int .i64 x0, .int .i64 x1, .int .i64 x2], .int .i64 0]) (by simp [results, Tryd.results41, go_sem, z0, z1, z2, z3]) rfl
                    ⟨by rw [HNY.out], by repeat (first | exact HBq.out | refine Below.setCell ?_ (by simp) _)⟩
                · have q1 := strF hts
                  have HNX : Hid (∀ j : Int, 1 ≤ j → j < ((k + 1 : Nat) : Int) → otext ⟨j, x0, x1, x2⟩ ≠ s) := fun j h1 h2 => by
                    by_cases e : j = (k : Int)
                    · rw [e]; exact hts
                    · exact HJ.out j h1 (by omega)
                  clear hts hlt hk
                  generalize otext ⟨(k : Int), x0, x1, x2⟩ = tx at q1 HTX
                  go_wp2_with fail
                  rw [← hWA]
                  clear hWA y0 y1 y2
                  refine wp_region_held_drew (S := fun W => W.cell? ⟨wr.heap.size, 0, none⟩ = some (.int .i64 (k : Int)) ∧ W.cell? ⟨wr.heap.size, 1, none⟩ = some (.int .i64 x0) ∧ W.cell? ⟨wr.heap.size, 2, none⟩ = some (.int .i64 x1) ∧ W.cell? ⟨wr.heap.size, 3, none⟩ = some (.int .i64 x2) ∧ Below WA.heap.size WA W) (by kernel_rfl) ?_ (fun hHeld => ?_)
                  · exact HALL.out _ (Below.refl _ _).drew
                  refine wpAnyH_take (i := 0) (oi := ?oi51) (v := ?v51) ?hi51 (by kernel_rfl) (by kernel_rfl) (by kernel_rfl) ?hq51 (Or.inl ⟨?hw51, ?hy51⟩) (by assumption) ?rest51
                  case hi51 => simp only [List.getElem?_toArray, List.getElem?_cons_succ, List.getElem?_cons_zero]; rfl
                  case hq51 => exact fun _ _ _ h => h
                  case hw51 => kernel_rfl
                  case hy51 => (intro w hSw; (try dsimp only at hSw); go_simp; try with_reducible rfl)
                  try simp only [Act.put, List.setIfInBounds_toArray, List.set_cons_zero, List.set_cons_succ]
                  refine wpAnyH_take (i := 2) (oi := ?oi52) (v := ?v52) ?hi52 (by kernel_rfl) (by kernel_rfl) (by kernel_rfl) ?hq52 (Or.inl ⟨?hw52, ?hy52⟩) (by assumption) ?rest52
                  case hi52 => simp only [List.getElem?_toArray, List.getElem?_cons_succ, List.getElem?_cons_zero]; rfl
                  case hq52 => exact fun _ _ _ h => h
                  case hw52 => kernel_rfl
                  case hy52 => (intro w hSw; (try dsimp only at hSw); go_simp; try with_reducible rfl)
                  try simp only [Act.put, List.setIfInBounds_toArray, List.set_cons_zero, List.set_cons_succ]
                  refine wpAnyH_ready (rs := [1]) (by kernel_rfl) (by simp) ?_
                  refine AllReadyH.cons (o := ?o53) ?ho53 (fun K hK => ?st53) AllReadyH.nil
                  case ho53 => simp only [List.getElem?_toArray, List.getElem?_cons_succ, List.getElem?_cons_zero]; rfl
                  go_simp
                  go_at_call 39
                  refine (HTX.out _).mono ?_
                  rintro e wq ⟨rfl, hb2⟩
                  have hBel := Below.trans hHeld.2.2.2.2 (hb2.mono (Below.size hHeld.2.2.2.2))
                  clear hHeld
                  try go_simp
                  refine hK.out _ _ ?_ (fun hHeld => ?_)
                  · exact HALL.out _ hBel
                  clear hK K hb2 hBel
                  try simp only [Act.put, List.setIfInBounds_toArray, List.set_cons_zero, List.set_cons_succ]
                  refine wpAnyH_take (i := 3) (oi := ?oi54) (v := ?v54) ?hi54 (by kernel_rfl) (by kernel_rfl) (by kernel_rfl) ?hq54 (Or.inl ⟨?hw54, ?hy54⟩) (by assumption) ?rest54
                  case hi54 => simp only [List.getElem?_toArray, List.getElem?_cons_succ, List.getElem?_cons_zero]; rfl
                  case hq54 => exact fun _ _ _ h => h
                  case hw54 => kernel_rfl
                  case hy54 => (intro w hSw; (try dsimp only at hSw); go_simp; try with_reducible rfl)
                  try simp only [Act.put, List.setIfInBounds_toArray, List.set_cons_zero, List.set_cons_succ]
                  refine wpAnyH_take (i := 4) (oi := ?oi55) (v := ?v55) ?hi55 (by kernel_rfl) (by kernel_rfl) (by kernel_rfl) ?hq55 (Or.inl ⟨?hw55, ?hy55⟩) (by assumption) ?rest55
                  case hi55 => simp only [List.getElem?_toArray, List.getElem?_cons_succ, List.getElem?_cons_zero]; rfl
                  case hq55 => exact fun _ _ _ h => h
                  case hw55 => kernel_rfl
                  case hy55 => (intro w hSw; (try dsimp only at hSw); go_simp; try with_reducible rfl)
                  try simp only [Act.put, List.setIfInBounds_toArray, List.set_cons_zero, List.set_cons_succ]
                  refine wpAnyH_take (i := 5) (oi := ?oi56) (v := undef) ?hi56 (by kernel_rfl) (by kernel_rfl) (by kernel_rfl) ?hq56 (Or.inr ⟨?hw56, rfl⟩) (by assumption) ?rest56
                  case hi56 => simp only [List.getElem?_toArray, List.getElem?_cons_succ, List.getElem?_cons_zero]; rfl
                  case hq56 => exact fun _ _ _ h => h
                  case hw56 => kernel_rfl
                  try simp only [Act.put, List.setIfInBounds_toArray, List.set_cons_zero, List.set_cons_succ]
                  refine wpAnyH_take (i := 6) (oi := ?oi57) (v := undef) ?hi57 (by kernel_rfl) (by kernel_rfl) (by kernel_rfl) ?hq57 (Or.inr ⟨?hw57, rfl⟩) (by assumption) ?rest57
                  case hi57 => simp only [List.getElem?_toArray, List.getElem?_cons_succ, List.getElem?_cons_zero]; rfl
                  case hq57 => exact fun _ _ _ h => h
                  case hw57 => kernel_rfl
                  try simp only [Act.put, List.setIfInBounds_toArray, List.set_cons_zero, List.set_cons_succ]
                  refine wpAnyH_take (i := 7) (oi := ?oi58) (v := undef) ?hi58 (by kernel_rfl) (by kernel_rfl) (by kernel_rfl) ?hq58 (Or.inr ⟨?hw58, rfl⟩) (by assumption) ?rest58
                  case hi58 => simp only [List.getElem?_toArray, List.getElem?_cons_succ, List.getElem?_cons_zero]; rfl
                  case hq58 => exact fun _ _ _ h => h
                  case hw58 => kernel_rfl
                  try simp only [Act.put, List.setIfInBounds_toArray, List.set_cons_zero, List.set_cons_succ]
                  refine wpAnyH_take (i := 8) (oi := ?oi59) (v := undef) ?hi59 (by kernel_rfl) (by kernel_rfl) (by kernel_rfl) ?hq59 (Or.inr ⟨?hw59, rfl⟩) (by assumption) ?rest59
                  case hi59 => simp only [List.getElem?_toArray, List.getElem?_cons_succ, List.getElem?_cons_zero]; rfl
                  case hq59 => exact fun _ _ _ h => h
                  case hw59 => kernel_rfl
                  try simp only [Act.put, List.setIfInBounds_toArray, List.set_cons_zero, List.set_cons_succ]
                  refine wpAnyH_take (i := 9) (oi := ?oi60) (v := ?v60) ?hi60 (by kernel_rfl) (by kernel_rfl) (by kernel_rfl) ?hq60 (Or.inl ⟨?hw60, ?hy60⟩) (by assumption) ?rest60
                  case hi60 => simp only [List.getElem?_toArray, List.getElem?_cons_succ, List.getElem?_cons_zero]; rfl
                  case hq60 => exact fun _ _ _ h => h
                  case hw60 => kernel_rfl
                  case hy60 => (intro w hSw; (try dsimp only at hSw); go_simp; try with_reducible rfl)
                  try simp only [Act.put, List.setIfInBounds_toArray, List.set_cons_zero, List.set_cons_succ]
                  refine wpAnyH_done (by kernel_rfl) ?_ _
                  have hq : Below WA.heap.size WA wq := hHeld.2.2.2.2
                  have HBq : Hid (Below w.heap.size w wq) := HBA.out.trans (hq.mono HBA.out.size)
                  have HCq : Hid (wq.heap[w.heap.size]? = some zop8.obj) := (hq.block _ (block_lt HCA.out)).trans HCA.out
                  have HAq : Hid (IntArr 113 wq (w.heap.size + 1) [x0, x1, x2, x3]) := HAA.out.below HAA.out.lt hq
                  clear hHeld hq
                  go_wp2_with fail
                  go_roundw
                  case rel => exact ⟨k + 1, by omega, by have := HLT.out; omega, by go_num, HAq.out, HCq.out, HBq.out, HNX.out⟩
                  case measure => have := HLT.out; simp [intOf]; omega
              · obtain rfl : k = 12 := by omega
                have HNY : Hid (oread s = (⟨0, 0, 0, 0⟩, 3)) := onums_no HON.out (fun j hj => HJ.out j hj.1 (by omega))
                clear hlt hk hk1
                obtain ⟨z0, z1, z2, z3⟩ := opr_cells HC5.out
                have f0 := frozen_of_block HC5.out 0
                have f1 := frozen_of_block HC5.out 1
                have f2 := frozen_of_block HC5.out 2
                have f3 := frozen_of_block HC5.out 3
                have hsz0 := block_lt HC5.out
                go_wp2_with fail
                exact bodyPost_ret (v := .tuple #[.agg #[.int .i64 0, .int .i64 0, .int .i64 0, .int .i64 0], .int .i64 3]) (by simp [results, Tryd.results41, go_sem, z0, z1, z2, z3]) rfl
                  ⟨by rw [HNY.out], by repeat (first | exact HB5.out | refine Below.setCell ?_ (by simp) _)⟩
        · have HGS : Hid (goal8 s = some (pre ++ List.replicate (4 - m) 0)) := by
            unfold Hid
            rw [← HGR.out, List.drop_eq_nil_of_le (by rw [HL.out]; omega), rest_nil]
            rfl
          obtain ⟨x0, x1, x2, x3, hv⟩ : ∃ x0 x1 x2 x3 : Int, pre ++ List.replicate (4 - m) 0 = [x0, x1, x2, x3] := by
            have hl : (pre ++ List.replicate (4 - m) 0).length = 4 := by simp [hpl]; omega
            match pre ++ List.replicate (4 - m) 0, hl with
            | [a0, a1, a2, a3], _ => exact ⟨a0, a1, a2, a3, rfl⟩
          rw [hv] at HA HGS
          have HON := Lib.hid (goal8_some HGS.out)
          clear hv HGS
          go_wp2_with fail
          go_loopw [8, 9] (fun kv _ wr => ∃ k : Nat, 1 ≤ k ∧ k ≤ 12 ∧ kv = .int .i64 k ∧ Hid (IntArr 113 wr (w.heap.size + 1) [x0, x1, x2, x3]) ∧ Hid (wr.heap[w.heap.size]? = some zop8.obj) ∧ Hid (Below w.heap.size w wr) ∧ Hid (∀ j : Int, 1 ≤ j → j < k → otext ⟨j, x0, x1, x2⟩ ≠ s)) (fun kv _ _ => 12 - (intOf kv).toNat)
          case atStart => exact ⟨1, by omega, by omega, rfl, HA.out, HC.out, HB.out, fun j h1 h2 => by omega⟩
          case round =>
            obtain ⟨k, hk1, hk, rfl, HA5, HC5, HB5, HJ⟩ := hrel
            by_cases hlt : k < 12
            · have i1 : ((k : Nat) : Int) ≤ 11 := by omega
              have g0 : decide (((k : Nat) : Int) ≤ 11) = true := by simp; omega
              have g1 : k ≤ 11 := by omega
              have y0 : wr.cell? ⟨w.heap.size + 1, 0, none⟩ = some (.int .i64 x0) := HA5.out.cell (k := 0) (by simp)
              have y1 : wr.cell? ⟨w.heap.size + 1, 1, none⟩ = some (.int .i64 x1) := HA5.out.cell (k := 1) (by simp)
              have y2 : wr.cell? ⟨w.heap.size + 1, 2, none⟩ = some (.int .i64 x2) := HA5.out.cell (k := 2) (by simp)
              have hs5 := HA5.out.lt
              obtain ⟨WA, hWA⟩ : ∃ W, W = wr.alloc (⟨(k : Int), x0, x1, x2⟩ : Opr).obj := ⟨_, rfl⟩
              have HBA : Hid (Below w.heap.size w WA) := by rw [hWA]; exact HB5.out.alloc HB5.out.size _
              have HCA : Hid (WA.heap[w.heap.size]? = some zop8.obj) := by rw [hWA]; exact (Below.heap_alloc _ _ _ (block_lt HC5.out)).trans HC5.out
              have HAA : Hid (IntArr 113 WA (w.heap.size + 1) [x0, x1, x2, x3]) := by rw [hWA]; exact (Below.heap_alloc _ _ _ hs5).trans HA5.out
              have HXA : Hid (WA.heap[wr.heap.size]? = some (⟨(k : Int), x0, x1, x2⟩ : Opr).obj) := by rw [hWA]; exact heap_alloc_new wr _
              have HTX : Hid (∀ W, Calls Tryd.prog 39 #[.agg #[.int .i64 (k : Int), .int .i64 x0, .int .i64 x1, .int .i64 x2]] W fun e w' => e = .returned (.string (otext ⟨(k : Int), x0, x1, x2⟩)) ∧ Below W.heap.size W w') := fun W => ref8text_any W ⟨(k : Int), x0, x1, x2⟩ (onums_fits HON.out (by omega))
              have HALL : Hid (∀ W, Below WA.heap.size WA W → W.cell? ⟨wr.heap.size, 0, none⟩ = some (.int .i64 (k : Int)) ∧ W.cell? ⟨wr.heap.size, 1, none⟩ = some (.int .i64 x0) ∧ W.cell? ⟨wr.heap.size, 2, none⟩ = some (.int .i64 x1) ∧ W.cell? ⟨wr.heap.size, 3, none⟩ = some (.int .i64 x2) ∧ Below WA.heap.size WA W) := fun W hB => by
                obtain ⟨q0, q1, q2, q3⟩ := opr_cells ((hB.block _ (block_lt HXA.out)).trans HXA.out)
                exact ⟨q0, q1, q2, q3, hB⟩
              have HLT := Lib.hid hlt
              by_cases hts : otext ⟨(k : Int), x0, x1, x2⟩ = s
              · have q1 := strT hts
                have HNY : Hid (oread s = (⟨(k : Int), x0, x1, x2⟩, 0)) := onums_yes HON.out (by omega) hts
                have HPL : Hid (∀ W, Calls Tryd.prog 40 #[.agg #[.int .i64 (k : Int), .int .i64 x0, .int .i64 x1, .int .i64 x2]] W fun e w' => e = .returned (.agg #[.int .i64 (k : Int), .int .i64 x0, .int .i64 x1, .int .i64 x2]) ∧ Below W.heap.size W w') := fun W => by have h := plain_any W ⟨(k : Int), x0, x1, x2⟩; rw [onums_plain HON.out (by omega) hts] at h; exact h
                have heq : ∀ W : World, (binOp .eql 56 (.agg #[.int .i64 (k : Int), .int .i64 x0, .int .i64 x1, .int .i64 x2]) (.agg #[.int .i64 (k : Int), .int .i64 x0, .int .i64 x1, .int .i64 x2])).run Tryd.prog W = .ok (.bool true) W := fun W => by
                  have h := opr_eql W ⟨(k : Int), x0, x1, x2⟩ ⟨(k : Int), x0, x1, x2⟩
                  rw [decide_eq_true rfl] at h
                  exact h
                clear hts hlt hk
                generalize otext ⟨(k : Int), x0, x1, x2⟩ = tx at q1 HTX
                go_wp2_with fail
                rw [← hWA]
                clear hWA y0 y1 y2
                refine wp_region_held_drew (S := fun W => W.cell? ⟨wr.heap.size, 0, none⟩ = some (.int .i64 (k : Int)) ∧ W.cell? ⟨wr.heap.size, 1, none⟩ = some (.int .i64 x0) ∧ W.cell? ⟨wr.heap.size, 2, none⟩ = some (.int .i64 x1) ∧ W.cell? ⟨wr.heap.size, 3, none⟩ = some (.int .i64 x2) ∧ Below WA.heap.size WA W) (by kernel_rfl) ?_ (fun hHeld => ?_)
                · exact HALL.out _ (Below.refl _ _).drew
                refine wpAnyH_take (i := 0) (oi := ?oi61) (v := ?v61) ?hi61 (by kernel_rfl) (by kernel_rfl) (by kernel_rfl) ?hq61 (Or.inl ⟨?hw61, ?hy61⟩) (by assumption) ?rest61
                case hi61 => simp only [List.getElem?_toArray, List.getElem?_cons_succ, List.getElem?_cons_zero]; rfl
                case hq61 => exact fun _ _ _ h => h
                case hw61 => kernel_rfl
                case hy61 => (intro w hSw; (try dsimp only at hSw); go_simp; try with_reducible rfl)
                try simp only [Act.put, List.setIfInBounds_toArray, List.set_cons_zero, List.set_cons_succ]
                refine wpAnyH_take (i := 2) (oi := ?oi62) (v := ?v62) ?hi62 (by kernel_rfl) (by kernel_rfl) (by kernel_rfl) ?hq62 (Or.inl ⟨?hw62, ?hy62⟩) (by assumption) ?rest62
                case hi62 => simp only [List.getElem?_toArray, List.getElem?_cons_succ, List.getElem?_cons_zero]; rfl
                case hq62 => exact fun _ _ _ h => h
                case hw62 => kernel_rfl
                case hy62 => (intro w hSw; (try dsimp only at hSw); go_simp; try with_reducible rfl)
                try simp only [Act.put, List.setIfInBounds_toArray, List.set_cons_zero, List.set_cons_succ]
                refine wpAnyH_ready (rs := [1]) (by kernel_rfl) (by simp) ?_
                refine AllReadyH.cons (o := ?o63) ?ho63 (fun K hK => ?st63) AllReadyH.nil
                case ho63 => simp only [List.getElem?_toArray, List.getElem?_cons_succ, List.getElem?_cons_zero]; rfl
                go_simp
                go_at_call 39
                refine (HTX.out _).mono ?_
                rintro e wq ⟨rfl, hb2⟩
                have hBel := Below.trans hHeld.2.2.2.2 (hb2.mono (Below.size hHeld.2.2.2.2))
                clear hHeld
                try go_simp
                refine hK.out _ _ ?_ (fun hHeld => ?_)
                · exact HALL.out _ hBel
                clear hK K hb2 hBel
                try simp only [Act.put, List.setIfInBounds_toArray, List.set_cons_zero, List.set_cons_succ]
                refine wpAnyH_take (i := 3) (oi := ?oi64) (v := ?v64) ?hi64 (by kernel_rfl) (by kernel_rfl) (by kernel_rfl) ?hq64 (Or.inl ⟨?hw64, ?hy64⟩) (by assumption) ?rest64
                case hi64 => simp only [List.getElem?_toArray, List.getElem?_cons_succ, List.getElem?_cons_zero]; rfl
                case hq64 => exact fun _ _ _ h => h
                case hw64 => kernel_rfl
                case hy64 => (intro w hSw; (try dsimp only at hSw); go_simp; try with_reducible rfl)
                try simp only [Act.put, List.setIfInBounds_toArray, List.set_cons_zero, List.set_cons_succ]
                refine wpAnyH_take (i := 4) (oi := ?oi65) (v := ?v65) ?hi65 (by kernel_rfl) (by kernel_rfl) (by kernel_rfl) ?hq65 (Or.inl ⟨?hw65, ?hy65⟩) (by assumption) ?rest65
                case hi65 => simp only [List.getElem?_toArray, List.getElem?_cons_succ, List.getElem?_cons_zero]; rfl
                case hq65 => exact fun _ _ _ h => h
                case hw65 => kernel_rfl
                case hy65 => (intro w hSw; (try dsimp only at hSw); go_simp; try with_reducible rfl)
                try simp only [Act.put, List.setIfInBounds_toArray, List.set_cons_zero, List.set_cons_succ]
                refine wpAnyH_take (i := 5) (oi := ?oi66) (v := ?v66) ?hi66 (by kernel_rfl) (by kernel_rfl) (by kernel_rfl) ?hq66 (Or.inl ⟨?hw66, ?hy66⟩) (by assumption) ?rest66
                case hi66 => simp only [List.getElem?_toArray, List.getElem?_cons_succ, List.getElem?_cons_zero]; rfl
                case hq66 => exact fun _ _ _ h => h
                case hw66 => kernel_rfl
                case hy66 => (intro w hSw; (try dsimp only at hSw); go_simp; try with_reducible rfl)
                try simp only [Act.put, List.setIfInBounds_toArray, List.set_cons_zero, List.set_cons_succ]
                refine wpAnyH_take (i := 7) (oi := ?oi67) (v := ?v67) ?hi67 (by kernel_rfl) (by kernel_rfl) (by kernel_rfl) ?hq67 (Or.inl ⟨?hw67, ?hy67⟩) (by assumption) ?rest67
                case hi67 => simp only [List.getElem?_toArray, List.getElem?_cons_succ, List.getElem?_cons_zero]; rfl
                case hq67 => exact fun _ _ _ h => h
                case hw67 => kernel_rfl
                case hy67 => (intro w hSw; (try dsimp only at hSw); go_simp; try with_reducible rfl)
                try simp only [Act.put, List.setIfInBounds_toArray, List.set_cons_zero, List.set_cons_succ]
                refine wpAnyH_ready (rs := [6]) (by kernel_rfl) (by simp) ?_
                refine AllReadyH.cons (o := ?o68) ?ho68 (fun K hK => ?st68) AllReadyH.nil
                case ho68 => simp only [List.getElem?_toArray, List.getElem?_cons_succ, List.getElem?_cons_zero]; rfl
                go_simp
                go_at_call 40
                refine (HPL.out _).mono ?_
                rintro e wq ⟨rfl, hb2⟩
                have hBel := Below.trans hHeld.2.2.2.2 (hb2.mono (Below.size hHeld.2.2.2.2))
                clear hHeld
                try go_simp
                refine hK.out _ _ ?_ (fun hHeld => ?_)
                · exact HALL.out _ hBel
                clear hK K hb2 hBel
                try simp only [Act.put, List.setIfInBounds_toArray, List.set_cons_zero, List.set_cons_succ]
                refine wpAnyH_take (i := 8) (oi := ?oi69) (v := ?v69) ?hi69 (by kernel_rfl) (by kernel_rfl) (by kernel_rfl) ?hq69 (Or.inl ⟨?hw69, ?hy69⟩) (by assumption) ?rest69
                case hi69 => simp only [List.getElem?_toArray, List.getElem?_cons_succ, List.getElem?_cons_zero]; rfl
                case hq69 => exact fun _ _ _ h => h
                case hw69 => kernel_rfl
                case hy69 => (intro w hSw; (try dsimp only at hSw); go_simp; try with_reducible rfl)
                try simp only [Act.put, List.setIfInBounds_toArray, List.set_cons_zero, List.set_cons_succ]
                refine wpAnyH_take (i := 9) (oi := ?oi70) (v := ?v70) ?hi70 (by kernel_rfl) (by kernel_rfl) (by kernel_rfl) ?hq70 (Or.inl ⟨?hw70, ?hy70⟩) (by assumption) ?rest70
                case hi70 => simp only [List.getElem?_toArray, List.getElem?_cons_succ, List.getElem?_cons_zero]; rfl
                case hq70 => exact fun _ _ _ h => h
                case hw70 => kernel_rfl
                case hy70 => (intro w hSw; (try dsimp only at hSw); go_simp; try with_reducible rfl)
                try simp only [Act.put, List.setIfInBounds_toArray, List.set_cons_zero, List.set_cons_succ]
                refine wpAnyH_done (by kernel_rfl) ?_ _
                have hq : Below WA.heap.size WA wq := hHeld.2.2.2.2
                have HBq : Hid (Below w.heap.size w wq) := HBA.out.trans (hq.mono HBA.out.size)
                have HCq : Hid (wq.heap[w.heap.size]? = some zop8.obj) := (hq.block _ (block_lt HCA.out)).trans HCA.out
                have HXq : Hid (wq.heap[wr.heap.size]? = some (⟨(k : Int), x0, x1, x2⟩ : Opr).obj) := (hq.block _ (block_lt HXA.out)).trans HXA.out
                clear hHeld hq
                obtain ⟨v0, v1, v2, v3⟩ := opr_cells HXq.out
                have hsq := block_lt HXq.out
                obtain ⟨z0, z1, z2, z3⟩ := opr_cells HCq.out
                have f0 := frozen_of_block HCq.out 0
                have f1 := frozen_of_block HCq.out 1
                have f2 := frozen_of_block HCq.out 2
                have f3 := frozen_of_block HCq.out 3
                have hsz0 := block_lt HCq.out
                go_wp2_with fail
                exact bodyPost_ret (v := .tuple #[.agg #[.int .i64 (k : Int), .int .i64 x0, .int .i64 x1, .int .i64 x2], .int .i64 0]) (by simp [results, Tryd.results41, go_sem, z0, z1, z2, z3]) rfl
                  ⟨by rw [HNY.out], by repeat (first | exact HBq.out | refine Below.setCell ?_ (by simp) _)⟩
              · have q1 := strF hts
                have HNX : Hid (∀ j : Int, 1 ≤ j → j < ((k + 1 : Nat) : Int) → otext ⟨j, x0, x1, x2⟩ ≠ s) := fun j h1 h2 => by
                  by_cases e : j = (k : Int)
                  · rw [e]; exact hts
                  · exact HJ.out j h1 (by omega)
                clear hts hlt hk
                generalize otext ⟨(k : Int), x0, x1, x2⟩ = tx at q1 HTX
                go_wp2_with fail
                rw [← hWA]
                clear hWA y0 y1 y2
                refine wp_region_held_drew (S := fun W => W.cell? ⟨wr.heap.size, 0, none⟩ = some (.int .i64 (k : Int)) ∧ W.cell? ⟨wr.heap.size, 1, none⟩ = some (.int .i64 x0) ∧ W.cell? ⟨wr.heap.size, 2, none⟩ = some (.int .i64 x1) ∧ W.cell? ⟨wr.heap.size, 3, none⟩ = some (.int .i64 x2) ∧ Below WA.heap.size WA W) (by kernel_rfl) ?_ (fun hHeld => ?_)
                · exact HALL.out _ (Below.refl _ _).drew
                refine wpAnyH_take (i := 0) (oi := ?oi71) (v := ?v71) ?hi71 (by kernel_rfl) (by kernel_rfl) (by kernel_rfl) ?hq71 (Or.inl ⟨?hw71, ?hy71⟩) (by assumption) ?rest71
                case hi71 => simp only [List.getElem?_toArray, List.getElem?_cons_succ, List.getElem?_cons_zero]; rfl
                case hq71 => exact fun _ _ _ h => h
                case hw71 => kernel_rfl
                case hy71 => (intro w hSw; (try dsimp only at hSw); go_simp; try with_reducible rfl)
                try simp only [Act.put, List.setIfInBounds_toArray, List.set_cons_zero, List.set_cons_succ]
                refine wpAnyH_take (i := 2) (oi := ?oi72) (v := ?v72) ?hi72 (by kernel_rfl) (by kernel_rfl) (by kernel_rfl) ?hq72 (Or.inl ⟨?hw72, ?hy72⟩) (by assumption) ?rest72
                case hi72 => simp only [List.getElem?_toArray, List.getElem?_cons_succ, List.getElem?_cons_zero]; rfl
                case hq72 => exact fun _ _ _ h => h
                case hw72 => kernel_rfl
                case hy72 => (intro w hSw; (try dsimp only at hSw); go_simp; try with_reducible rfl)
                try simp only [Act.put, List.setIfInBounds_toArray, List.set_cons_zero, List.set_cons_succ]
                refine wpAnyH_ready (rs := [1]) (by kernel_rfl) (by simp) ?_
                refine AllReadyH.cons (o := ?o73) ?ho73 (fun K hK => ?st73) AllReadyH.nil
                case ho73 => simp only [List.getElem?_toArray, List.getElem?_cons_succ, List.getElem?_cons_zero]; rfl
                go_simp
                go_at_call 39
                refine (HTX.out _).mono ?_
                rintro e wq ⟨rfl, hb2⟩
                have hBel := Below.trans hHeld.2.2.2.2 (hb2.mono (Below.size hHeld.2.2.2.2))
                clear hHeld
                try go_simp
                refine hK.out _ _ ?_ (fun hHeld => ?_)
                · exact HALL.out _ hBel
                clear hK K hb2 hBel
                try simp only [Act.put, List.setIfInBounds_toArray, List.set_cons_zero, List.set_cons_succ]
                refine wpAnyH_take (i := 3) (oi := ?oi74) (v := ?v74) ?hi74 (by kernel_rfl) (by kernel_rfl) (by kernel_rfl) ?hq74 (Or.inl ⟨?hw74, ?hy74⟩) (by assumption) ?rest74
                case hi74 => simp only [List.getElem?_toArray, List.getElem?_cons_succ, List.getElem?_cons_zero]; rfl
                case hq74 => exact fun _ _ _ h => h
                case hw74 => kernel_rfl
                case hy74 => (intro w hSw; (try dsimp only at hSw); go_simp; try with_reducible rfl)
                try simp only [Act.put, List.setIfInBounds_toArray, List.set_cons_zero, List.set_cons_succ]
                refine wpAnyH_take (i := 4) (oi := ?oi75) (v := ?v75) ?hi75 (by kernel_rfl) (by kernel_rfl) (by kernel_rfl) ?hq75 (Or.inl ⟨?hw75, ?hy75⟩) (by assumption) ?rest75
                case hi75 => simp only [List.getElem?_toArray, List.getElem?_cons_succ, List.getElem?_cons_zero]; rfl
                case hq75 => exact fun _ _ _ h => h
                case hw75 => kernel_rfl
                case hy75 => (intro w hSw; (try dsimp only at hSw); go_simp; try with_reducible rfl)
                try simp only [Act.put, List.setIfInBounds_toArray, List.set_cons_zero, List.set_cons_succ]
                refine wpAnyH_take (i := 5) (oi := ?oi76) (v := undef) ?hi76 (by kernel_rfl) (by kernel_rfl) (by kernel_rfl) ?hq76 (Or.inr ⟨?hw76, rfl⟩) (by assumption) ?rest76
                case hi76 => simp only [List.getElem?_toArray, List.getElem?_cons_succ, List.getElem?_cons_zero]; rfl
                case hq76 => exact fun _ _ _ h => h
                case hw76 => kernel_rfl
                try simp only [Act.put, List.setIfInBounds_toArray, List.set_cons_zero, List.set_cons_succ]
                refine wpAnyH_take (i := 6) (oi := ?oi77) (v := undef) ?hi77 (by kernel_rfl) (by kernel_rfl) (by kernel_rfl) ?hq77 (Or.inr ⟨?hw77, rfl⟩) (by assumption) ?rest77
                case hi77 => simp only [List.getElem?_toArray, List.getElem?_cons_succ, List.getElem?_cons_zero]; rfl
                case hq77 => exact fun _ _ _ h => h
                case hw77 => kernel_rfl
                try simp only [Act.put, List.setIfInBounds_toArray, List.set_cons_zero, List.set_cons_succ]
                refine wpAnyH_take (i := 7) (oi := ?oi78) (v := undef) ?hi78 (by kernel_rfl) (by kernel_rfl) (by kernel_rfl) ?hq78 (Or.inr ⟨?hw78, rfl⟩) (by assumption) ?rest78
                case hi78 => simp only [List.getElem?_toArray, List.getElem?_cons_succ, List.getElem?_cons_zero]; rfl
                case hq78 => exact fun _ _ _ h => h
                case hw78 => kernel_rfl
                try simp only [Act.put, List.setIfInBounds_toArray, List.set_cons_zero, List.set_cons_succ]
                refine wpAnyH_take (i := 8) (oi := ?oi79) (v := undef) ?hi79 (by kernel_rfl) (by kernel_rfl) (by kernel_rfl) ?hq79 (Or.inr ⟨?hw79, rfl⟩) (by assumption) ?rest79
                case hi79 => simp only [List.getElem?_toArray, List.getElem?_cons_succ, List.getElem?_cons_zero]; rfl
                case hq79 => exact fun _ _ _ h => h
                case hw79 => kernel_rfl
                try simp only [Act.put, List.setIfInBounds_toArray, List.set_cons_zero, List.set_cons_succ]
                refine wpAnyH_take (i := 9) (oi := ?oi80) (v := ?v80) ?hi80 (by kernel_rfl) (by kernel_rfl) (by kernel_rfl) ?hq80 (Or.inl ⟨?hw80, ?hy80⟩) (by assumption) ?rest80
                case hi80 => simp only [List.getElem?_toArray, List.getElem?_cons_succ, List.getElem?_cons_zero]; rfl
                case hq80 => exact fun _ _ _ h => h
                case hw80 => kernel_rfl
                case hy80 => (intro w hSw; (try dsimp only at hSw); go_simp; try with_reducible rfl)
                try simp only [Act.put, List.setIfInBounds_toArray, List.set_cons_zero, List.set_cons_succ]
                refine wpAnyH_done (by kernel_rfl) ?_ _
                have hq : Below WA.heap.size WA wq := hHeld.2.2.2.2
                have HBq : Hid (Below w.heap.size w wq) := HBA.out.trans (hq.mono HBA.out.size)
                have HCq : Hid (wq.heap[w.heap.size]? = some zop8.obj) := (hq.block _ (block_lt HCA.out)).trans HCA.out
                have HAq : Hid (IntArr 113 wq (w.heap.size + 1) [x0, x1, x2, x3]) := HAA.out.below HAA.out.lt hq
                clear hHeld hq
                go_wp2_with fail
                go_roundw
                case rel => exact ⟨k + 1, by omega, by have := HLT.out; omega, by go_num, HAq.out, HCq.out, HBq.out, HNX.out⟩
                case measure => have := HLT.out; simp [intOf]; omega
            · obtain rfl : k = 12 := by omega
              have HNY : Hid (oread s = (⟨0, 0, 0, 0⟩, 3)) := onums_no HON.out (fun j hj => HJ.out j hj.1 (by omega))
              clear hlt hk hk1
              obtain ⟨z0, z1, z2, z3⟩ := opr_cells HC5.out
              have f0 := frozen_of_block HC5.out 0
              have f1 := frozen_of_block HC5.out 1
              have f2 := frozen_of_block HC5.out 2
              have f3 := frozen_of_block HC5.out 3
              have hsz0 := block_lt HC5.out
              go_wp2_with fail
              exact bodyPost_ret (v := .tuple #[.agg #[.int .i64 0, .int .i64 0, .int .i64 0, .int .i64 0], .int .i64 3]) (by simp [results, Tryd.results41, go_sem, z0, z1, z2, z3]) rfl
                ⟨by rw [HNY.out], by repeat (first | exact HB5.out | refine Below.setCell ?_ (by simp) _)⟩
end Go.Proofs.YtcheafeaioflmaaDoor

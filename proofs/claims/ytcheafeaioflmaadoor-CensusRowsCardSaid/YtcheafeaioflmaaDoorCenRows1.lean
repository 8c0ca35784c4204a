/- census.Rows: the contract of the iterator over a census's rows. -/
import Derived.Test.YtcheafeaioflmaaDoorCenIter
namespace Go.Proofs.YtcheafeaioflmaaDoor
open Go Go.RowKit Go.Shelf
set_option linter.unusedSimpArgs false
set_option linter.unusedVariables false
attribute [local go_sem] Oper.semAt_some

theorem room_none {F : Fence} (hd : F.depth = none) (k : Nat) : F.room k := fun d h => by rw [hd] at h; cases h
theorem round_any {F : Fence} (hd : F.depth = none) {m m' : Nat} {P : Program} {l : Nat} {f : FuncId} {tmps : Array Value} {assign body : Code} {w : World} {R : Ending → World → Prop}
    (h : RoundIn F m P l f tmps assign body w R) : RoundIn F m' P l f tmps assign body w R := ⟨h.1, fun c cs _ => h.2 c cs (room_none hd _)⟩
theorem yield_any {F : Fence} (hd : F.depth = none) {m : Nat} (m' : Nat) {P : Program} {l : Nat} {args : Array Value} {W : World} {R : Ending → World → Prop} (h : YieldAt F m P l args W R) : YieldAt F m' P l args W R := by
  obtain ⟨fn, tmps, assign, body, hy, hR⟩ := h
  exact ⟨fn, tmps, assign, body, hy, round_any hd hR⟩
theorem yield_mono {F : Fence} {m : Nat} {P : Program} {l : Nat} {args : Array Value} {W : World} {R R' : Ending → World → Prop} (h : YieldAt F m P l args W R) (hi : ∀ e w, R e w → R' e w) : YieldAt F m P l args W R' := by
  obtain ⟨fn, tmps, assign, body, hy, hR⟩ := h
  exact ⟨fn, tmps, assign, body, hy, hR.mono hi⟩
theorem wpListIn_load_mid {F : Fence} {n : Nat} {P : Program} {ops : Array Oper} {rest : List Oper} {op : Oper} {a : Act} {w : World} {Q : Exit → Act → World → Prop} (hgd : op.guard = none) (ty : TypeId) (x : Operand) (ho : op.op = .load ty x)
    (b o : Nat) (hx : a.eval x = .pointer (some ⟨b, o, none⟩)) (cs : List Value) (d : TypeDesc) (hc : w.rangeAt b o cs)
    (hu : P.underlying ty = some d) (hd : d.isRow = true) (hi : (P.info? ty).map (·.size) = some cs.length)
    (h : wpListIn F n P ops Q rest (a.put op.dst (.agg cs.toArray)) w) : wpListIn F n P ops Q (op :: rest) a w := by
  refine wpListIn_plain hgd fun K hK => ?_
  unfold Oper.wpIn
  refine ⟨?_, ?_⟩
  · simp [Oper.about, ho, resolve, Target.leads, Sem.run_pure]
  · rw [Oper.semAt_plain F _ _ (by rw [ho]; intro c hc'; cases hc')]
    have hr : (execOp a.eval op).run P w = .ok (.value (.agg cs.toArray)) w := by
      unfold execOp
      simp only [ho, hx, Instr.loadAt, Instr.sureAddr, Sem.run_bind, Sem.run_pure, Result.andThen_ok, run_loadVar_mid w b o ty cs d hc hu hd hi]
    rw [hr]
    exact hK _ _ h
/-- what a round of the law keeps: all but the block nb and what is no block of cells -/
def KX (nb : Nat) (W W' : World) : Prop := Below nb W W' ∧ ∀ k a E, nb < k → W.heap[k]? = some (.cells a E) → W'.heap[k]? = some (.cells a E)
theorem kx_t {nb : Nat} {A B C : World} (h : KX nb A B) (k : KX nb B C) : KX nb A C := ⟨h.1.trans k.1, fun j a E hj e => k.2 j a E hj (h.2 j a E hj e)⟩
theorem kx_b {nb : Nat} {w : World} (hn : nb ≤ w.heap.size) (W : World) (l : Nat) (o o' : Obj) (hl : w.heap.size ≤ l) (h : W.heap[l]? = some o) (hc : o.isCells = false) (hw : o.isWalk = false) : KX nb W (W.putObj l o') := by
  refine ⟨(belowK_b (n₀ := nb) (w := w) hn W l o o' hl h hc hw), fun k a E hk e => ?_⟩
  have hne : k ≠ l := by rintro rfl; rw [h] at e; cases e; simp [Obj.isCells] at hc
  unfold World.putObj
  simp only [Array.getElem?_setIfInBounds]
  rw [if_neg (fun x => hne x.symm)]
  exact e
theorem kx_set {nb : Nat} (W : World) (v : Value) : KX nb W (W.setCell ⟨nb, 0, none⟩ v) := ⟨(Below.refl _ _).setCell (p := ⟨nb, 0, none⟩) (Nat.le_refl _) _, fun k a E hk e => (Below.heap_setCell _ _ _ _ (by show k ≠ nb; omega)).trans e⟩
theorem kx_of_below {nb : Nat} {W W' : World} (h : Below W.heap.size W W') (hn : nb ≤ W.heap.size) : KX nb W W' := ⟨h.mono hn, fun k a E hk e => (h.block k (block_lt e)).trans e⟩
theorem rowsMk_any (w : World) (f : Nat → Int) :
    Calls Tryd.prog 45 #[.agg (cl f).toArray] w fun e w' => e = .returned (.func (.func 90) #[] #[.pointer (some ⟨w.heap.size, 0, none⟩)]) ∧ w' = w.alloc (.cells (cl f).toArray 67) := by
  have hlen := cl_len f
  go_enter Tryd.func45, Tryd.ntmps45
  go_wp2_with fail
  go_ret
  exact ⟨rfl, rfl⟩
theorem cenA_pre (f : Nat → Int) {k : Nat} (hk : k ≤ 11) : cenA f k <+: cenRows f := by
  refine List.IsPrefix.trans ?_ (List.prefix_append _ _)
  refine List.IsPrefix.trans ?_ (List.prefix_append _ _)
  refine ⟨(List.range' k (11 - k)).map fun j => crow (fname ((j + 1 : Nat) : Int)) (f (j + 1)), ?_⟩
  unfold cenA
  rw [← List.map_append, List.range_eq_range', List.range_eq_range', show List.range' 0 11 = List.range' 0 (k + (11 - k)) by rw [show k + (11 - k) = 11 by omega], ← List.range'_append_1, Nat.zero_add]
def w5 (k : Nat) : ByteArray := if k = 0 then ⟨#[108, 105, 110]⟩ else if k = 1 then ⟨#[116, 97, 107, 101]⟩ else if k = 2 then ⟨#[97, 112, 112, 101, 110, 100]⟩ else if k = 3 then ⟨#[102, 108, 105, 112]⟩ else ⟨#[99, 121, 99, 108, 101]⟩
def cenC (f : Nat → Int) (k : Nat) : List ByteArray := cenB f 6 ++ (List.range k).map fun j => crow (w5 j) (f (19 + j))
theorem cenC_next (f : Nat → Int) (k : Nat) : cenC f (k + 1) = cenC f k ++ [crow (w5 k) (f (19 + k))] := by simp [cenC, List.range_succ]
theorem cenC_len (f : Nat → Int) (k : Nat) : (cenC f k).length = 17 + k := by simp [cenC, cenB, cenA]; omega
theorem cenC_5 (f : Nat → Int) : cenC f 5 = cenRows f := rfl
theorem cenC_pre (f : Nat → Int) {k : Nat} (hk : k ≤ 5) : cenC f k <+: cenRows f := by
  rw [← cenC_5]
  unfold cenC
  rw [List.prefix_append_right_inj]
  refine ⟨(List.range' k (5 - k)).map fun j => crow (w5 j) (f (19 + j)), ?_⟩
  rw [← List.map_append, List.range_eq_range', List.range_eq_range', show List.range' 0 5 = List.range' 0 (k + (5 - k)) by rw [show k + (5 - k) = 5 by omega], ← List.range'_append_1, Nat.zero_add]
theorem w5_size (k : Nat) : (w5 k).size ≤ 6 := by
  unfold w5
  repeat' split
  all_goals decide
set_option maxRecDepth 100000 in
theorem index_w5 (w : World) (k : Nat) (hk : k < 5) : (Instr.index 133 (.agg #[.string ⟨#[108, 105, 110]⟩, .string ⟨#[116, 97, 107, 101]⟩, .string ⟨#[97, 112, 112, 101, 110, 100]⟩, .string ⟨#[102, 108, 105, 112]⟩, .string ⟨#[99, 121, 99, 108, 101]⟩]) (.int .i64 (k : Int))).run Tryd.prog w = .ok (.string (w5 k)) w := by
  obtain rfl | rfl | rfl | rfl | rfl : k = 0 ∨ k = 1 ∨ k = 2 ∨ k = 3 ∨ k = 4 := by omega
  all_goals
    go_simp
    rfl
theorem num_cell {w : World} {g : Nat} {f : Nat → Int} {n0 n1 n2 n3 n4 : Int} (hn : (n0 = f 19 ∧ n1 = f 20) ∧ n2 = f 21 ∧ n3 = f 22 ∧ n4 = f 23) (h : w.heap[g]? = some (.cells #[.int .i64 n0, .int .i64 n1, .int .i64 n2, .int .i64 n3, .int .i64 n4] 132)) (k : Nat) (hk : k < 5) : w.cell? ⟨g, k, none⟩ = some (.int .i64 (f (19 + k))) := by
  obtain ⟨⟨rfl, rfl⟩, rfl, rfl, rfl⟩ := hn
  rw [cell_of_block h k]
  obtain rfl | rfl | rfl | rfl | rfl : k = 0 ∨ k = 1 ∨ k = 2 ∨ k = 3 ∨ k = 4 := by omega
  all_goals rfl
theorem cenB_pre (f : Nat → Int) {k : Nat} (hk : k ≤ 6) : cenB f k <+: cenRows f := by
  refine List.IsPrefix.trans ?_ (List.prefix_append _ _)
  unfold cenB
  rw [List.prefix_append_right_inj]
  refine ⟨(List.range' k (6 - k)).map fun j => crow (fret ((j + 1 : Nat) : Int)) (f (12 + (j + 1))), ?_⟩
  rw [← List.map_append, List.range_eq_range', List.range_eq_range', show List.range' 0 6 = List.range' 0 (k + (6 - k)) by rw [show k + (6 - k) = 6 by omega], ← List.range'_append_1, Nat.zero_add]
set_option maxHeartbeats 8000000 in
set_option maxRecDepth 100000 in
theorem rows1_in (n : Nat) (hn : 2 ≤ n) (l cb nb : Nat) (f : Nat → Int) (hf : ∀ i, -9223372036854775808 ≤ f i ∧ f i ≤ 9223372036854775807) (J Jx : List ByteArray → World → Prop)
    (hY : ∀ pre y W, J pre W → pre.length < 22 → YieldAt Fence.wide (n - 1) Tryd.prog l #[.string y] W fun e W' =>
      (e = .returned (.bool true) ∧ J (pre ++ [y]) W' ∧ KX nb W W') ∨ (e = .returned (.bool false) ∧ Jx (pre ++ [y]) W'))
    (W : World) (hJ : AbidesFrom W.heap.size J) (hcb : nb < cb) (ht : Tens W) (htb : ∀ W', Below nb W W' → Tens W') (hX : W.heap[cb]? = some (.cells (cl f).toArray 67)) (h0 : J [] W) :
    CallsIn Fence.wide n Tryd.prog 90 #[.func (.yield l) #[] #[], .pointer (some ⟨cb, 0, none⟩)] W fun e W' => (∃ v, e = .returned v) ∧
      ((∃ ys, ys = cenRows f ∧ J ys W') ∨ (∃ pre, pre <+: cenRows f ∧ Jx pre W')) := by
  have HJ := Lib.hid hJ
  have HX := Lib.hid hX
  have HTB := Lib.hid htb
  have HF := Lib.hid hf
  have HY := Lib.hid hY
  have hz0 : cb < W.heap.size := block_lt hX
  obtain ⟨W0, hW0⟩ : ∃ W0, W0 = W.alloc (.cells #[.func (.yield l) #[] #[]] 49) := ⟨_, rfl⟩
  have hB0 : Below W.heap.size W W0 := by rw [hW0]; exact (Below.refl _ W).alloc (Nat.le_refl _) _
  have HK0 : Hid (KX nb W W0) := kx_of_below hB0 (by omega)
  have HYB0 : Hid (W0.heap[W.heap.size]? = some (.cells #[.func (.yield l) #[] #[]] 49)) := by rw [hW0]; exact heap_alloc_new _ _
  have HJ0 : Hid (J [] W0) := abides_below HJ.out h0 hB0
  have HX0 : Hid (W0.heap[cb]? = some (.cells (cl f).toArray 67)) := (hB0.block _ hz0).trans hX
  have HS : Hid (∀ W1 pre wd x, J pre W1 → pre.length < 22 → KX nb W0 W1 → wd.size ≤ 1000 → (-9223372036854775808 ≤ x ∧ x ≤ 9223372036854775807) → CallsIn Fence.wide (n - 1) Tryd.prog 91 #[.string wd, .int .i64 x, .pointer (some ⟨W.heap.size, 0, none⟩)] W1 fun e W2 => ∃ b, e = .returned (.bool b) ∧ ((b = true ∧ J (pre ++ [crow wd x]) W2 ∧ KX nb W1 W2) ∨ (b = false ∧ Jx (pre ++ [crow wd x]) W2))) := by
    intro W1 pre wd x hj hp hk hw hx
    have hz1 : W.heap.size < W1.heap.size := block_lt (hk.2 _ _ _ (by omega) HYB0.out)
    refine say_in (n - 1) (by omega) l W.heap.size W1 wd x hw hx (HTB.out _ (HK0.out.1.trans hk.1)) (cell_of_block (hk.2 _ _ _ (by omega) HYB0.out) 0) (fun b W2 => (b = true ∧ J (pre ++ [crow wd x]) W2 ∧ KX nb W1 W2) ∨ (b = false ∧ Jx (pre ++ [crow wd x]) W2)) ?_
    intro W' hb
    refine yield_mono (yield_any rfl (n - 1 - 1) (HY.out pre (crow wd x) W' (abides_below HJ.out hj hb) hp)) ?_
    rintro e w (⟨rfl, h2, h3⟩ | ⟨rfl, h2⟩)
    · exact ⟨true, rfl, .inl ⟨rfl, h2, kx_t (kx_of_below hb (by omega)) h3⟩⟩
    · exact ⟨false, rfl, .inr ⟨rfl, h2⟩⟩
  clear hX htb hf hY hJ ht h0 hB0
  refine callsIn_of_wp Tryd.func90 rfl trivial ?_ rfl
  simp only [Tryd.ntmps90, List.size_toArray, List.length_cons, List.length_nil, Nat.reduceAdd, Nat.reduceSub, Array.replicate_succ, Array.replicate_zero, List.push_toArray, List.append_toArray, List.nil_append, List.cons_append]
  gi_wp2_with (first
    | (guard_target =~ wpListIn _ _ _ _ _ (Oper.mk _ (Op.load 64 _) _ _ _ _ :: _) _ _; rw [← hW0]; refine wpListIn_load_mid rfl 64 _ rfl cb 0 rfl ((cl f).take 12) _ (range_12 (cat_block' HX0.out)) Tryd.underlying64 rfl (by rw [List.length_take, cl_len]; kernel_rfl) ?_))
  rw [← hW0]
  gi_loopw [4, 5, 14] (fun _ _ i wr => ∃ k : Nat, k ≤ 12 ∧ i = .int .i64 k ∧ Hid (J (cenA f (k - 1)) wr) ∧ Hid (KX nb W0 wr)) (fun _ _ i _ => 12 - (intOf i).toNat)
  case atStart => exact ⟨0, Nat.zero_le _, rfl, HJ0.out, ⟨Below.refl _ _, fun k a E _ e => e⟩⟩
  case round =>
    obtain ⟨k, hk, rfl, HJP, HKP⟩ := hrel
    by_cases hlt : k < 12
    · have hix := fun w' : World => index_12 w' f k hlt
      have dl2 : decide ((k : Int) < 12) = true := by simp; omega
      have i1 : (0 : Int) ≤ (k : Int) := by omega
      have i2 : (k : Int) < 12 := by omega
      have sk2 : IntKind.i64.wrap ((k : Int) + 1) = (k : Int) + 1 := IntWalk.i64_in _ (by omega)
      by_cases hk0 : 0 < k
      · have dg : decide ((k : Int) > 0) = true := by simp; omega
        have dg2 : decide (0 < (k : Int)) = true := by simp; omega
        have HNX : Hid (cenA f (k + 1 - 1) = cenA f (k - 1) ++ [crow (fname (k : Int)) (f k)]) := by have h := cenA_next f (k - 1); rw [show k - 1 + 1 = k by omega] at h; exact h
        have HLT : Hid ((cenA f (k - 1)).length < 22) := by unfold Hid; rw [cenA_len]; omega
        have HPR : Hid (cenA f (k + 1 - 1) <+: cenRows f) := cenA_pre f (by omega)
        have hfk := Lib.hid (HF.out k)
        have hfs := Lib.hid (fname_size (k : Int))
        gi_wp2
        refine ⟨trivial, fun _ => by omega, ?_⟩
        refine (callsIn_wide.2 (oname_any _ (k : Int))).mono ?_
        rintro e w2 ⟨rfl, hb⟩
        have HZ := HKP.out.1.size
        have HKB : Hid (KX nb W0 w2) := kx_t HKP.out (kx_of_below hb (by rw [hW0] at HZ; simp at HZ; omega))
        have HJB := Lib.hid (abides_below HJ.out HJP.out hb)
        have HC := Lib.hid (HS.out w2 _ (fname (k : Int)) (f k) HJB.out HLT.out HKB.out (by have := hfs.out; omega) hfk.out)
        clear hb HZ
        gi_wp2
        refine ⟨trivial, fun _ => by omega, ?_⟩
        refine HC.out.mono ?_
        rintro e w3 ⟨b, rfl, (⟨rfl, hj3, hk3⟩ | ⟨rfl, hj3⟩)⟩
        · have HJ3 := Lib.hid hj3
          have HK3 := Lib.hid (kx_t HKB.out hk3)
          clear hj3 hk3
          gi_wp2
          go_roundw
          case rel => exact ⟨k + 1, by omega, by go_num, by rw [HNX.out]; exact HJ3, HK3⟩
          case measure => (simp [intOf] <;> omega)
        · have HJ3 := Lib.hid hj3
          clear hj3
          gi_wp2
          refine bodyPost_ret (results_none rfl _ _ _) rfl ?_
          exact ⟨⟨_, rfl⟩, .inr ⟨_, by rw [← HNX.out]; exact HPR.out, HJ3.out⟩⟩
      · have dg : decide ((k : Int) > 0) = false := by simp; omega
        have dg2 : decide (0 < (k : Int)) = false := by simp; omega
        have HK0 : Hid (k = 0) := by unfold Hid; omega
        have HNX : Hid (cenA f (k + 1 - 1) = cenA f (k - 1)) := by unfold Hid; rw [HK0.out]
        gi_wp2
        refine ⟨trivial, ?_⟩
        gi_wp2
        refine ⟨fun _ h => (by cases h), ?_⟩
        gi_wp2
        go_roundw
        case rel => exact ⟨k + 1, by omega, by go_num, by rw [HNX.out]; exact HJP, HKP⟩
        case measure => (simp [intOf] <;> omega)
    have dl2 : decide ((k : Int) < 12) = false := by simp; omega
    have hk12 : k = 12 := by omega
    have HJA : Hid (J (cenA f 11) wr) := by rw [hk12] at HJP; exact HJP
    clear HJP hk12 hk hlt
    gi_wp2_with (first
      | (guard_target =~ wpListIn _ _ _ _ _ (Oper.mk _ (Op.load 65 _) _ _ _ _ :: _) _ _; refine wpListIn_load_mid rfl 65 _ rfl cb 12 rfl (((cl f).drop 12).take 7) _ (range_7 (cat_block' (HKP.out.2 _ _ _ hcb HX0.out))) Tryd.underlying65 rfl (by rw [List.length_take, List.length_drop, cl_len]; kernel_rfl) ?_))
    clear dl2
    gi_loopw [6, 7, 31] (fun _ _ i wr => ∃ k : Nat, k ≤ 7 ∧ i = .int .i64 k ∧ Hid (J (cenB f (k - 1)) wr) ∧ Hid (KX nb W0 wr)) (fun _ _ i _ => 7 - (intOf i).toNat)
    case atStart => exact ⟨0, Nat.zero_le _, rfl, HJA, HKP⟩
    case round =>
      obtain ⟨k, hk, rfl, HJP, HKP⟩ := hrel
      by_cases hlt : k < 7
      · have hix := fun w' : World => index_7 w' f k hlt
        have dl2 : decide ((k : Int) < 7) = true := by simp; omega
        have i1 : (0 : Int) ≤ (k : Int) := by omega
        have i2 : (k : Int) < 7 := by omega
        have sk2 : IntKind.i64.wrap ((k : Int) + 1) = (k : Int) + 1 := IntWalk.i64_in _ (by omega)
        by_cases hk0 : 0 < k
        · have dg : decide ((k : Int) > 0) = true := by simp; omega
          have dg2 : decide (0 < (k : Int)) = true := by simp; omega
          have HNX : Hid (cenB f (k + 1 - 1) = cenB f (k - 1) ++ [crow (fret (k : Int)) (f (12 + k))]) := by have h := cenB_next f (k - 1); rw [show k - 1 + 1 = k by omega] at h; exact h
          have HLT : Hid ((cenB f (k - 1)).length < 22) := by unfold Hid; rw [cenB_len]; omega
          have HPR : Hid (cenB f (k + 1 - 1) <+: cenRows f) := cenB_pre f (by omega)
          have hfk := Lib.hid (HF.out (12 + k))
          have hfs := Lib.hid (fret_size (k : Int))
          gi_wp2
          refine ⟨trivial, fun _ => by omega, ?_⟩
          refine (callsIn_wide.2 (oret_any _ (k : Int))).mono ?_
          rintro e w2 ⟨rfl, hb⟩
          have HZ := HKP.out.1.size
          have HKB : Hid (KX nb W0 w2) := kx_t HKP.out (kx_of_below hb (by rw [hW0] at HZ; simp at HZ; omega))
          have HJB := Lib.hid (abides_below HJ.out HJP.out hb)
          have HC := Lib.hid (HS.out w2 _ (fret (k : Int)) (f (12 + k)) HJB.out HLT.out HKB.out (by have := hfs.out; omega) hfk.out)
          clear hb HZ
          gi_wp2
          refine ⟨trivial, fun _ => by omega, ?_⟩
          refine HC.out.mono ?_
          rintro e w3 ⟨b, rfl, (⟨rfl, hj3, hk3⟩ | ⟨rfl, hj3⟩)⟩
          · have HJ3 := Lib.hid hj3
            have HK3 := Lib.hid (kx_t HKB.out hk3)
            clear hj3 hk3
            gi_wp2
            go_roundw
            case rel => exact ⟨k + 1, by omega, by go_num, by rw [HNX.out]; exact HJ3, HK3⟩
            case measure => (simp [intOf] <;> omega)
          · have HJ3 := Lib.hid hj3
            clear hj3
            gi_wp2
            refine bodyPost_ret (results_none rfl _ _ _) rfl ?_
            exact ⟨⟨_, rfl⟩, .inr ⟨_, by rw [← HNX.out]; exact HPR.out, HJ3.out⟩⟩
        · have dg : decide ((k : Int) > 0) = false := by simp; omega
          have dg2 : decide (0 < (k : Int)) = false := by simp; omega
          have HK0 : Hid (k = 0) := by unfold Hid; omega
          have HNX : Hid (cenB f (k + 1 - 1) = cenB f (k - 1)) := by unfold Hid; rw [HK0.out]
          gi_wp2
          refine ⟨trivial, ?_⟩
          gi_wp2
          refine ⟨fun _ h => (by cases h), ?_⟩
          gi_wp2
          go_roundw
          case rel => exact ⟨k + 1, by omega, by go_num, by rw [HNX.out]; exact HJP, HKP⟩
          case measure => (simp [intOf] <;> omega)
      have dl2 : decide ((k : Int) < 7) = false := by simp; omega
      have hk7 : k = 7 := by omega
      have HJB : Hid (J (cenB f 6) wr) := by rw [hk7] at HJP; exact HJP
      clear HJP hk7 hk hlt
      have hcat := cat_block' (HKP.out.2 _ _ _ hcb HX0.out)
      have c19 := hcat.cell 19 (by omega)
      have c20 := hcat.cell 20 (by omega)
      have c21 := hcat.cell 21 (by omega)
      have c22 := hcat.cell 22 (by omega)
      have c23 := hcat.cell 23 (by omega)
      clear hcat
      obtain ⟨n0, hn0⟩ : ∃ x, x = f 19 := ⟨_, rfl⟩
      obtain ⟨n1, hn1⟩ : ∃ x, x = f 20 := ⟨_, rfl⟩
      obtain ⟨n2, hn2⟩ : ∃ x, x = f 21 := ⟨_, rfl⟩
      obtain ⟨n3, hn3⟩ : ∃ x, x = f 22 := ⟨_, rfl⟩
      obtain ⟨n4, hn4⟩ : ∃ x, x = f 23 := ⟨_, rfl⟩
      rw [← hn0] at c19
      rw [← hn1] at c20
      rw [← hn2] at c21
      rw [← hn3] at c22
      rw [← hn4] at c23
      have HN : Hid ((n0 = f 19 ∧ n1 = f 20) ∧ n2 = f 21 ∧ n3 = f 22 ∧ n4 = f 23) := ⟨⟨hn0, hn1⟩, hn2, hn3, hn4⟩
      clear hn0 hn1 hn2 hn3 hn4
      have HGZ : Hid (cb < wr.heap.size) := block_lt (HKP.out.2 _ _ _ hcb HX0.out)
      gi_wp2
      obtain ⟨g, hg⟩ : ∃ g, g = wr.heap.size := ⟨_, rfl⟩
      rw [← hg]
      obtain ⟨W3, hW3⟩ : ∃ W3, W3 = wr.alloc (.cells #[.int .i64 n0, .int .i64 n1, .int .i64 n2, .int .i64 n3, .int .i64 n4] 132) := ⟨_, rfl⟩
      rw [← hW3]
      have hb3 : Below wr.heap.size wr W3 := by rw [hW3]; exact (Below.refl _ wr).alloc (Nat.le_refl _) _
      have HG3 : Hid (W3.heap[g]? = some (.cells #[.int .i64 n0, .int .i64 n1, .int .i64 n2, .int .i64 n3, .int .i64 n4] 132)) := by rw [hW3, hg]; exact heap_alloc_new _ _
      have HJ3 : Hid (J (cenC f 0) W3) := by
        have h : J (cenB f 6) W3 := abides_below HJ.out HJB.out hb3
        unfold Hid cenC
        simpa using h
      have HK3 : Hid (KX nb W0 W3) := kx_t HKP.out (kx_of_below hb3 (by have := HGZ.out; omega))
      have HGN : Hid (nb < g) := by have := HGZ.out; unfold Hid; omega
      clear hb3 hW3 hg HGZ HJB HKP c19 c20 c21 c22 c23 dl2
      gi_loopw [9, 10, 58] (fun _ _ i wr => ∃ k : Nat, k ≤ 5 ∧ i = .int .i64 k ∧ Hid (J (cenC f k) wr) ∧ Hid (KX nb W3 wr)) (fun _ _ i _ => 5 - (intOf i).toNat)
      case atStart => exact ⟨0, Nat.zero_le _, rfl, HJ3.out, ⟨Below.refl _ _, fun k a E _ e => e⟩⟩
      case round =>
        obtain ⟨k, hk, rfl, HJP, HKP⟩ := hrel
        by_cases hlt : k < 5
        · have hix := fun w' : World => index_w5 w' k hlt
          have dl2 : decide ((k : Int) < 5) = true := by simp; omega
          have i1 : (0 : Int) ≤ (k : Int) := by omega
          have i2 : (k : Int) < 5 := by omega
          have sk2 : IntKind.i64.wrap ((k : Int) + 1) = (k : Int) + 1 := IntWalk.i64_in _ (by omega)
          have HNX : Hid (cenC f (k + 1) = cenC f k ++ [crow (w5 k) (f (19 + k))]) := cenC_next f k
          have HLT : Hid ((cenC f k).length < 22) := by unfold Hid; rw [cenC_len]; omega
          have HPR : Hid (cenC f (k + 1) <+: cenRows f) := cenC_pre f (by omega)
          have hfk := Lib.hid (HF.out (19 + k))
          have hnc := num_cell HN.out (HKP.out.2 _ _ _ HGN.out HG3.out) k hlt
          have HC := Lib.hid (HS.out wr _ (w5 k) (f (19 + k)) HJP.out HLT.out (kx_t HK3.out HKP.out) (by have := w5_size k; omega) hfk.out)
          gi_wp2
          refine ⟨trivial, fun _ => by omega, ?_⟩
          refine HC.out.mono ?_
          rintro e w3 ⟨b, rfl, (⟨rfl, hj3, hk3⟩ | ⟨rfl, hj3⟩)⟩
          · have HJ3 := Lib.hid hj3
            have HK3 := Lib.hid (kx_t HKP.out hk3)
            clear hj3 hk3
            gi_wp2
            go_roundw
            case rel => exact ⟨k + 1, by omega, by go_num, by rw [HNX.out]; exact HJ3, HK3⟩
            case measure => (simp [intOf] <;> omega)
          · have HJ3 := Lib.hid hj3
            clear hj3
            gi_wp2
            refine bodyPost_ret (results_none rfl _ _ _) rfl ?_
            exact ⟨⟨_, rfl⟩, .inr ⟨_, by rw [← HNX.out]; exact HPR.out, HJ3.out⟩⟩
        have dl2 : decide ((k : Int) < 5) = false := by simp; omega
        have hk5 : k = 5 := by omega
        have HJE : Hid (J (cenRows f) wr) := by rw [hk5] at HJP; exact HJP
        clear HJP hk5 hk hlt
        gi_wp2
        go_end0
        exact ⟨⟨_, rfl⟩, .inl ⟨_, rfl, HJE.out⟩⟩
theorem rows_stops (n : Nat) (hn : 2 ≤ n) (cb nb : Nat) (f : Nat → Int) (hf : ∀ i, -9223372036854775808 ≤ f i ∧ f i ≤ 9223372036854775807) (w : World) (hcb : nb < cb) (htb : ∀ W', Below nb w W' → Tens W') (hX : w.heap[cb]? = some (.cells (cl f).toArray 67)) :
    SeqStopsK Fence.wide n Tryd.prog 90 #[.pointer (some ⟨cb, 0, none⟩)] (fun y : ByteArray => #[Value.string y]) (KX nb) (fun ys => ys = cenRows f) (fun pre => pre <+: cenRows f) 22 w := fun l J Jx W hW hJ _ hY h0 =>
  rows1_in n hn l cb nb f hf J Jx hY W hJ hcb (htb _ (hW.mono (by have := block_lt hX; omega))) (fun W' h => htb _ ((hW.mono (by have := block_lt hX; omega)).trans h)) ((hW.block _ (block_lt hX)).trans hX) h0
end Go.Proofs.YtcheafeaioflmaaDoor

/- The document's pairs of a memory: mudlarkref29.Memory. -/
import Derived.Test.YtipoklnoknkfhaaDoorWords
import Derived.Test.YtipoklnoknkfhaaDoorPlace
namespace Go.Proofs.YtipoklnoknkfhaaDoor
open Go Go.RowKit
set_option linter.unusedSimpArgs false
set_option linter.unusedVariables false

theorem info_pword : (Tryd.prog.info? 26).map (fun i => (i.zero, i.size, i.bytes)) = some (some (.int .u64 0), 1, 8) := by kernel_rfl
/-- two rows of words, each its own -/
structure TwoRows (w : World) (B : Nat) (v u : Value) (xs ys : List Int) : Prop where
  one : Own .u64 26 w B v xs
  two : Own .u64 26 w B u ys
  apart : ∀ g, v.ownBlock = some g → u.ownBlock ≠ some g
theorem TwoRows.swap {w : World} {B : Nat} {v u : Value} {xs ys : List Int} (h : TwoRows w B v u xs ys) : TwoRows w B u v ys xs := ⟨h.two, h.one, fun g hg he => h.apart g he hg⟩
theorem TwoRows.keep {w w' : World} {B : Nat} {v u : Value} {xs ys : List Int} {S : Nat → Prop} (h : TwoRows w B v u xs ys) (hk : Keep S w w') (hs : ∀ g, B ≤ g → g < w.heap.size → ¬ S g) : TwoRows w' B v u xs ys := by
  obtain ⟨A, c, e1, h1, h2⟩ := h.one.form
  obtain ⟨A', c', e2, h3, h4⟩ := h.two.form
  exact ⟨h.one.keep hk (fun g hg => hs g (h2 g hg).1 (h2 g hg).2), h.two.keep hk (fun g hg => hs g (h4 g hg).1 (h4 g hg).2), h.apart⟩
/-- a word is appended to the first one: at an operation of a region -/
theorem step_app_word {ops : Array Oper} {o : Oper} {a : Act} {K : Act → World → Prop} {Q : Exit → Act → World → Prop} {E : Prop} {w : World} (hgd : o.guard = none) (s x : Operand)
    (ho : o.op = .call { callee := .builtin .append, args := #[s, x], argTypes := #[24, 24] })
    (B g : Nat) (v u : Value) (xs ys : List Int) (z : Int) (hs : a.eval s = v) (hown : TwoRows w B v u xs ys) (hx : a.eval x = .slice (some ⟨g, 0, none⟩) 1 1) (hg : w.cell? ⟨g, 0, none⟩ = some (.int .u64 z))
    (hl : xs.length ≤ 100000) (hB : B ≤ w.heap.size)
    (h : ∀ v' w', TwoRows w' B v' u (xs ++ [z]) ys → Keep (fun y => B ≤ y) w w' → K (a.put o.dst v') w') :
    if Region.wanted o (yielded ops a.tmps) = true then Oper.wp Tryd.prog o a w K Q else E := by
  obtain ⟨i0, hi0, hz0, hz1, hz2⟩ := info_parts info_pword
  obtain ⟨A1, c1, e1, f1, f2⟩ := hown.one.form
  obtain ⟨A2, c2, e2, f3, f4⟩ := hown.two.form
  have hgl : g < w.heap.size := World.block_lt_of_cell? w _ hg
  refine step_append_any (P := Tryd.prog) _ hgd s x _ ho B 26 i0 _ 1 8 Tryd.underlying24 hi0 hz0 hz1 hz2 rfl (by omega) v xs.length (xs.map (Value.int .u64)) hs hown.one w.heap.size (some ⟨g, 0, none⟩) 1 1 [.int .u64 z] hx ?_ (by intro u hu; simp at hu; subst hu; rfl) (by unfold maxLen; omega) (by omega) hB ?_
  · refine ⟨rfl, fun _ => ⟨⟨g, 0, none⟩, rfl, hgl, fun j u hj => ?_⟩⟩
    match j, hj with
    | 0, hj => simp at hj; subst hj; simpa [Addr.add] using hg
  · intro v1 w1 hown1 hg1 hat1
    refine h v1 w1 ⟨Own.cast hown1 (by simp) (by simp), hown.two.keep (hown.one.grown hg1) (fun q hq hv => hown.apart q hv hq), fun q hq hu => ?_⟩ ?_
    · rcases hat1 with e | e
      · exact hown.apart q (e ▸ hq) hu
      · have : w.heap.size = q := by simpa using e.symm.trans hq
        have := (f4 q hu).2
        omega
    · exact Keep.of_grown hg1 (fun q hq => (f2 q hq).1)
def prow (xs : List Int) (d : Nat) (k : Nat) : List Int := (List.range k).map fun i => wd xs (d + 3 * i)
theorem prow_len (xs : List Int) (d k : Nat) : (prow xs d k).length = k := by simp [prow]
theorem prow_next (xs : List Int) (d k : Nat) : prow xs d (k + 1) = prow xs d k ++ [wd xs (d + 3 * k)] := by simp [prow, List.range_succ]
theorem wd_prow (xs : List Int) (d k i : Nat) (h : i < k) : wd (prow xs d k) i = wd xs (d + 3 * i) := by simp [prow, wd, h]
def leftTo (n : Nat) (v : Value) : Nat := match v with
  | .int _ i => (n - i).toNat
  | _ => 0
def PairsPost (w : World) (n : Nat) (xs ys : List Int) (e : Ending) (w' : World) : Prop := ∃ A D cA cD, e = .returned (.agg #[.slice A n cA, .slice D n cD]) ∧ Ints .u64 w' w'.heap.size A xs ∧ Ints .u64 w' w'.heap.size D ys ∧ xs.length = n ∧ ys.length = n
set_option maxHeartbeats 8000000 in
set_option maxRecDepth 100000 in
theorem rmemory_any (w : World) (B : Nat) (c : Cfg) (A : Option Addr) (xs : List Int) (cp : Nat) (n d : Nat) (hc : c.cells = (n : Int)) (hn : n ≤ 4096) (hd : xs.length = d + 3 * n) (hlen : xs.length ≤ 100000) (hB : B ≤ w.heap.size) (hxs : Words w B A xs) :
    Calls Tryd.prog 15 #[c.v, .slice A xs.length cp] w fun e w' => PairsPost w n (prow xs d n) (prow xs (d + 1) n) e w' ∧ Below w.heap.size w w' := by
  have HXS := Lib.hid (show Words w w.heap.size A xs from ⟨hxs.len, fun h => by obtain ⟨ad, e, hb, hc⟩ := hxs.at_ h; exact ⟨ad, e, by omega, hc⟩⟩)
  have e1 : IntKind.i64.wrap (3 * c.cells) = 3 * (n : Int) := by rw [IntWalk.i64_in _ (by omega)]; omega
  have e2 : IntKind.i64.wrap ((xs.length : Int) - 3 * (n : Int)) = (d : Int) := by rw [IntWalk.i64_in _ (by omega)]; omega
  have HC := Lib.hid hc
  have HD := Lib.hid hd
  clear hxs hB hc hd
  go_enter Tryd.func15, Tryd.ntmps15
  go_wp2_with fail
  go_loopw [7] (fun vx wr => ∃ k : Nat, vx = .int .i64 k ∧ k ≤ n ∧ Hid (Below w.heap.size w wr) ∧ Hid (w.heap.size + 3 ≤ wr.heap.size) ∧ Hid (wr.heap[w.heap.size]? = some c.obj) ∧ Hid (wr.heap[w.heap.size + 1]? = some (.cells #[.slice none 0 0, .slice none 0 0] 40)) ∧ ∃ v u, Hid (wr.heap[w.heap.size + 1 + 1]? = some (.cells #[v, u] 40)) ∧ Hid (TwoRows wr (w.heap.size + 3) v u (prow xs d k) (prow xs (d + 1) k))) (fun vx _ => leftTo n vx)
  case atStart =>
    refine ⟨0, rfl, Nat.zero_le _, ?_, ?_, ?_, ?_, .slice none 0 0, .slice none 0 0, ?_, ?_⟩
    · exact (((Below.refl _ w).alloc (Nat.le_refl _) _).alloc (by simp) _).alloc (by simp; omega) _
    · unfold Hid; simp
    · exact ((Lib.alloc_old _ _ _ (by simp; omega)).trans ((Lib.alloc_old _ _ _ (by simp)).trans (heap_alloc_new w _)))
    · exact ((Lib.alloc_old _ _ _ (by simp)).trans (heap_new2 w _ _))
    · have h := heap_alloc_new ((w.alloc c.obj).alloc (.cells #[.slice none 0 0, .slice none 0 0] 40)) (.cells #[.slice none 0 0, .slice none 0 0] 40)
      have e : ((w.alloc c.obj).alloc (.cells #[.slice none 0 0, .slice none 0 0] 40)).heap.size = w.heap.size + 1 + 1 := by simp
      rw [e] at h
      exact h
    · exact ⟨Own.none_ _ _ _ _, Own.none_ _ _ _ _, fun g h => by simp [Value.ownBlock] at h⟩
  case round =>
    obtain ⟨k, rfl, hk, HB1, HZ1, HC1, HR1, v1, u1, HP1, HT1⟩ := hrel
    obtain ⟨q0, q1, q2, q3⟩ := Cfg.cells_at HC1.out
    by_cases hkn : k < n
    case neg =>
      have t0 : decide ((k : Int) < c.cells) = false := by rw [HC.out]; simp; omega
      have HK : Hid (k = n) := by unfold Hid; omega
      obtain ⟨A1, c1, rfl, f1, g1⟩ := HT1.out.one.form
      obtain ⟨A2, c2, rfl, f2, g2⟩ := HT1.out.two.form
      have HF1 := Lib.hid f1
      have HF2 := Lib.hid f2
      have p0 := cell_of_block HP1.out 0
      have p1 := cell_of_block HP1.out 1
      have r0 := cell_of_block HR1.out 0
      have r1 := cell_of_block HR1.out 1
      have rf0 := frozen_of_block HR1.out 0
      have rf1 := frozen_of_block HR1.out 1
      simp only [List.getElem?_toArray, List.getElem?_cons_succ, List.getElem?_cons_zero] at p0 p1 r0 r1
      clear hkn f1 f2 g1 g2 HP1
      go_wp2_with fail
      refine bodyPost_ret (v := .agg #[.slice A1 (prow xs d k).length c1, .slice A2 (prow xs (d + 1) k).length c2]) (by simp [results, Tryd.results15, go_sem, *]) rfl ?_
      have HK2 := HK.out
      subst HK2
      have hk : Keep (fun y => y = w.heap.size + 1) wr ((wr.setCell ⟨w.heap.size + 1, 0, none⟩ (.slice A1 (prow xs d k).length c1)).setCell ⟨w.heap.size + 1, 1, none⟩ (.slice A2 (prow xs (d + 1) k).length c2)) := ((Keep.refl (fun y => y = w.heap.size + 1) wr).setCell (p := ⟨w.heap.size + 1, 0, none⟩) (Or.inl rfl) _).setCell (p := ⟨w.heap.size + 1, 1, none⟩) (Or.inl rfl) _
      have hT := HT1.out.keep hk (fun g h1 _ h2 => by omega)
      obtain ⟨B1, b1, e1', f1, _⟩ := hT.one.form
      obtain ⟨B2, b2, e2', f2, _⟩ := hT.two.form
      simp at e1' e2'
      obtain ⟨rfl, rfl⟩ := e1'
      obtain ⟨rfl, rfl⟩ := e2'
      rw [prow_len, prow_len] at *
      exact ⟨⟨_, _, _, _, rfl, f1, f2, prow_len _ _ _, prow_len _ _ _⟩, HB1.out.trans (hk.below (B := w.heap.size) HB1.out.size (fun q hq => by omega))⟩
    case pos =>
      have t0 : decide ((k : Int) < c.cells) = true := by rw [HC.out]; simp; omega
      obtain ⟨ad, rfl, had, hcell⟩ := HXS.out.at_ (by have := HD.out; omega)
      have w1 : IntKind.i64.wrap (3 * (k : Int)) = 3 * k := IntWalk.i64_in _ (by omega)
      have w2 : IntKind.i64.wrap ((d : Int) + 3 * k) = d + 3 * k := IntWalk.i64_in _ (by have := HD.out; omega)
      have w3 : (0 : Int) ≤ (d : Int) + 3 * k := by omega
      have w4 : (d : Int) + 3 * k < xs.length := by have := HD.out; omega
      have HCW := Lib.hid hcell
      have w5 : IntKind.i64.wrap ((d : Int) + 3 * k + 1) = d + 3 * k + 1 := IntWalk.i64_in _ (by have := HD.out; omega)
      have w6 : (0 : Int) ≤ (d : Int) + 3 * k + 1 := by omega
      have w7 : (d : Int) + 3 * k + 1 < xs.length := by have := HD.out; omega
      have HKN := Lib.hid hkn
      clear hkn hcell
      go_wp2_with fail
      have hlt1 : w.heap.size + 1 + 1 < wr.heap.size := by have := HZ1.out; omega
      have p10 := cell_of_block HP1.out 0
      have p11 := cell_of_block HP1.out 1
      have pf10 := frozen_of_block HP1.out 0
      have pf11 := frozen_of_block HP1.out 1
      simp only [List.getElem?_toArray, List.getElem?_cons_succ, List.getElem?_cons_zero] at p10 p11
      have HX1 : wr.cell? (ad.add ((d : Int) + 3 * (k : Int)).toNat) = some (.int .u64 (wd xs (d + 3 * k))) := by rw [show ((d : Int) + 3 * (k : Int)).toNat = d + 3 * k by omega]; exact (HB1.out.cell (by rw [block_of_add]; exact had)).trans (HCW.out _ (by have := HD.out; omega))
      refine wp_region_any (by kernel_rfl) ?_
      refine (fun (tail : ∀ (W : World) (v u : Value) (A : Option Addr) (n c : Nat), (?Tail1 : World → Value → Value → Option Addr → Nat → Nat → Prop) W v u A n c) => ?main1) ?tl1
      case main1 =>
        refine wpAny_take (i := 0) (oi := ?oi1) (v := ?v1) ?hi1 (by kernel_rfl) (by kernel_rfl) (by kernel_rfl) ?hq1 (Or.inl ⟨?hw1, ?hy1⟩) ?rest1
        case hi1 => simp only [List.getElem?_toArray, List.getElem?_cons_succ, List.getElem?_cons_zero]; rfl
        case hq1 => exact fun _ _ _ h => h
        case hw1 => kernel_rfl
        case hy1 => (intro w; go_simp; try with_reducible rfl)
        try simp only [Act.put, List.setIfInBounds_toArray, List.set_cons_zero, List.set_cons_succ]
        refine wpAny_take (i := 2) (oi := ?oi2) (v := ?v2) ?hi2 (by kernel_rfl) (by kernel_rfl) (by kernel_rfl) ?hq2 (Or.inl ⟨?hw2, ?hy2⟩) ?rest2
        case hi2 => simp only [List.getElem?_toArray, List.getElem?_cons_succ, List.getElem?_cons_zero]; rfl
        case hq2 => exact fun _ _ _ h => h
        case hw2 => kernel_rfl
        case hy2 => (intro w; go_simp; try with_reducible rfl)
        try simp only [Act.put, List.setIfInBounds_toArray, List.set_cons_zero, List.set_cons_succ]
        refine wpAny_take (i := 3) (oi := ?oi3) (v := ?v3) ?hi3 (by kernel_rfl) (by kernel_rfl) (by kernel_rfl) ?hq3 (Or.inl ⟨?hw3, ?hy3⟩) ?rest3
        case hi3 => simp only [List.getElem?_toArray, List.getElem?_cons_succ, List.getElem?_cons_zero]; rfl
        case hq3 => exact fun _ _ _ h => h
        case hw3 => kernel_rfl
        case hy3 => (intro w; go_simp; try with_reducible rfl)
        try simp only [Act.put, List.setIfInBounds_toArray, List.set_cons_zero, List.set_cons_succ]
        refine wpAny_take (i := 4) (oi := ?oi4) (v := ?v4) ?hi4 (by kernel_rfl) (by kernel_rfl) (by kernel_rfl) ?hq4 (Or.inl ⟨?hw4, ?hy4⟩) ?rest4
        case hi4 => simp only [List.getElem?_toArray, List.getElem?_cons_succ, List.getElem?_cons_zero]; rfl
        case hq4 => exact fun _ _ _ h => h
        case hw4 => kernel_rfl
        case hy4 => (intro w; go_simp; try with_reducible rfl)
        try simp only [Act.put, List.setIfInBounds_toArray, List.set_cons_zero, List.set_cons_succ]
        refine wpAny_take (i := 5) (oi := ?oi5) (v := ?v5) ?hi5 (by kernel_rfl) (by kernel_rfl) (by kernel_rfl) ?hq5 (Or.inl ⟨?hw5, ?hy5⟩) ?rest5
        case hi5 => simp only [List.getElem?_toArray, List.getElem?_cons_succ, List.getElem?_cons_zero]; rfl
        case hq5 => exact fun _ _ _ h => h
        case hw5 => kernel_rfl
        case hy5 => (intro w; go_simp; try with_reducible rfl)
        try simp only [Act.put, List.setIfInBounds_toArray, List.set_cons_zero, List.set_cons_succ]
        refine wpAny_take (i := 6) (oi := ?oi6) (v := ?v6) ?hi6 (by kernel_rfl) (by kernel_rfl) (by kernel_rfl) ?hq6 (Or.inl ⟨?hw6, ?hy6⟩) ?rest6
        case hi6 => simp only [List.getElem?_toArray, List.getElem?_cons_succ, List.getElem?_cons_zero]; rfl
        case hq6 => exact fun _ _ _ h => h
        case hw6 => kernel_rfl
        case hy6 => (intro w; go_simp; try with_reducible rfl)
        try simp only [Act.put, List.setIfInBounds_toArray, List.set_cons_zero, List.set_cons_succ]
        refine wpAny_take (i := 7) (oi := ?oi7) (v := ?v7) ?hi7 (by kernel_rfl) (by kernel_rfl) (by kernel_rfl) ?hq7 (Or.inl ⟨?hw7, ?hy7⟩) ?rest7
        case hi7 => simp only [List.getElem?_toArray, List.getElem?_cons_succ, List.getElem?_cons_zero]; rfl
        case hq7 => exact fun _ _ _ h => h
        case hw7 => kernel_rfl
        case hy7 => (intro w; go_simp; try with_reducible rfl)
        try simp only [Act.put, List.setIfInBounds_toArray, List.set_cons_zero, List.set_cons_succ]
        refine wpAny_ready (rs := [1, 8]) (by kernel_rfl) (by simp) ?_
        refine AllReady.cons (o := ?o8) ?ho8 (fun K hK => ?st8) ?more8
        case ho8 => simp only [List.getElem?_toArray, List.getElem?_cons_succ, List.getElem?_cons_zero]; rfl
        go_simp
        refine hK _ _ ?_
        clear hK K
        try simp only [Act.put, List.setIfInBounds_toArray, List.set_cons_zero, List.set_cons_succ]
        refine wpAny_ready (rs := [8]) (by kernel_rfl) (by simp) ?_
        refine AllReady.cons (o := ?o9) ?ho9 (fun K hK => ?st9) ?more9
        case ho9 => simp only [List.getElem?_toArray, List.getElem?_cons_succ, List.getElem?_cons_zero]; rfl
        go_simp
        refine hK _ _ ?_
        clear hK K
        try simp only [Act.put, List.setIfInBounds_toArray, List.set_cons_zero, List.set_cons_succ]
        refine wpAny_ready (rs := [9]) (by kernel_rfl) (by simp) ?_
        refine AllReady.cons (o := ?o10) ?ho10 (fun K hK => ?st10) ?more10
        case ho10 => simp only [List.getElem?_toArray, List.getElem?_cons_succ, List.getElem?_cons_zero]; rfl
        go_simp
        refine hK _ _ ?_
        clear hK K
        try simp only [Act.put, List.setIfInBounds_toArray, List.set_cons_zero, List.set_cons_succ]
        refine wpAny_ready (rs := [10]) (by kernel_rfl) (by simp) ?_
        refine AllReady.cons (o := ?o11) ?ho11 (fun K hK => ?st11) ?more11
        case ho11 => simp only [List.getElem?_toArray, List.getElem?_cons_succ, List.getElem?_cons_zero]; rfl
        refine step_app_word rfl _ _ rfl (w.heap.size + 3) wr.heap.size v1 u1 _ _ (wd xs (d + 3 * k)) rfl (HT1.out.keep (S := fun _ => False) (((Keep.refl _ wr).alloc (.cells #[.int .u64 (wd xs (d + 3 * k))] 26)).drewN 1) (fun _ _ _ h => h)) rfl (by have h := cell_of_block (heap_alloc_new wr (.cells #[.int .u64 (wd xs (d + 3 * k))] 26)) 0; exact h) (by rw [prow_len]; omega) (by have := HZ1.out; simp; omega) ?_
        intro nv wq hT' hK'
        obtain ⟨A9, n9, c9, rfl⟩ : ∃ A n c, nv = .slice A n c := (by obtain ⟨A, c, e, _, _⟩ := hT'.one.form; exact ⟨_, _, _, e⟩)
        have hP' : wq.heap[w.heap.size + 1 + 1]? = some (.cells #[v1, u1] 40) := hK'.at_ ((Lib.alloc_old wr _ _ hlt1).trans HP1.out) (by omega)
        have hC' : wq.heap[w.heap.size]? = some c.obj := hK'.at_ ((Lib.alloc_old wr _ _ (by omega)).trans HC1.out) (by omega)
        have hR' : wq.heap[w.heap.size + 1]? = some (.cells #[.slice none 0 0, .slice none 0 0] 40) := hK'.at_ ((Lib.alloc_old wr _ _ (by omega)).trans HR1.out) (by omega)
        have hB' : Below w.heap.size w wq := ((HB1.out.alloc (by omega) (.cells #[.int .u64 (wd xs (d + 3 * k))] 26)).drew).trans (hK'.below (B := w.heap.size) (by simp; omega) (fun q hq => by omega))
        have hZ' : w.heap.size + 3 ≤ wq.heap.size := by have := hK'.size; simp at this; omega
        have p0 := cell_of_block hP' 0
        have p1 := cell_of_block hP' 1
        have pf0 := frozen_of_block hP' 0
        have pf1 := frozen_of_block hP' 1
        simp only [List.getElem?_toArray, List.getElem?_cons_succ, List.getElem?_cons_zero] at p0 p1
        refine hK _ _ ?_
        clear hK K
        try simp only [Act.put, List.setIfInBounds_toArray, List.set_cons_zero, List.set_cons_succ]
        refine wpAny_take (i := 11) (oi := ?oi12) (v := ?v12) ?hi12 (by kernel_rfl) (by kernel_rfl) (by kernel_rfl) ?hq12 (Or.inl ⟨?hw12, ?hy12⟩) ?rest12
        case hi12 => simp only [List.getElem?_toArray, List.getElem?_cons_succ, List.getElem?_cons_zero]; rfl
        case hq12 => exact fun _ _ _ h => h
        case hw12 => kernel_rfl
        case hy12 => (intro w; go_simp; try with_reducible rfl)
        try simp only [Act.put, List.setIfInBounds_toArray, List.set_cons_zero, List.set_cons_succ]
        refine wpAny_ready (rs := [12]) (by kernel_rfl) (by simp) ?_
        refine AllReady.cons (o := ?o13) ?ho13 (fun K hK => ?st13) ?more13
        case ho13 => simp only [List.getElem?_toArray, List.getElem?_cons_succ, List.getElem?_cons_zero]; rfl
        go_simp
        refine hK _ _ ?_
        clear hK K
        try simp only [Act.put, List.setIfInBounds_toArray, List.set_cons_zero, List.set_cons_succ]
        refine wpAny_done (by kernel_rfl) ?_ _
        have HP2 : Hid ((wq.setCell ⟨w.heap.size + 1 + 1, 0, none⟩ (.slice A9 n9 c9)).heap[w.heap.size + 1 + 1]? = some (.cells #[(Value.slice A9 n9 c9), u1] 40)) := by
          have h := block_setCell hP' 0 (.slice A9 n9 c9)
          exact h
        have HC2 : Hid ((wq.setCell ⟨w.heap.size + 1 + 1, 0, none⟩ (.slice A9 n9 c9)).heap[w.heap.size]? = some c.obj) := (Below.heap_setCell wq _ _ _ (by dsimp only; omega)).trans hC'
        have HR2 : Hid ((wq.setCell ⟨w.heap.size + 1 + 1, 0, none⟩ (.slice A9 n9 c9)).heap[w.heap.size + 1]? = some (.cells #[.slice none 0 0, .slice none 0 0] 40)) := (Below.heap_setCell wq _ _ _ (by dsimp only; omega)).trans hR'
        have HB2 : Hid (Below w.heap.size w (wq.setCell ⟨w.heap.size + 1 + 1, 0, none⟩ (.slice A9 n9 c9))) := hB'.setCell (p := ⟨w.heap.size + 1 + 1, 0, none⟩) (by simp; omega) _
        have HZ2 : Hid (w.heap.size + 3 ≤ (wq.setCell ⟨w.heap.size + 1 + 1, 0, none⟩ (.slice A9 n9 c9)).heap.size) := by unfold Hid; simp [World.setCell]; omega
        have HT2 : Hid (TwoRows (wq.setCell ⟨w.heap.size + 1 + 1, 0, none⟩ (.slice A9 n9 c9)) (w.heap.size + 3) (Value.slice A9 n9 c9) u1 (prow xs d k ++ [wd xs (d + 3 * k)]) (prow xs (d + 1) k)) := hT'.keep (S := fun y => y = w.heap.size + 1 + 1) ((Keep.refl (fun y => y = w.heap.size + 1 + 1) wq).setCell (p := ⟨w.heap.size + 1 + 1, 0, none⟩) (Or.inl rfl) (.slice A9 n9 c9)) (fun g h1 _ h2 => by omega)
        generalize (wq.setCell ⟨w.heap.size + 1 + 1, 0, none⟩ (.slice A9 n9 c9)) = wr2 at *
        obtain ⟨v2, hv2⟩ : ∃ v, v = (Value.slice A9 n9 c9) := ⟨_, rfl⟩
        obtain ⟨u2, hu2⟩ : ∃ u, u = u1 := ⟨_, rfl⟩
        rw [← hv2, ← hu2] at HP2 HT2
        clear hv2 hu2 hT' hK' hP' hC' hR' hB' hZ' p0 p1 pf0 pf1
        revert HP2 HC2 HR2 HB2 HZ2 HT2
        exact tail wr2 v2 u2 A9 n9 c9
        exact AllReady.nil
        exact AllReady.nil
        exact AllReady.nil
        exact AllReady.nil
        refine AllReady.cons (o := ?o14) ?ho14 (fun K hK => ?st14) ?more14
        case ho14 => simp only [List.getElem?_toArray, List.getElem?_cons_succ, List.getElem?_cons_zero]; rfl
        go_simp
        refine hK _ _ ?_
        clear hK K
        try simp only [Act.put, List.setIfInBounds_toArray, List.set_cons_zero, List.set_cons_succ]
        refine wpAny_ready (rs := [1, 9]) (by kernel_rfl) (by simp) ?_
        refine AllReady.cons (o := ?o15) ?ho15 (fun K hK => ?st15) ?more15
        case ho15 => simp only [List.getElem?_toArray, List.getElem?_cons_succ, List.getElem?_cons_zero]; rfl
        go_simp
        refine hK _ _ ?_
        clear hK K
        try simp only [Act.put, List.setIfInBounds_toArray, List.set_cons_zero, List.set_cons_succ]
        refine wpAny_ready (rs := [9]) (by kernel_rfl) (by simp) ?_
        refine AllReady.cons (o := ?o16) ?ho16 (fun K hK => ?st16) ?more16
        case ho16 => simp only [List.getElem?_toArray, List.getElem?_cons_succ, List.getElem?_cons_zero]; rfl
        go_simp
        refine hK _ _ ?_
        clear hK K
        try simp only [Act.put, List.setIfInBounds_toArray, List.set_cons_zero, List.set_cons_succ]
        refine wpAny_ready (rs := [10]) (by kernel_rfl) (by simp) ?_
        refine AllReady.cons (o := ?o17) ?ho17 (fun K hK => ?st17) ?more17
        case ho17 => simp only [List.getElem?_toArray, List.getElem?_cons_succ, List.getElem?_cons_zero]; rfl
        refine step_app_word rfl _ _ rfl (w.heap.size + 3) wr.heap.size v1 u1 _ _ (wd xs (d + 3 * k)) rfl (HT1.out.keep (S := fun _ => False) (((Keep.refl _ wr).alloc (.cells #[.int .u64 (wd xs (d + 3 * k))] 26)).drewN 1) (fun _ _ _ h => h)) rfl (by have h := cell_of_block (heap_alloc_new wr (.cells #[.int .u64 (wd xs (d + 3 * k))] 26)) 0; exact h) (by rw [prow_len]; omega) (by have := HZ1.out; simp; omega) ?_
        intro nv wq hT' hK'
        obtain ⟨A9, n9, c9, rfl⟩ : ∃ A n c, nv = .slice A n c := (by obtain ⟨A, c, e, _, _⟩ := hT'.one.form; exact ⟨_, _, _, e⟩)
        have hP' : wq.heap[w.heap.size + 1 + 1]? = some (.cells #[v1, u1] 40) := hK'.at_ ((Lib.alloc_old wr _ _ hlt1).trans HP1.out) (by omega)
        have hC' : wq.heap[w.heap.size]? = some c.obj := hK'.at_ ((Lib.alloc_old wr _ _ (by omega)).trans HC1.out) (by omega)
        have hR' : wq.heap[w.heap.size + 1]? = some (.cells #[.slice none 0 0, .slice none 0 0] 40) := hK'.at_ ((Lib.alloc_old wr _ _ (by omega)).trans HR1.out) (by omega)
        have hB' : Below w.heap.size w wq := ((HB1.out.alloc (by omega) (.cells #[.int .u64 (wd xs (d + 3 * k))] 26)).drew).trans (hK'.below (B := w.heap.size) (by simp; omega) (fun q hq => by omega))
        have hZ' : w.heap.size + 3 ≤ wq.heap.size := by have := hK'.size; simp at this; omega
        have p0 := cell_of_block hP' 0
        have p1 := cell_of_block hP' 1
        have pf0 := frozen_of_block hP' 0
        have pf1 := frozen_of_block hP' 1
        simp only [List.getElem?_toArray, List.getElem?_cons_succ, List.getElem?_cons_zero] at p0 p1
        refine hK _ _ ?_
        clear hK K
        try simp only [Act.put, List.setIfInBounds_toArray, List.set_cons_zero, List.set_cons_succ]
        refine wpAny_take (i := 11) (oi := ?oi18) (v := ?v18) ?hi18 (by kernel_rfl) (by kernel_rfl) (by kernel_rfl) ?hq18 (Or.inl ⟨?hw18, ?hy18⟩) ?rest18
        case hi18 => simp only [List.getElem?_toArray, List.getElem?_cons_succ, List.getElem?_cons_zero]; rfl
        case hq18 => exact fun _ _ _ h => h
        case hw18 => kernel_rfl
        case hy18 => (intro w; go_simp; try with_reducible rfl)
        try simp only [Act.put, List.setIfInBounds_toArray, List.set_cons_zero, List.set_cons_succ]
        refine wpAny_ready (rs := [12]) (by kernel_rfl) (by simp) ?_
        refine AllReady.cons (o := ?o19) ?ho19 (fun K hK => ?st19) ?more19
        case ho19 => simp only [List.getElem?_toArray, List.getElem?_cons_succ, List.getElem?_cons_zero]; rfl
        go_simp
        refine hK _ _ ?_
        clear hK K
        try simp only [Act.put, List.setIfInBounds_toArray, List.set_cons_zero, List.set_cons_succ]
        refine wpAny_done (by kernel_rfl) ?_ _
        have HP2 : Hid ((wq.setCell ⟨w.heap.size + 1 + 1, 0, none⟩ (.slice A9 n9 c9)).heap[w.heap.size + 1 + 1]? = some (.cells #[(Value.slice A9 n9 c9), u1] 40)) := by
          have h := block_setCell hP' 0 (.slice A9 n9 c9)
          exact h
        have HC2 : Hid ((wq.setCell ⟨w.heap.size + 1 + 1, 0, none⟩ (.slice A9 n9 c9)).heap[w.heap.size]? = some c.obj) := (Below.heap_setCell wq _ _ _ (by dsimp only; omega)).trans hC'
        have HR2 : Hid ((wq.setCell ⟨w.heap.size + 1 + 1, 0, none⟩ (.slice A9 n9 c9)).heap[w.heap.size + 1]? = some (.cells #[.slice none 0 0, .slice none 0 0] 40)) := (Below.heap_setCell wq _ _ _ (by dsimp only; omega)).trans hR'
        have HB2 : Hid (Below w.heap.size w (wq.setCell ⟨w.heap.size + 1 + 1, 0, none⟩ (.slice A9 n9 c9))) := hB'.setCell (p := ⟨w.heap.size + 1 + 1, 0, none⟩) (by simp; omega) _
        have HZ2 : Hid (w.heap.size + 3 ≤ (wq.setCell ⟨w.heap.size + 1 + 1, 0, none⟩ (.slice A9 n9 c9)).heap.size) := by unfold Hid; simp [World.setCell]; omega
        have HT2 : Hid (TwoRows (wq.setCell ⟨w.heap.size + 1 + 1, 0, none⟩ (.slice A9 n9 c9)) (w.heap.size + 3) (Value.slice A9 n9 c9) u1 (prow xs d k ++ [wd xs (d + 3 * k)]) (prow xs (d + 1) k)) := hT'.keep (S := fun y => y = w.heap.size + 1 + 1) ((Keep.refl (fun y => y = w.heap.size + 1 + 1) wq).setCell (p := ⟨w.heap.size + 1 + 1, 0, none⟩) (Or.inl rfl) (.slice A9 n9 c9)) (fun g h1 _ h2 => by omega)
        generalize (wq.setCell ⟨w.heap.size + 1 + 1, 0, none⟩ (.slice A9 n9 c9)) = wr2 at *
        obtain ⟨v2, hv2⟩ : ∃ v, v = (Value.slice A9 n9 c9) := ⟨_, rfl⟩
        obtain ⟨u2, hu2⟩ : ∃ u, u = u1 := ⟨_, rfl⟩
        rw [← hv2, ← hu2] at HP2 HT2
        clear hv2 hu2 hT' hK' hP' hC' hR' hB' hZ' p0 p1 pf0 pf1
        revert HP2 HC2 HR2 HB2 HZ2 HT2
        exact tail wr2 v2 u2 A9 n9 c9
        exact AllReady.nil
        exact AllReady.nil
        exact AllReady.nil
        refine AllReady.cons (o := ?o20) ?ho20 (fun K hK => ?st20) ?more20
        case ho20 => simp only [List.getElem?_toArray, List.getElem?_cons_succ, List.getElem?_cons_zero]; rfl
        go_simp
        refine hK _ _ ?_
        clear hK K
        try simp only [Act.put, List.setIfInBounds_toArray, List.set_cons_zero, List.set_cons_succ]
        refine wpAny_ready (rs := [1]) (by kernel_rfl) (by simp) ?_
        refine AllReady.cons (o := ?o21) ?ho21 (fun K hK => ?st21) ?more21
        case ho21 => simp only [List.getElem?_toArray, List.getElem?_cons_succ, List.getElem?_cons_zero]; rfl
        go_simp
        refine hK _ _ ?_
        clear hK K
        try simp only [Act.put, List.setIfInBounds_toArray, List.set_cons_zero, List.set_cons_succ]
        refine wpAny_ready (rs := [10]) (by kernel_rfl) (by simp) ?_
        refine AllReady.cons (o := ?o22) ?ho22 (fun K hK => ?st22) ?more22
        case ho22 => simp only [List.getElem?_toArray, List.getElem?_cons_succ, List.getElem?_cons_zero]; rfl
        refine step_app_word rfl _ _ rfl (w.heap.size + 3) wr.heap.size v1 u1 _ _ (wd xs (d + 3 * k)) rfl (HT1.out.keep (S := fun _ => False) (((Keep.refl _ wr).alloc (.cells #[.int .u64 (wd xs (d + 3 * k))] 26)).drewN 1) (fun _ _ _ h => h)) rfl (by have h := cell_of_block (heap_alloc_new wr (.cells #[.int .u64 (wd xs (d + 3 * k))] 26)) 0; exact h) (by rw [prow_len]; omega) (by have := HZ1.out; simp; omega) ?_
        intro nv wq hT' hK'
        obtain ⟨A9, n9, c9, rfl⟩ : ∃ A n c, nv = .slice A n c := (by obtain ⟨A, c, e, _, _⟩ := hT'.one.form; exact ⟨_, _, _, e⟩)
        have hP' : wq.heap[w.heap.size + 1 + 1]? = some (.cells #[v1, u1] 40) := hK'.at_ ((Lib.alloc_old wr _ _ hlt1).trans HP1.out) (by omega)
        have hC' : wq.heap[w.heap.size]? = some c.obj := hK'.at_ ((Lib.alloc_old wr _ _ (by omega)).trans HC1.out) (by omega)
        have hR' : wq.heap[w.heap.size + 1]? = some (.cells #[.slice none 0 0, .slice none 0 0] 40) := hK'.at_ ((Lib.alloc_old wr _ _ (by omega)).trans HR1.out) (by omega)
        have hB' : Below w.heap.size w wq := ((HB1.out.alloc (by omega) (.cells #[.int .u64 (wd xs (d + 3 * k))] 26)).drew).trans (hK'.below (B := w.heap.size) (by simp; omega) (fun q hq => by omega))
        have hZ' : w.heap.size + 3 ≤ wq.heap.size := by have := hK'.size; simp at this; omega
        have p0 := cell_of_block hP' 0
        have p1 := cell_of_block hP' 1
        have pf0 := frozen_of_block hP' 0
        have pf1 := frozen_of_block hP' 1
        simp only [List.getElem?_toArray, List.getElem?_cons_succ, List.getElem?_cons_zero] at p0 p1
        refine hK _ _ ?_
        clear hK K
        try simp only [Act.put, List.setIfInBounds_toArray, List.set_cons_zero, List.set_cons_succ]
        refine wpAny_take (i := 11) (oi := ?oi23) (v := ?v23) ?hi23 (by kernel_rfl) (by kernel_rfl) (by kernel_rfl) ?hq23 (Or.inl ⟨?hw23, ?hy23⟩) ?rest23
        case hi23 => simp only [List.getElem?_toArray, List.getElem?_cons_succ, List.getElem?_cons_zero]; rfl
        case hq23 => exact fun _ _ _ h => h
        case hw23 => kernel_rfl
        case hy23 => (intro w; go_simp; try with_reducible rfl)
        try simp only [Act.put, List.setIfInBounds_toArray, List.set_cons_zero, List.set_cons_succ]
        refine wpAny_ready (rs := [12]) (by kernel_rfl) (by simp) ?_
        refine AllReady.cons (o := ?o24) ?ho24 (fun K hK => ?st24) ?more24
        case ho24 => simp only [List.getElem?_toArray, List.getElem?_cons_succ, List.getElem?_cons_zero]; rfl
        go_simp
        refine hK _ _ ?_
        clear hK K
        try simp only [Act.put, List.setIfInBounds_toArray, List.set_cons_zero, List.set_cons_succ]
        refine wpAny_done (by kernel_rfl) ?_ _
        have HP2 : Hid ((wq.setCell ⟨w.heap.size + 1 + 1, 0, none⟩ (.slice A9 n9 c9)).heap[w.heap.size + 1 + 1]? = some (.cells #[(Value.slice A9 n9 c9), u1] 40)) := by
          have h := block_setCell hP' 0 (.slice A9 n9 c9)
          exact h
        have HC2 : Hid ((wq.setCell ⟨w.heap.size + 1 + 1, 0, none⟩ (.slice A9 n9 c9)).heap[w.heap.size]? = some c.obj) := (Below.heap_setCell wq _ _ _ (by dsimp only; omega)).trans hC'
        have HR2 : Hid ((wq.setCell ⟨w.heap.size + 1 + 1, 0, none⟩ (.slice A9 n9 c9)).heap[w.heap.size + 1]? = some (.cells #[.slice none 0 0, .slice none 0 0] 40)) := (Below.heap_setCell wq _ _ _ (by dsimp only; omega)).trans hR'
        have HB2 : Hid (Below w.heap.size w (wq.setCell ⟨w.heap.size + 1 + 1, 0, none⟩ (.slice A9 n9 c9))) := hB'.setCell (p := ⟨w.heap.size + 1 + 1, 0, none⟩) (by simp; omega) _
        have HZ2 : Hid (w.heap.size + 3 ≤ (wq.setCell ⟨w.heap.size + 1 + 1, 0, none⟩ (.slice A9 n9 c9)).heap.size) := by unfold Hid; simp [World.setCell]; omega
        have HT2 : Hid (TwoRows (wq.setCell ⟨w.heap.size + 1 + 1, 0, none⟩ (.slice A9 n9 c9)) (w.heap.size + 3) (Value.slice A9 n9 c9) u1 (prow xs d k ++ [wd xs (d + 3 * k)]) (prow xs (d + 1) k)) := hT'.keep (S := fun y => y = w.heap.size + 1 + 1) ((Keep.refl (fun y => y = w.heap.size + 1 + 1) wq).setCell (p := ⟨w.heap.size + 1 + 1, 0, none⟩) (Or.inl rfl) (.slice A9 n9 c9)) (fun g h1 _ h2 => by omega)
        generalize (wq.setCell ⟨w.heap.size + 1 + 1, 0, none⟩ (.slice A9 n9 c9)) = wr2 at *
        obtain ⟨v2, hv2⟩ : ∃ v, v = (Value.slice A9 n9 c9) := ⟨_, rfl⟩
        obtain ⟨u2, hu2⟩ : ∃ u, u = u1 := ⟨_, rfl⟩
        rw [← hv2, ← hu2] at HP2 HT2
        clear hv2 hu2 hT' hK' hP' hC' hR' hB' hZ' p0 p1 pf0 pf1
        revert HP2 HC2 HR2 HB2 HZ2 HT2
        exact tail wr2 v2 u2 A9 n9 c9
        exact AllReady.nil
        exact AllReady.nil
        exact AllReady.nil
        exact AllReady.nil
        exact AllReady.nil
      case tl1 =>
        intro wr2 v2 u2 A9 n9 c9 HC2 HR2 HB2 HZ2 HT2 HP2
        clear p10 p11 pf10 pf11 HX1 hlt1 HP1 HC1 HR1 HB1 HZ1 HT1
        clear q0 q1 q2 q3
        go_wp2_with fail
        have hlt2 : w.heap.size + 1 + 1 < wr2.heap.size := by have := HZ2.out; omega
        have p20 := cell_of_block HP2.out 0
        have p21 := cell_of_block HP2.out 1
        have pf20 := frozen_of_block HP2.out 0
        have pf21 := frozen_of_block HP2.out 1
        simp only [List.getElem?_toArray, List.getElem?_cons_succ, List.getElem?_cons_zero] at p20 p21
        have HX2 : wr2.cell? (ad.add ((d : Int) + 3 * (k : Int) + 1).toNat) = some (.int .u64 (wd xs (d + 1 + 3 * k))) := by rw [show ((d : Int) + 3 * (k : Int) + 1).toNat = d + 1 + 3 * k by omega]; exact (HB2.out.cell (by rw [block_of_add]; exact had)).trans (HCW.out _ (by have := HD.out; omega))
        refine wp_region_any (by kernel_rfl) ?_
        refine (fun (tail : ∀ (W : World) (v u : Value) (A : Option Addr) (n c : Nat), (?Tail2 : World → Value → Value → Option Addr → Nat → Nat → Prop) W v u A n c) => ?main2) ?tl2
        case main2 =>
          refine wpAny_take (i := 0) (oi := ?oi25) (v := ?v25) ?hi25 (by kernel_rfl) (by kernel_rfl) (by kernel_rfl) ?hq25 (Or.inl ⟨?hw25, ?hy25⟩) ?rest25
          case hi25 => simp only [List.getElem?_toArray, List.getElem?_cons_succ, List.getElem?_cons_zero]; rfl
          case hq25 => exact fun _ _ _ h => h
          case hw25 => kernel_rfl
          case hy25 => (intro w; go_simp; try with_reducible rfl)
          try simp only [Act.put, List.setIfInBounds_toArray, List.set_cons_zero, List.set_cons_succ]
          refine wpAny_take (i := 2) (oi := ?oi26) (v := ?v26) ?hi26 (by kernel_rfl) (by kernel_rfl) (by kernel_rfl) ?hq26 (Or.inl ⟨?hw26, ?hy26⟩) ?rest26
          case hi26 => simp only [List.getElem?_toArray, List.getElem?_cons_succ, List.getElem?_cons_zero]; rfl
          case hq26 => exact fun _ _ _ h => h
          case hw26 => kernel_rfl
          case hy26 => (intro w; go_simp; try with_reducible rfl)
          try simp only [Act.put, List.setIfInBounds_toArray, List.set_cons_zero, List.set_cons_succ]
          refine wpAny_take (i := 3) (oi := ?oi27) (v := ?v27) ?hi27 (by kernel_rfl) (by kernel_rfl) (by kernel_rfl) ?hq27 (Or.inl ⟨?hw27, ?hy27⟩) ?rest27
          case hi27 => simp only [List.getElem?_toArray, List.getElem?_cons_succ, List.getElem?_cons_zero]; rfl
          case hq27 => exact fun _ _ _ h => h
          case hw27 => kernel_rfl
          case hy27 => (intro w; go_simp; try with_reducible rfl)
          try simp only [Act.put, List.setIfInBounds_toArray, List.set_cons_zero, List.set_cons_succ]
          refine wpAny_take (i := 4) (oi := ?oi28) (v := ?v28) ?hi28 (by kernel_rfl) (by kernel_rfl) (by kernel_rfl) ?hq28 (Or.inl ⟨?hw28, ?hy28⟩) ?rest28
          case hi28 => simp only [List.getElem?_toArray, List.getElem?_cons_succ, List.getElem?_cons_zero]; rfl
          case hq28 => exact fun _ _ _ h => h
          case hw28 => kernel_rfl
          case hy28 => (intro w; go_simp; try with_reducible rfl)
          try simp only [Act.put, List.setIfInBounds_toArray, List.set_cons_zero, List.set_cons_succ]
          refine wpAny_take (i := 5) (oi := ?oi29) (v := ?v29) ?hi29 (by kernel_rfl) (by kernel_rfl) (by kernel_rfl) ?hq29 (Or.inl ⟨?hw29, ?hy29⟩) ?rest29
          case hi29 => simp only [List.getElem?_toArray, List.getElem?_cons_succ, List.getElem?_cons_zero]; rfl
          case hq29 => exact fun _ _ _ h => h
          case hw29 => kernel_rfl
          case hy29 => (intro w; go_simp; try with_reducible rfl)
          try simp only [Act.put, List.setIfInBounds_toArray, List.set_cons_zero, List.set_cons_succ]
          refine wpAny_take (i := 6) (oi := ?oi30) (v := ?v30) ?hi30 (by kernel_rfl) (by kernel_rfl) (by kernel_rfl) ?hq30 (Or.inl ⟨?hw30, ?hy30⟩) ?rest30
          case hi30 => simp only [List.getElem?_toArray, List.getElem?_cons_succ, List.getElem?_cons_zero]; rfl
          case hq30 => exact fun _ _ _ h => h
          case hw30 => kernel_rfl
          case hy30 => (intro w; go_simp; try with_reducible rfl)
          try simp only [Act.put, List.setIfInBounds_toArray, List.set_cons_zero, List.set_cons_succ]
          refine wpAny_take (i := 7) (oi := ?oi31) (v := ?v31) ?hi31 (by kernel_rfl) (by kernel_rfl) (by kernel_rfl) ?hq31 (Or.inl ⟨?hw31, ?hy31⟩) ?rest31
          case hi31 => simp only [List.getElem?_toArray, List.getElem?_cons_succ, List.getElem?_cons_zero]; rfl
          case hq31 => exact fun _ _ _ h => h
          case hw31 => kernel_rfl
          case hy31 => (intro w; go_simp; try with_reducible rfl)
          try simp only [Act.put, List.setIfInBounds_toArray, List.set_cons_zero, List.set_cons_succ]
          refine wpAny_take (i := 8) (oi := ?oi32) (v := ?v32) ?hi32 (by kernel_rfl) (by kernel_rfl) (by kernel_rfl) ?hq32 (Or.inl ⟨?hw32, ?hy32⟩) ?rest32
          case hi32 => simp only [List.getElem?_toArray, List.getElem?_cons_succ, List.getElem?_cons_zero]; rfl
          case hq32 => exact fun _ _ _ h => h
          case hw32 => kernel_rfl
          case hy32 => (intro w; go_simp; try with_reducible rfl)
          try simp only [Act.put, List.setIfInBounds_toArray, List.set_cons_zero, List.set_cons_succ]
          refine wpAny_ready (rs := [1, 9]) (by kernel_rfl) (by simp) ?_
          refine AllReady.cons (o := ?o33) ?ho33 (fun K hK => ?st33) ?more33
          case ho33 => simp only [List.getElem?_toArray, List.getElem?_cons_succ, List.getElem?_cons_zero]; rfl
          go_simp
          refine hK _ _ ?_
          clear hK K
          try simp only [Act.put, List.setIfInBounds_toArray, List.set_cons_zero, List.set_cons_succ]
          refine wpAny_ready (rs := [9]) (by kernel_rfl) (by simp) ?_
          refine AllReady.cons (o := ?o34) ?ho34 (fun K hK => ?st34) ?more34
          case ho34 => simp only [List.getElem?_toArray, List.getElem?_cons_succ, List.getElem?_cons_zero]; rfl
          go_simp
          refine hK _ _ ?_
          clear hK K
          try simp only [Act.put, List.setIfInBounds_toArray, List.set_cons_zero, List.set_cons_succ]
          refine wpAny_ready (rs := [10]) (by kernel_rfl) (by simp) ?_
          refine AllReady.cons (o := ?o35) ?ho35 (fun K hK => ?st35) ?more35
          case ho35 => simp only [List.getElem?_toArray, List.getElem?_cons_succ, List.getElem?_cons_zero]; rfl
          go_simp
          refine hK _ _ ?_
          clear hK K
          try simp only [Act.put, List.setIfInBounds_toArray, List.set_cons_zero, List.set_cons_succ]
          refine wpAny_ready (rs := [11]) (by kernel_rfl) (by simp) ?_
          refine AllReady.cons (o := ?o36) ?ho36 (fun K hK => ?st36) ?more36
          case ho36 => simp only [List.getElem?_toArray, List.getElem?_cons_succ, List.getElem?_cons_zero]; rfl
          refine step_app_word rfl _ _ rfl (w.heap.size + 3) wr2.heap.size u2 v2 _ _ (wd xs (d + 1 + 3 * k)) rfl (HT2.out.swap.keep (S := fun _ => False) (((Keep.refl _ wr2).alloc (.cells #[.int .u64 (wd xs (d + 1 + 3 * k))] 26)).drewN 1) (fun _ _ _ h => h)) rfl (by have h := cell_of_block (heap_alloc_new wr2 (.cells #[.int .u64 (wd xs (d + 1 + 3 * k))] 26)) 0; exact h) (by rw [prow_len]; omega) (by have := HZ2.out; simp; omega) ?_
          intro nv wq hT' hK'
          obtain ⟨A9, n9, c9, rfl⟩ : ∃ A n c, nv = .slice A n c := (by obtain ⟨A, c, e, _, _⟩ := hT'.one.form; exact ⟨_, _, _, e⟩)
          have hP' : wq.heap[w.heap.size + 1 + 1]? = some (.cells #[v2, u2] 40) := hK'.at_ ((Lib.alloc_old wr2 _ _ hlt2).trans HP2.out) (by omega)
          have hC' : wq.heap[w.heap.size]? = some c.obj := hK'.at_ ((Lib.alloc_old wr2 _ _ (by omega)).trans HC2.out) (by omega)
          have hR' : wq.heap[w.heap.size + 1]? = some (.cells #[.slice none 0 0, .slice none 0 0] 40) := hK'.at_ ((Lib.alloc_old wr2 _ _ (by omega)).trans HR2.out) (by omega)
          have hB' : Below w.heap.size w wq := ((HB2.out.alloc (by omega) (.cells #[.int .u64 (wd xs (d + 1 + 3 * k))] 26)).drew).trans (hK'.below (B := w.heap.size) (by simp; omega) (fun q hq => by omega))
          have hZ' : w.heap.size + 3 ≤ wq.heap.size := by have := hK'.size; simp at this; omega
          have p0 := cell_of_block hP' 0
          have p1 := cell_of_block hP' 1
          have pf0 := frozen_of_block hP' 0
          have pf1 := frozen_of_block hP' 1
          simp only [List.getElem?_toArray, List.getElem?_cons_succ, List.getElem?_cons_zero] at p0 p1
          refine hK _ _ ?_
          clear hK K
          try simp only [Act.put, List.setIfInBounds_toArray, List.set_cons_zero, List.set_cons_succ]
          refine wpAny_take (i := 12) (oi := ?oi37) (v := ?v37) ?hi37 (by kernel_rfl) (by kernel_rfl) (by kernel_rfl) ?hq37 (Or.inl ⟨?hw37, ?hy37⟩) ?rest37
          case hi37 => simp only [List.getElem?_toArray, List.getElem?_cons_succ, List.getElem?_cons_zero]; rfl
          case hq37 => exact fun _ _ _ h => h
          case hw37 => kernel_rfl
          case hy37 => (intro w; go_simp; try with_reducible rfl)
          try simp only [Act.put, List.setIfInBounds_toArray, List.set_cons_zero, List.set_cons_succ]
          refine wpAny_ready (rs := [13]) (by kernel_rfl) (by simp) ?_
          refine AllReady.cons (o := ?o38) ?ho38 (fun K hK => ?st38) ?more38
          case ho38 => simp only [List.getElem?_toArray, List.getElem?_cons_succ, List.getElem?_cons_zero]; rfl
          go_simp
          refine hK _ _ ?_
          clear hK K
          try simp only [Act.put, List.setIfInBounds_toArray, List.set_cons_zero, List.set_cons_succ]
          refine wpAny_done (by kernel_rfl) ?_ _
          have HP3 : Hid ((wq.setCell ⟨w.heap.size + 1 + 1, 1, none⟩ (.slice A9 n9 c9)).heap[w.heap.size + 1 + 1]? = some (.cells #[v2, (Value.slice A9 n9 c9)] 40)) := by
            have h := block_setCell hP' 1 (.slice A9 n9 c9)
            exact h
          have HC3 : Hid ((wq.setCell ⟨w.heap.size + 1 + 1, 1, none⟩ (.slice A9 n9 c9)).heap[w.heap.size]? = some c.obj) := (Below.heap_setCell wq _ _ _ (by dsimp only; omega)).trans hC'
          have HR3 : Hid ((wq.setCell ⟨w.heap.size + 1 + 1, 1, none⟩ (.slice A9 n9 c9)).heap[w.heap.size + 1]? = some (.cells #[.slice none 0 0, .slice none 0 0] 40)) := (Below.heap_setCell wq _ _ _ (by dsimp only; omega)).trans hR'
          have HB3 : Hid (Below w.heap.size w (wq.setCell ⟨w.heap.size + 1 + 1, 1, none⟩ (.slice A9 n9 c9))) := hB'.setCell (p := ⟨w.heap.size + 1 + 1, 1, none⟩) (by simp; omega) _
          have HZ3 : Hid (w.heap.size + 3 ≤ (wq.setCell ⟨w.heap.size + 1 + 1, 1, none⟩ (.slice A9 n9 c9)).heap.size) := by unfold Hid; simp [World.setCell]; omega
          have HT3 : Hid (TwoRows (wq.setCell ⟨w.heap.size + 1 + 1, 1, none⟩ (.slice A9 n9 c9)) (w.heap.size + 3) v2 (Value.slice A9 n9 c9) (prow xs d k ++ [wd xs (d + 3 * k)]) (prow xs (d + 1) k ++ [wd xs (d + 1 + 3 * k)])) := (hT'.keep (S := fun y => y = w.heap.size + 1 + 1) ((Keep.refl (fun y => y = w.heap.size + 1 + 1) wq).setCell (p := ⟨w.heap.size + 1 + 1, 1, none⟩) (Or.inl rfl) (.slice A9 n9 c9)) (fun g h1 _ h2 => by omega)).swap
          generalize (wq.setCell ⟨w.heap.size + 1 + 1, 1, none⟩ (.slice A9 n9 c9)) = wr3 at *
          obtain ⟨v3, hv3⟩ : ∃ v, v = v2 := ⟨_, rfl⟩
          obtain ⟨u3, hu3⟩ : ∃ u, u = (Value.slice A9 n9 c9) := ⟨_, rfl⟩
          rw [← hv3, ← hu3] at HP3 HT3
          clear hv3 hu3 hT' hK' hP' hC' hR' hB' hZ' p0 p1 pf0 pf1
          revert HP3 HC3 HR3 HB3 HZ3 HT3
          exact tail wr3 v3 u3 A9 n9 c9
          exact AllReady.nil
          exact AllReady.nil
          exact AllReady.nil
          exact AllReady.nil
          refine AllReady.cons (o := ?o39) ?ho39 (fun K hK => ?st39) ?more39
          case ho39 => simp only [List.getElem?_toArray, List.getElem?_cons_succ, List.getElem?_cons_zero]; rfl
          go_simp
          refine hK _ _ ?_
          clear hK K
          try simp only [Act.put, List.setIfInBounds_toArray, List.set_cons_zero, List.set_cons_succ]
          refine wpAny_ready (rs := [1, 10]) (by kernel_rfl) (by simp) ?_
          refine AllReady.cons (o := ?o40) ?ho40 (fun K hK => ?st40) ?more40
          case ho40 => simp only [List.getElem?_toArray, List.getElem?_cons_succ, List.getElem?_cons_zero]; rfl
          go_simp
          refine hK _ _ ?_
          clear hK K
          try simp only [Act.put, List.setIfInBounds_toArray, List.set_cons_zero, List.set_cons_succ]
          refine wpAny_ready (rs := [10]) (by kernel_rfl) (by simp) ?_
          refine AllReady.cons (o := ?o41) ?ho41 (fun K hK => ?st41) ?more41
          case ho41 => simp only [List.getElem?_toArray, List.getElem?_cons_succ, List.getElem?_cons_zero]; rfl
          go_simp
          refine hK _ _ ?_
          clear hK K
          try simp only [Act.put, List.setIfInBounds_toArray, List.set_cons_zero, List.set_cons_succ]
          refine wpAny_ready (rs := [11]) (by kernel_rfl) (by simp) ?_
          refine AllReady.cons (o := ?o42) ?ho42 (fun K hK => ?st42) ?more42
          case ho42 => simp only [List.getElem?_toArray, List.getElem?_cons_succ, List.getElem?_cons_zero]; rfl
          refine step_app_word rfl _ _ rfl (w.heap.size + 3) wr2.heap.size u2 v2 _ _ (wd xs (d + 1 + 3 * k)) rfl (HT2.out.swap.keep (S := fun _ => False) (((Keep.refl _ wr2).alloc (.cells #[.int .u64 (wd xs (d + 1 + 3 * k))] 26)).drewN 1) (fun _ _ _ h => h)) rfl (by have h := cell_of_block (heap_alloc_new wr2 (.cells #[.int .u64 (wd xs (d + 1 + 3 * k))] 26)) 0; exact h) (by rw [prow_len]; omega) (by have := HZ2.out; simp; omega) ?_
          intro nv wq hT' hK'
          obtain ⟨A9, n9, c9, rfl⟩ : ∃ A n c, nv = .slice A n c := (by obtain ⟨A, c, e, _, _⟩ := hT'.one.form; exact ⟨_, _, _, e⟩)
          have hP' : wq.heap[w.heap.size + 1 + 1]? = some (.cells #[v2, u2] 40) := hK'.at_ ((Lib.alloc_old wr2 _ _ hlt2).trans HP2.out) (by omega)
          have hC' : wq.heap[w.heap.size]? = some c.obj := hK'.at_ ((Lib.alloc_old wr2 _ _ (by omega)).trans HC2.out) (by omega)
          have hR' : wq.heap[w.heap.size + 1]? = some (.cells #[.slice none 0 0, .slice none 0 0] 40) := hK'.at_ ((Lib.alloc_old wr2 _ _ (by omega)).trans HR2.out) (by omega)
          have hB' : Below w.heap.size w wq := ((HB2.out.alloc (by omega) (.cells #[.int .u64 (wd xs (d + 1 + 3 * k))] 26)).drew).trans (hK'.below (B := w.heap.size) (by simp; omega) (fun q hq => by omega))
          have hZ' : w.heap.size + 3 ≤ wq.heap.size := by have := hK'.size; simp at this; omega
          have p0 := cell_of_block hP' 0
          have p1 := cell_of_block hP' 1
          have pf0 := frozen_of_block hP' 0
          have pf1 := frozen_of_block hP' 1
          simp only [List.getElem?_toArray, List.getElem?_cons_succ, List.getElem?_cons_zero] at p0 p1
          refine hK _ _ ?_
          clear hK K
          try simp only [Act.put, List.setIfInBounds_toArray, List.set_cons_zero, List.set_cons_succ]
          refine wpAny_take (i := 12) (oi := ?oi43) (v := ?v43) ?hi43 (by kernel_rfl) (by kernel_rfl) (by kernel_rfl) ?hq43 (Or.inl ⟨?hw43, ?hy43⟩) ?rest43
          case hi43 => simp only [List.getElem?_toArray, List.getElem?_cons_succ, List.getElem?_cons_zero]; rfl
          case hq43 => exact fun _ _ _ h => h
          case hw43 => kernel_rfl
          case hy43 => (intro w; go_simp; try with_reducible rfl)
          try simp only [Act.put, List.setIfInBounds_toArray, List.set_cons_zero, List.set_cons_succ]
          refine wpAny_ready (rs := [13]) (by kernel_rfl) (by simp) ?_
          refine AllReady.cons (o := ?o44) ?ho44 (fun K hK => ?st44) ?more44
          case ho44 => simp only [List.getElem?_toArray, List.getElem?_cons_succ, List.getElem?_cons_zero]; rfl
          go_simp
          refine hK _ _ ?_
          clear hK K
          try simp only [Act.put, List.setIfInBounds_toArray, List.set_cons_zero, List.set_cons_succ]
          refine wpAny_done (by kernel_rfl) ?_ _
          have HP3 : Hid ((wq.setCell ⟨w.heap.size + 1 + 1, 1, none⟩ (.slice A9 n9 c9)).heap[w.heap.size + 1 + 1]? = some (.cells #[v2, (Value.slice A9 n9 c9)] 40)) := by
            have h := block_setCell hP' 1 (.slice A9 n9 c9)
            exact h
          have HC3 : Hid ((wq.setCell ⟨w.heap.size + 1 + 1, 1, none⟩ (.slice A9 n9 c9)).heap[w.heap.size]? = some c.obj) := (Below.heap_setCell wq _ _ _ (by dsimp only; omega)).trans hC'
          have HR3 : Hid ((wq.setCell ⟨w.heap.size + 1 + 1, 1, none⟩ (.slice A9 n9 c9)).heap[w.heap.size + 1]? = some (.cells #[.slice none 0 0, .slice none 0 0] 40)) := (Below.heap_setCell wq _ _ _ (by dsimp only; omega)).trans hR'
          have HB3 : Hid (Below w.heap.size w (wq.setCell ⟨w.heap.size + 1 + 1, 1, none⟩ (.slice A9 n9 c9))) := hB'.setCell (p := ⟨w.heap.size + 1 + 1, 1, none⟩) (by simp; omega) _
          have HZ3 : Hid (w.heap.size + 3 ≤ (wq.setCell ⟨w.heap.size + 1 + 1, 1, none⟩ (.slice A9 n9 c9)).heap.size) := by unfold Hid; simp [World.setCell]; omega
          have HT3 : Hid (TwoRows (wq.setCell ⟨w.heap.size + 1 + 1, 1, none⟩ (.slice A9 n9 c9)) (w.heap.size + 3) v2 (Value.slice A9 n9 c9) (prow xs d k ++ [wd xs (d + 3 * k)]) (prow xs (d + 1) k ++ [wd xs (d + 1 + 3 * k)])) := (hT'.keep (S := fun y => y = w.heap.size + 1 + 1) ((Keep.refl (fun y => y = w.heap.size + 1 + 1) wq).setCell (p := ⟨w.heap.size + 1 + 1, 1, none⟩) (Or.inl rfl) (.slice A9 n9 c9)) (fun g h1 _ h2 => by omega)).swap
          generalize (wq.setCell ⟨w.heap.size + 1 + 1, 1, none⟩ (.slice A9 n9 c9)) = wr3 at *
          obtain ⟨v3, hv3⟩ : ∃ v, v = v2 := ⟨_, rfl⟩
          obtain ⟨u3, hu3⟩ : ∃ u, u = (Value.slice A9 n9 c9) := ⟨_, rfl⟩
          rw [← hv3, ← hu3] at HP3 HT3
          clear hv3 hu3 hT' hK' hP' hC' hR' hB' hZ' p0 p1 pf0 pf1
          revert HP3 HC3 HR3 HB3 HZ3 HT3
          exact tail wr3 v3 u3 A9 n9 c9
          exact AllReady.nil
          exact AllReady.nil
          exact AllReady.nil
          refine AllReady.cons (o := ?o45) ?ho45 (fun K hK => ?st45) ?more45
          case ho45 => simp only [List.getElem?_toArray, List.getElem?_cons_succ, List.getElem?_cons_zero]; rfl
          go_simp
          refine hK _ _ ?_
          clear hK K
          try simp only [Act.put, List.setIfInBounds_toArray, List.set_cons_zero, List.set_cons_succ]
          refine wpAny_ready (rs := [1]) (by kernel_rfl) (by simp) ?_
          refine AllReady.cons (o := ?o46) ?ho46 (fun K hK => ?st46) ?more46
          case ho46 => simp only [List.getElem?_toArray, List.getElem?_cons_succ, List.getElem?_cons_zero]; rfl
          go_simp
          refine hK _ _ ?_
          clear hK K
          try simp only [Act.put, List.setIfInBounds_toArray, List.set_cons_zero, List.set_cons_succ]
          refine wpAny_ready (rs := [11]) (by kernel_rfl) (by simp) ?_
          refine AllReady.cons (o := ?o47) ?ho47 (fun K hK => ?st47) ?more47
          case ho47 => simp only [List.getElem?_toArray, List.getElem?_cons_succ, List.getElem?_cons_zero]; rfl
          refine step_app_word rfl _ _ rfl (w.heap.size + 3) wr2.heap.size u2 v2 _ _ (wd xs (d + 1 + 3 * k)) rfl (HT2.out.swap.keep (S := fun _ => False) (((Keep.refl _ wr2).alloc (.cells #[.int .u64 (wd xs (d + 1 + 3 * k))] 26)).drewN 1) (fun _ _ _ h => h)) rfl (by have h := cell_of_block (heap_alloc_new wr2 (.cells #[.int .u64 (wd xs (d + 1 + 3 * k))] 26)) 0; exact h) (by rw [prow_len]; omega) (by have := HZ2.out; simp; omega) ?_
          intro nv wq hT' hK'
          obtain ⟨A9, n9, c9, rfl⟩ : ∃ A n c, nv = .slice A n c := (by obtain ⟨A, c, e, _, _⟩ := hT'.one.form; exact ⟨_, _, _, e⟩)
          have hP' : wq.heap[w.heap.size + 1 + 1]? = some (.cells #[v2, u2] 40) := hK'.at_ ((Lib.alloc_old wr2 _ _ hlt2).trans HP2.out) (by omega)
          have hC' : wq.heap[w.heap.size]? = some c.obj := hK'.at_ ((Lib.alloc_old wr2 _ _ (by omega)).trans HC2.out) (by omega)
          have hR' : wq.heap[w.heap.size + 1]? = some (.cells #[.slice none 0 0, .slice none 0 0] 40) := hK'.at_ ((Lib.alloc_old wr2 _ _ (by omega)).trans HR2.out) (by omega)
          have hB' : Below w.heap.size w wq := ((HB2.out.alloc (by omega) (.cells #[.int .u64 (wd xs (d + 1 + 3 * k))] 26)).drew).trans (hK'.below (B := w.heap.size) (by simp; omega) (fun q hq => by omega))
          have hZ' : w.heap.size + 3 ≤ wq.heap.size := by have := hK'.size; simp at this; omega
          have p0 := cell_of_block hP' 0
          have p1 := cell_of_block hP' 1
          have pf0 := frozen_of_block hP' 0
          have pf1 := frozen_of_block hP' 1
          simp only [List.getElem?_toArray, List.getElem?_cons_succ, List.getElem?_cons_zero] at p0 p1
          refine hK _ _ ?_
          clear hK K
          try simp only [Act.put, List.setIfInBounds_toArray, List.set_cons_zero, List.set_cons_succ]
          refine wpAny_take (i := 12) (oi := ?oi48) (v := ?v48) ?hi48 (by kernel_rfl) (by kernel_rfl) (by kernel_rfl) ?hq48 (Or.inl ⟨?hw48, ?hy48⟩) ?rest48
          case hi48 => simp only [List.getElem?_toArray, List.getElem?_cons_succ, List.getElem?_cons_zero]; rfl
          case hq48 => exact fun _ _ _ h => h
          case hw48 => kernel_rfl
          case hy48 => (intro w; go_simp; try with_reducible rfl)
          try simp only [Act.put, List.setIfInBounds_toArray, List.set_cons_zero, List.set_cons_succ]
          refine wpAny_ready (rs := [13]) (by kernel_rfl) (by simp) ?_
          refine AllReady.cons (o := ?o49) ?ho49 (fun K hK => ?st49) ?more49
          case ho49 => simp only [List.getElem?_toArray, List.getElem?_cons_succ, List.getElem?_cons_zero]; rfl
          go_simp
          refine hK _ _ ?_
          clear hK K
          try simp only [Act.put, List.setIfInBounds_toArray, List.set_cons_zero, List.set_cons_succ]
          refine wpAny_done (by kernel_rfl) ?_ _
          have HP3 : Hid ((wq.setCell ⟨w.heap.size + 1 + 1, 1, none⟩ (.slice A9 n9 c9)).heap[w.heap.size + 1 + 1]? = some (.cells #[v2, (Value.slice A9 n9 c9)] 40)) := by
            have h := block_setCell hP' 1 (.slice A9 n9 c9)
            exact h
          have HC3 : Hid ((wq.setCell ⟨w.heap.size + 1 + 1, 1, none⟩ (.slice A9 n9 c9)).heap[w.heap.size]? = some c.obj) := (Below.heap_setCell wq _ _ _ (by dsimp only; omega)).trans hC'
          have HR3 : Hid ((wq.setCell ⟨w.heap.size + 1 + 1, 1, none⟩ (.slice A9 n9 c9)).heap[w.heap.size + 1]? = some (.cells #[.slice none 0 0, .slice none 0 0] 40)) := (Below.heap_setCell wq _ _ _ (by dsimp only; omega)).trans hR'
          have HB3 : Hid (Below w.heap.size w (wq.setCell ⟨w.heap.size + 1 + 1, 1, none⟩ (.slice A9 n9 c9))) := hB'.setCell (p := ⟨w.heap.size + 1 + 1, 1, none⟩) (by simp; omega) _
          have HZ3 : Hid (w.heap.size + 3 ≤ (wq.setCell ⟨w.heap.size + 1 + 1, 1, none⟩ (.slice A9 n9 c9)).heap.size) := by unfold Hid; simp [World.setCell]; omega
          have HT3 : Hid (TwoRows (wq.setCell ⟨w.heap.size + 1 + 1, 1, none⟩ (.slice A9 n9 c9)) (w.heap.size + 3) v2 (Value.slice A9 n9 c9) (prow xs d k ++ [wd xs (d + 3 * k)]) (prow xs (d + 1) k ++ [wd xs (d + 1 + 3 * k)])) := (hT'.keep (S := fun y => y = w.heap.size + 1 + 1) ((Keep.refl (fun y => y = w.heap.size + 1 + 1) wq).setCell (p := ⟨w.heap.size + 1 + 1, 1, none⟩) (Or.inl rfl) (.slice A9 n9 c9)) (fun g h1 _ h2 => by omega)).swap
          generalize (wq.setCell ⟨w.heap.size + 1 + 1, 1, none⟩ (.slice A9 n9 c9)) = wr3 at *
          obtain ⟨v3, hv3⟩ : ∃ v, v = v2 := ⟨_, rfl⟩
          obtain ⟨u3, hu3⟩ : ∃ u, u = (Value.slice A9 n9 c9) := ⟨_, rfl⟩
          rw [← hv3, ← hu3] at HP3 HT3
          clear hv3 hu3 hT' hK' hP' hC' hR' hB' hZ' p0 p1 pf0 pf1
          revert HP3 HC3 HR3 HB3 HZ3 HT3
          exact tail wr3 v3 u3 A9 n9 c9
          exact AllReady.nil
          exact AllReady.nil
          exact AllReady.nil
          exact AllReady.nil
          exact AllReady.nil
        case tl2 =>
          intro wr3 v3 u3 A9 n9 c9 HC3 HR3 HB3 HZ3 HT3 HP3
          clear p20 p21 pf20 pf21 HX2 hlt2 HP2 HC2 HR2 HB2 HZ2 HT2
          have wk : IntKind.i64.wrap ((k : Int) + 1) = ((k + 1 : Nat) : Int) := by rw [IntWalk.i64_in _ (by omega)]; omega
          go_wp2_with fail
          go_roundw
          case rel => exact ⟨k + 1, rfl, (by have := HKN.out; omega), HB3, HZ3, HC3, HR3, v3, u3, HP3, by rw [prow_next, prow_next]; exact HT3⟩
          case measure => have := HKN.out; simp only [leftTo]; omega
end Go.Proofs.YtipoklnoknkfhaaDoor

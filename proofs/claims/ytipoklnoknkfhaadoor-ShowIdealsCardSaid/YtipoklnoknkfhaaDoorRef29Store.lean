/- The document's pairs of a store: mudlarkref29.Store. -/
import Derived.Test.YtipoklnoknkfhaaDoorRef29Pairs
import Derived.Test.YtipoklnoknkfhaaDoorShowStore
import Derived.Test.YtipoklnoknkfhaaDoorRef29
namespace Go.Proofs.YtipoklnoknkfhaaDoor
open Go Go.RowKit
set_option linter.unusedSimpArgs false
set_option linter.unusedVariables false

def srow (f : Nat → Int) (k : Nat) : List Int := (List.range k).map f
theorem srow_len (f : Nat → Int) (k : Nat) : (srow f k).length = k := by simp [srow]
theorem srow_next (f : Nat → Int) (k : Nat) : srow f (k + 1) = srow f k ++ [f k] := by simp [srow, List.range_succ]
theorem wd_srow (f : Nat → Int) (k i : Nat) (h : i < k) : wd (srow f k) i = f i := by simp [srow, wd, h]
set_option maxHeartbeats 8000000 in
set_option maxRecDepth 100000 in
theorem rstore_any (w : World) (T : Nat → Prop) (b : Nat) (x : RSto) (v : Value) (h : RAt w T b x v) (hlen : x.puts.length ≤ 100000) (n : Nat) (hn : x.n = (n : Int)) (hn2 : n ≤ 4096) :
    Calls Tryd.prog 24 #[.pointer (some ⟨b, 0, none⟩)] w fun e w' => PairsPost w n (srow (fun i => x.get 2 i 0) n) (srow (fun i => x.get 3 i 0) n) e w' ∧ Below w.heap.size w w' := by
  have hb := block_lt h.head
  have HGET : Hid (∀ W kd k, Below w.heap.size w W → Calls Tryd.prog 59 #[.pointer (some ⟨b, 0, none⟩), .int .i64 kd, .int .i64 k, .int .i64 0] W fun e w' => e = .returned (.int .u64 (x.get kd k 0)) ∧ Below W.heap.size W w') := fun W kd k hW => rget_any W T b x v (h.keep (Keep.of_below hW (fun _ => False)) (fun _ _ => id)) kd k 0 hlen
  have HN : Hid (∀ W, Below w.heap.size w W → W.cell? ⟨b, 2, none⟩ = some (.int .i64 (n : Int)) ∨ True) := fun _ _ => Or.inr trivial
  have HC : Hid (∀ W, Below w.heap.size w W → W.cell? ⟨b, 5, none⟩ = some (.int .i64 (n : Int))) := fun W hW => by
    have := cell_of_block ((hW.block _ hb).trans h.head) 5
    rw [this, ← hn]
    rfl
  clear h HN hn
  go_enter Tryd.func24, Tryd.ntmps24
  go_wp2_with fail
  go_loopw [4] (fun vx wr => ∃ k : Nat, vx = .int .i64 k ∧ k ≤ n ∧ Hid (Below w.heap.size w wr) ∧ Hid (w.heap.size + 2 ≤ wr.heap.size) ∧ Hid (wr.heap[w.heap.size]? = some (.cells #[.slice none 0 0, .slice none 0 0] 40)) ∧ ∃ v u, Hid (wr.heap[w.heap.size + 1]? = some (.cells #[v, u] 40)) ∧ Hid (TwoRows wr (w.heap.size + 2) v u (srow (fun i => x.get 2 i 0) k) (srow (fun i => x.get 3 i 0) k))) (fun vx _ => leftTo n vx)
  case atStart =>
    refine ⟨0, rfl, Nat.zero_le _, ?_, ?_, ?_, .slice none 0 0, .slice none 0 0, ?_, ?_⟩
    · exact ((Below.refl _ w).alloc (Nat.le_refl _) _).alloc (by simp) _
    · unfold Hid; simp
    · exact ((Lib.alloc_old _ _ _ (by simp)).trans (heap_alloc_new w _))
    · exact heap_new2 w _ _
    · exact ⟨Own.none_ _ _ _ _, Own.none_ _ _ _ _, fun g h => by simp [Value.ownBlock] at h⟩
  case round =>
    obtain ⟨k, rfl, hk, HB1, HZ1, HR1, v1, u1, HP1, HT1⟩ := hrel
    have cn := HC.out _ HB1.out
    by_cases hkn : k < n
    case neg =>
      have t0 : decide (k < n) = false := by simp; omega
      have HK : Hid (k = n) := by unfold Hid; omega
      obtain ⟨A1, c1, rfl, f1, g1⟩ := HT1.out.one.form
      obtain ⟨A2, c2, rfl, f2, g2⟩ := HT1.out.two.form
      have p0 := cell_of_block HP1.out 0
      have p1 := cell_of_block HP1.out 1
      have r0 := cell_of_block HR1.out 0
      have r1 := cell_of_block HR1.out 1
      have rf0 := frozen_of_block HR1.out 0
      have rf1 := frozen_of_block HR1.out 1
      simp only [List.getElem?_toArray, List.getElem?_cons_succ, List.getElem?_cons_zero] at p0 p1 r0 r1
      clear hkn f1 f2 g1 g2 HP1
      go_wp2_with fail
      refine bodyPost_ret (v := .agg #[.slice A1 (srow (fun i => x.get 2 i 0) k).length c1, .slice A2 (srow (fun i => x.get 3 i 0) k).length c2]) (by simp [results, Tryd.results24, go_sem, *]) rfl ?_
      have HK2 := HK.out
      subst HK2
      have hk : Keep (fun y => y = w.heap.size) wr ((wr.setCell ⟨w.heap.size, 0, none⟩ (.slice A1 (srow (fun i => x.get 2 i 0) k).length c1)).setCell ⟨w.heap.size, 1, none⟩ (.slice A2 (srow (fun i => x.get 3 i 0) k).length c2)) := ((Keep.refl (fun y => y = w.heap.size) wr).setCell (p := ⟨w.heap.size, 0, none⟩) (Or.inl rfl) _).setCell (p := ⟨w.heap.size, 1, none⟩) (Or.inl rfl) _
      have hT := HT1.out.keep hk (fun g h1 _ h2 => by omega)
      obtain ⟨B1, b1, e1', f1, _⟩ := hT.one.form
      obtain ⟨B2, b2, e2', f2, _⟩ := hT.two.form
      simp at e1' e2'
      obtain ⟨rfl, rfl⟩ := e1'
      obtain ⟨rfl, rfl⟩ := e2'
      rw [srow_len, srow_len] at *
      exact ⟨⟨_, _, _, _, rfl, f1, f2, srow_len _ _, srow_len _ _⟩, HB1.out.trans (hk.below (B := w.heap.size) HB1.out.size (fun q hq => by omega))⟩
    case pos =>
      have t0 : decide (k < n) = true := by simp; omega
      have HKN := Lib.hid hkn
      clear hkn
      go_wp2_with fail
      have hlt1 : w.heap.size + 1 < wr.heap.size := by have := HZ1.out; omega
      have p10 := cell_of_block HP1.out 0
      have p11 := cell_of_block HP1.out 1
      simp only [List.getElem?_toArray, List.getElem?_cons_succ, List.getElem?_cons_zero] at p10 p11
      refine wp_region_any (by kernel_rfl) ?_
      refine (fun (tail : ∀ (W : World) (v u : Value) (A : Option Addr) (n c gz : Nat), (?Tail1 : World → Value → Value → Option Addr → Nat → Nat → Nat → Prop) W v u A n c gz) => ?main1) ?tl1
      case main1 =>
        refine wpAny_take (i := 0) (oi := ?oi1) (v := ?v1) ?hi1 (by kernel_rfl) (by kernel_rfl) (by kernel_rfl) ?hq1 (Or.inl ⟨?hw1, ?hy1⟩) ?rest1
        case hi1 => simp only [List.getElem?_toArray, List.getElem?_cons_succ, List.getElem?_cons_zero]; rfl
        case hq1 => exact fun _ _ _ h => h
        case hw1 => kernel_rfl
        case hy1 => (intro w; go_simp; try with_reducible rfl)
        try simp only [Act.put, List.setIfInBounds_toArray, List.set_cons_zero, List.set_cons_succ]
        refine wpAny_take (i := 2) (oi := ?oi2) (v := ?v2) ?hi2 (by kernel_rfl) (by kernel_rfl) (by kernel_rfl) ?hq2 (Or.inl ⟨?hw2, ?hy2⟩) ?rest2
        case hi2 => simp only [List.getElem?_toArray, List.getElem?_cons_succ, List.getElem?_cons_zero]; rfl
        case hq2 => exact fun _ _ _ h => h
        case hw2 => kernel_rfl
        case hy2 => (intro w; go_simp; try with_reducible rfl)
        try simp only [Act.put, List.setIfInBounds_toArray, List.set_cons_zero, List.set_cons_succ]
        refine wpAny_take (i := 3) (oi := ?oi3) (v := ?v3) ?hi3 (by kernel_rfl) (by kernel_rfl) (by kernel_rfl) ?hq3 (Or.inl ⟨?hw3, ?hy3⟩) ?rest3
        case hi3 => simp only [List.getElem?_toArray, List.getElem?_cons_succ, List.getElem?_cons_zero]; rfl
        case hq3 => exact fun _ _ _ h => h
        case hw3 => kernel_rfl
        case hy3 => (intro w; go_simp; try with_reducible rfl)
        try simp only [Act.put, List.setIfInBounds_toArray, List.set_cons_zero, List.set_cons_succ]
        refine wpAny_ready (rs := [1, 4]) (by kernel_rfl) (by simp) ?_
        refine AllReady.cons (o := ?o4) ?ho4 (fun K hK => ?st4) ?more4
        case ho4 => simp only [List.getElem?_toArray, List.getElem?_cons_succ, List.getElem?_cons_zero]; rfl
        go_simp
        refine hK _ _ ?_
        clear hK K
        try simp only [Act.put, List.setIfInBounds_toArray, List.set_cons_zero, List.set_cons_succ]
        refine wpAny_ready (rs := [4]) (by kernel_rfl) (by simp) ?_
        refine AllReady.cons (o := ?o5) ?ho5 (fun K hK => ?st5) ?more5
        case ho5 => simp only [List.getElem?_toArray, List.getElem?_cons_succ, List.getElem?_cons_zero]; rfl
        go_simp
        refine (HGET.out _ 2 k HB1.out.drew).mono ?_
        rintro e wg ⟨rfl, hg⟩
        have HG : Hid (Below wr.heap.size wr wg) := (Below.refl _ wr).drew.trans hg
        have hpg := (HG.out.block _ hlt1).trans HP1.out
        have q0 := cell_of_block hpg 0
        have q1 := cell_of_block hpg 1
        have hltg : w.heap.size + 1 < wg.heap.size := Nat.lt_of_lt_of_le hlt1 HG.out.size
        simp only [List.getElem?_toArray, List.getElem?_cons_succ, List.getElem?_cons_zero] at q0 q1
        clear hg
        try go_simp
        refine hK _ _ ?_
        clear hK K
        try simp only [Act.put, List.setIfInBounds_toArray, List.set_cons_zero, List.set_cons_succ]
        refine wpAny_ready (rs := [5]) (by kernel_rfl) (by simp) ?_
        refine AllReady.cons (o := ?o6) ?ho6 (fun K hK => ?st6) ?more6
        case ho6 => simp only [List.getElem?_toArray, List.getElem?_cons_succ, List.getElem?_cons_zero]; rfl
        go_simp
        refine hK _ _ ?_
        clear hK K
        try simp only [Act.put, List.setIfInBounds_toArray, List.set_cons_zero, List.set_cons_succ]
        refine wpAny_ready (rs := [6]) (by kernel_rfl) (by simp) ?_
        refine AllReady.cons (o := ?o7) ?ho7 (fun K hK => ?st7) ?more7
        case ho7 => simp only [List.getElem?_toArray, List.getElem?_cons_succ, List.getElem?_cons_zero]; rfl
        refine step_app_word rfl _ _ rfl (w.heap.size + 2) wg.heap.size v1 u1 _ _ (x.get 2 (k : Int) 0) rfl (HT1.out.keep (S := fun _ => False) ((Keep.of_below HG.out (fun _ => False)).alloc (.cells #[.int .u64 (x.get 2 (k : Int) 0)] 26)) (fun _ _ _ h => h)) rfl (by have h := cell_of_block (heap_alloc_new wg (.cells #[.int .u64 (x.get 2 (k : Int) 0)] 26)) 0; exact h) (by rw [srow_len]; omega) (by have := HZ1.out; have := HG.out.size; simp; omega) ?_
        intro nv wq hT' hK'
        obtain ⟨A9, n9, c9, rfl⟩ : ∃ A n c, nv = .slice A n c := (by obtain ⟨A, c, e, _, _⟩ := hT'.one.form; exact ⟨_, _, _, e⟩)
        have hP' : wq.heap[w.heap.size + 1]? = some (.cells #[v1, u1] 40) := hK'.at_ ((Lib.alloc_old wg _ _ hltg).trans hpg) (by omega)
        have hR' : wq.heap[w.heap.size]? = some (.cells #[.slice none 0 0, .slice none 0 0] 40) := hK'.at_ ((Lib.alloc_old wg _ _ (by omega)).trans ((HG.out.block _ (by omega)).trans HR1.out)) (by omega)
        have hB' : Below w.heap.size w wq := ((HB1.out.trans (HG.out.mono HB1.out.size)).alloc (by omega) (.cells #[.int .u64 (x.get 2 (k : Int) 0)] 26)).trans (hK'.below (B := w.heap.size) (by simp; omega) (fun q hq => by omega))
        have hZ' : w.heap.size + 2 ≤ wq.heap.size := by have := hK'.size; simp at this; omega
        have p0 := cell_of_block hP' 0
        have p1 := cell_of_block hP' 1
        have pf0 := frozen_of_block hP' 0
        have pf1 := frozen_of_block hP' 1
        simp only [List.getElem?_toArray, List.getElem?_cons_succ, List.getElem?_cons_zero] at p0 p1
        refine hK _ _ ?_
        clear hK K
        try simp only [Act.put, List.setIfInBounds_toArray, List.set_cons_zero, List.set_cons_succ]
        refine wpAny_take (i := 7) (oi := ?oi8) (v := ?v8) ?hi8 (by kernel_rfl) (by kernel_rfl) (by kernel_rfl) ?hq8 (Or.inl ⟨?hw8, ?hy8⟩) ?rest8
        case hi8 => simp only [List.getElem?_toArray, List.getElem?_cons_succ, List.getElem?_cons_zero]; rfl
        case hq8 => exact fun _ _ _ h => h
        case hw8 => kernel_rfl
        case hy8 => (intro w; go_simp; try with_reducible rfl)
        try simp only [Act.put, List.setIfInBounds_toArray, List.set_cons_zero, List.set_cons_succ]
        refine wpAny_ready (rs := [8]) (by kernel_rfl) (by simp) ?_
        refine AllReady.cons (o := ?o9) ?ho9 (fun K hK => ?st9) ?more9
        case ho9 => simp only [List.getElem?_toArray, List.getElem?_cons_succ, List.getElem?_cons_zero]; rfl
        go_simp
        refine hK _ _ ?_
        clear hK K
        try simp only [Act.put, List.setIfInBounds_toArray, List.set_cons_zero, List.set_cons_succ]
        refine wpAny_done (by kernel_rfl) ?_ _
        have HP2 : Hid ((wq.setCell ⟨w.heap.size + 1, 0, none⟩ (.slice A9 n9 c9)).heap[w.heap.size + 1]? = some (.cells #[(Value.slice A9 n9 c9), u1] 40)) := by
          have h := block_setCell hP' 0 (.slice A9 n9 c9)
          exact h
        have HR2 : Hid ((wq.setCell ⟨w.heap.size + 1, 0, none⟩ (.slice A9 n9 c9)).heap[w.heap.size]? = some (.cells #[.slice none 0 0, .slice none 0 0] 40)) := (Below.heap_setCell wq _ _ _ (by dsimp only; omega)).trans hR'
        have HB2 : Hid (Below w.heap.size w (wq.setCell ⟨w.heap.size + 1, 0, none⟩ (.slice A9 n9 c9))) := hB'.setCell (p := ⟨w.heap.size + 1, 0, none⟩) (by simp) _
        have HZ2 : Hid (w.heap.size + 2 ≤ (wq.setCell ⟨w.heap.size + 1, 0, none⟩ (.slice A9 n9 c9)).heap.size) := by unfold Hid; simp [World.setCell]; omega
        have HT2 : Hid (TwoRows (wq.setCell ⟨w.heap.size + 1, 0, none⟩ (.slice A9 n9 c9)) (w.heap.size + 2) (Value.slice A9 n9 c9) u1 (srow (fun i => x.get 2 i 0) k ++ [x.get 2 (k : Int) 0]) (srow (fun i => x.get 3 i 0) k)) := hT'.keep (S := fun y => y = w.heap.size + 1) ((Keep.refl (fun y => y = w.heap.size + 1) wq).setCell (p := ⟨w.heap.size + 1, 0, none⟩) (Or.inl rfl) (.slice A9 n9 c9)) (fun g h1 _ h2 => by omega)
        generalize (wq.setCell ⟨w.heap.size + 1, 0, none⟩ (.slice A9 n9 c9)) = wr2 at *
        obtain ⟨v2, hv2⟩ : ∃ v, v = (Value.slice A9 n9 c9) := ⟨_, rfl⟩
        obtain ⟨u2, hu2⟩ : ∃ u, u = u1 := ⟨_, rfl⟩
        rw [← hv2, ← hu2] at HP2 HT2
        clear hv2 hu2 hT' hK' hP' hR' hB' hZ' p0 p1 pf0 pf1
        revert HP2 HR2 HB2 HZ2 HT2
        generalize wg.heap.size = gz
        exact tail wr2 v2 u2 A9 n9 c9 gz
        exact AllReady.nil
        exact AllReady.nil
        exact AllReady.nil
        exact AllReady.nil
        refine AllReady.cons (o := ?o10) ?ho10 (fun K hK => ?st10) ?more10
        case ho10 => simp only [List.getElem?_toArray, List.getElem?_cons_succ, List.getElem?_cons_zero]; rfl
        go_simp
        refine (HGET.out _ 2 k HB1.out.drew).mono ?_
        rintro e wg ⟨rfl, hg⟩
        have HG : Hid (Below wr.heap.size wr wg) := (Below.refl _ wr).drew.trans hg
        have hpg := (HG.out.block _ hlt1).trans HP1.out
        have q0 := cell_of_block hpg 0
        have q1 := cell_of_block hpg 1
        have hltg : w.heap.size + 1 < wg.heap.size := Nat.lt_of_lt_of_le hlt1 HG.out.size
        simp only [List.getElem?_toArray, List.getElem?_cons_succ, List.getElem?_cons_zero] at q0 q1
        clear hg
        try go_simp
        refine hK _ _ ?_
        clear hK K
        try simp only [Act.put, List.setIfInBounds_toArray, List.set_cons_zero, List.set_cons_succ]
        refine wpAny_ready (rs := [1, 5]) (by kernel_rfl) (by simp) ?_
        refine AllReady.cons (o := ?o11) ?ho11 (fun K hK => ?st11) ?more11
        case ho11 => simp only [List.getElem?_toArray, List.getElem?_cons_succ, List.getElem?_cons_zero]; rfl
        go_simp
        refine hK _ _ ?_
        clear hK K
        try simp only [Act.put, List.setIfInBounds_toArray, List.set_cons_zero, List.set_cons_succ]
        refine wpAny_ready (rs := [5]) (by kernel_rfl) (by simp) ?_
        refine AllReady.cons (o := ?o12) ?ho12 (fun K hK => ?st12) ?more12
        case ho12 => simp only [List.getElem?_toArray, List.getElem?_cons_succ, List.getElem?_cons_zero]; rfl
        go_simp
        refine hK _ _ ?_
        clear hK K
        try simp only [Act.put, List.setIfInBounds_toArray, List.set_cons_zero, List.set_cons_succ]
        refine wpAny_ready (rs := [6]) (by kernel_rfl) (by simp) ?_
        refine AllReady.cons (o := ?o13) ?ho13 (fun K hK => ?st13) ?more13
        case ho13 => simp only [List.getElem?_toArray, List.getElem?_cons_succ, List.getElem?_cons_zero]; rfl
        refine step_app_word rfl _ _ rfl (w.heap.size + 2) wg.heap.size v1 u1 _ _ (x.get 2 (k : Int) 0) rfl (HT1.out.keep (S := fun _ => False) ((Keep.of_below HG.out (fun _ => False)).alloc (.cells #[.int .u64 (x.get 2 (k : Int) 0)] 26)) (fun _ _ _ h => h)) rfl (by have h := cell_of_block (heap_alloc_new wg (.cells #[.int .u64 (x.get 2 (k : Int) 0)] 26)) 0; exact h) (by rw [srow_len]; omega) (by have := HZ1.out; have := HG.out.size; simp; omega) ?_
        intro nv wq hT' hK'
        obtain ⟨A9, n9, c9, rfl⟩ : ∃ A n c, nv = .slice A n c := (by obtain ⟨A, c, e, _, _⟩ := hT'.one.form; exact ⟨_, _, _, e⟩)
        have hP' : wq.heap[w.heap.size + 1]? = some (.cells #[v1, u1] 40) := hK'.at_ ((Lib.alloc_old wg _ _ hltg).trans hpg) (by omega)
        have hR' : wq.heap[w.heap.size]? = some (.cells #[.slice none 0 0, .slice none 0 0] 40) := hK'.at_ ((Lib.alloc_old wg _ _ (by omega)).trans ((HG.out.block _ (by omega)).trans HR1.out)) (by omega)
        have hB' : Below w.heap.size w wq := ((HB1.out.trans (HG.out.mono HB1.out.size)).alloc (by omega) (.cells #[.int .u64 (x.get 2 (k : Int) 0)] 26)).trans (hK'.below (B := w.heap.size) (by simp; omega) (fun q hq => by omega))
        have hZ' : w.heap.size + 2 ≤ wq.heap.size := by have := hK'.size; simp at this; omega
        have p0 := cell_of_block hP' 0
        have p1 := cell_of_block hP' 1
        have pf0 := frozen_of_block hP' 0
        have pf1 := frozen_of_block hP' 1
        simp only [List.getElem?_toArray, List.getElem?_cons_succ, List.getElem?_cons_zero] at p0 p1
        refine hK _ _ ?_
        clear hK K
        try simp only [Act.put, List.setIfInBounds_toArray, List.set_cons_zero, List.set_cons_succ]
        refine wpAny_take (i := 7) (oi := ?oi14) (v := ?v14) ?hi14 (by kernel_rfl) (by kernel_rfl) (by kernel_rfl) ?hq14 (Or.inl ⟨?hw14, ?hy14⟩) ?rest14
        case hi14 => simp only [List.getElem?_toArray, List.getElem?_cons_succ, List.getElem?_cons_zero]; rfl
        case hq14 => exact fun _ _ _ h => h
        case hw14 => kernel_rfl
        case hy14 => (intro w; go_simp; try with_reducible rfl)
        try simp only [Act.put, List.setIfInBounds_toArray, List.set_cons_zero, List.set_cons_succ]
        refine wpAny_ready (rs := [8]) (by kernel_rfl) (by simp) ?_
        refine AllReady.cons (o := ?o15) ?ho15 (fun K hK => ?st15) ?more15
        case ho15 => simp only [List.getElem?_toArray, List.getElem?_cons_succ, List.getElem?_cons_zero]; rfl
        go_simp
        refine hK _ _ ?_
        clear hK K
        try simp only [Act.put, List.setIfInBounds_toArray, List.set_cons_zero, List.set_cons_succ]
        refine wpAny_done (by kernel_rfl) ?_ _
        have HP2 : Hid ((wq.setCell ⟨w.heap.size + 1, 0, none⟩ (.slice A9 n9 c9)).heap[w.heap.size + 1]? = some (.cells #[(Value.slice A9 n9 c9), u1] 40)) := by
          have h := block_setCell hP' 0 (.slice A9 n9 c9)
          exact h
        have HR2 : Hid ((wq.setCell ⟨w.heap.size + 1, 0, none⟩ (.slice A9 n9 c9)).heap[w.heap.size]? = some (.cells #[.slice none 0 0, .slice none 0 0] 40)) := (Below.heap_setCell wq _ _ _ (by dsimp only; omega)).trans hR'
        have HB2 : Hid (Below w.heap.size w (wq.setCell ⟨w.heap.size + 1, 0, none⟩ (.slice A9 n9 c9))) := hB'.setCell (p := ⟨w.heap.size + 1, 0, none⟩) (by simp) _
        have HZ2 : Hid (w.heap.size + 2 ≤ (wq.setCell ⟨w.heap.size + 1, 0, none⟩ (.slice A9 n9 c9)).heap.size) := by unfold Hid; simp [World.setCell]; omega
        have HT2 : Hid (TwoRows (wq.setCell ⟨w.heap.size + 1, 0, none⟩ (.slice A9 n9 c9)) (w.heap.size + 2) (Value.slice A9 n9 c9) u1 (srow (fun i => x.get 2 i 0) k ++ [x.get 2 (k : Int) 0]) (srow (fun i => x.get 3 i 0) k)) := hT'.keep (S := fun y => y = w.heap.size + 1) ((Keep.refl (fun y => y = w.heap.size + 1) wq).setCell (p := ⟨w.heap.size + 1, 0, none⟩) (Or.inl rfl) (.slice A9 n9 c9)) (fun g h1 _ h2 => by omega)
        generalize (wq.setCell ⟨w.heap.size + 1, 0, none⟩ (.slice A9 n9 c9)) = wr2 at *
        obtain ⟨v2, hv2⟩ : ∃ v, v = (Value.slice A9 n9 c9) := ⟨_, rfl⟩
        obtain ⟨u2, hu2⟩ : ∃ u, u = u1 := ⟨_, rfl⟩
        rw [← hv2, ← hu2] at HP2 HT2
        clear hv2 hu2 hT' hK' hP' hR' hB' hZ' p0 p1 pf0 pf1
        revert HP2 HR2 HB2 HZ2 HT2
        generalize wg.heap.size = gz
        exact tail wr2 v2 u2 A9 n9 c9 gz
        exact AllReady.nil
        exact AllReady.nil
        exact AllReady.nil
        refine AllReady.cons (o := ?o16) ?ho16 (fun K hK => ?st16) ?more16
        case ho16 => simp only [List.getElem?_toArray, List.getElem?_cons_succ, List.getElem?_cons_zero]; rfl
        go_simp
        refine hK _ _ ?_
        clear hK K
        try simp only [Act.put, List.setIfInBounds_toArray, List.set_cons_zero, List.set_cons_succ]
        refine wpAny_ready (rs := [1]) (by kernel_rfl) (by simp) ?_
        refine AllReady.cons (o := ?o17) ?ho17 (fun K hK => ?st17) ?more17
        case ho17 => simp only [List.getElem?_toArray, List.getElem?_cons_succ, List.getElem?_cons_zero]; rfl
        go_simp
        refine hK _ _ ?_
        clear hK K
        try simp only [Act.put, List.setIfInBounds_toArray, List.set_cons_zero, List.set_cons_succ]
        refine wpAny_ready (rs := [6]) (by kernel_rfl) (by simp) ?_
        refine AllReady.cons (o := ?o18) ?ho18 (fun K hK => ?st18) ?more18
        case ho18 => simp only [List.getElem?_toArray, List.getElem?_cons_succ, List.getElem?_cons_zero]; rfl
        refine step_app_word rfl _ _ rfl (w.heap.size + 2) wg.heap.size v1 u1 _ _ (x.get 2 (k : Int) 0) rfl (HT1.out.keep (S := fun _ => False) ((Keep.of_below HG.out (fun _ => False)).alloc (.cells #[.int .u64 (x.get 2 (k : Int) 0)] 26)) (fun _ _ _ h => h)) rfl (by have h := cell_of_block (heap_alloc_new wg (.cells #[.int .u64 (x.get 2 (k : Int) 0)] 26)) 0; exact h) (by rw [srow_len]; omega) (by have := HZ1.out; have := HG.out.size; simp; omega) ?_
        intro nv wq hT' hK'
        obtain ⟨A9, n9, c9, rfl⟩ : ∃ A n c, nv = .slice A n c := (by obtain ⟨A, c, e, _, _⟩ := hT'.one.form; exact ⟨_, _, _, e⟩)
        have hP' : wq.heap[w.heap.size + 1]? = some (.cells #[v1, u1] 40) := hK'.at_ ((Lib.alloc_old wg _ _ hltg).trans hpg) (by omega)
        have hR' : wq.heap[w.heap.size]? = some (.cells #[.slice none 0 0, .slice none 0 0] 40) := hK'.at_ ((Lib.alloc_old wg _ _ (by omega)).trans ((HG.out.block _ (by omega)).trans HR1.out)) (by omega)
        have hB' : Below w.heap.size w wq := ((HB1.out.trans (HG.out.mono HB1.out.size)).alloc (by omega) (.cells #[.int .u64 (x.get 2 (k : Int) 0)] 26)).trans (hK'.below (B := w.heap.size) (by simp; omega) (fun q hq => by omega))
        have hZ' : w.heap.size + 2 ≤ wq.heap.size := by have := hK'.size; simp at this; omega
        have p0 := cell_of_block hP' 0
        have p1 := cell_of_block hP' 1
        have pf0 := frozen_of_block hP' 0
        have pf1 := frozen_of_block hP' 1
        simp only [List.getElem?_toArray, List.getElem?_cons_succ, List.getElem?_cons_zero] at p0 p1
        refine hK _ _ ?_
        clear hK K
        try simp only [Act.put, List.setIfInBounds_toArray, List.set_cons_zero, List.set_cons_succ]
        refine wpAny_take (i := 7) (oi := ?oi19) (v := ?v19) ?hi19 (by kernel_rfl) (by kernel_rfl) (by kernel_rfl) ?hq19 (Or.inl ⟨?hw19, ?hy19⟩) ?rest19
        case hi19 => simp only [List.getElem?_toArray, List.getElem?_cons_succ, List.getElem?_cons_zero]; rfl
        case hq19 => exact fun _ _ _ h => h
        case hw19 => kernel_rfl
        case hy19 => (intro w; go_simp; try with_reducible rfl)
        try simp only [Act.put, List.setIfInBounds_toArray, List.set_cons_zero, List.set_cons_succ]
        refine wpAny_ready (rs := [8]) (by kernel_rfl) (by simp) ?_
        refine AllReady.cons (o := ?o20) ?ho20 (fun K hK => ?st20) ?more20
        case ho20 => simp only [List.getElem?_toArray, List.getElem?_cons_succ, List.getElem?_cons_zero]; rfl
        go_simp
        refine hK _ _ ?_
        clear hK K
        try simp only [Act.put, List.setIfInBounds_toArray, List.set_cons_zero, List.set_cons_succ]
        refine wpAny_done (by kernel_rfl) ?_ _
        have HP2 : Hid ((wq.setCell ⟨w.heap.size + 1, 0, none⟩ (.slice A9 n9 c9)).heap[w.heap.size + 1]? = some (.cells #[(Value.slice A9 n9 c9), u1] 40)) := by
          have h := block_setCell hP' 0 (.slice A9 n9 c9)
          exact h
        have HR2 : Hid ((wq.setCell ⟨w.heap.size + 1, 0, none⟩ (.slice A9 n9 c9)).heap[w.heap.size]? = some (.cells #[.slice none 0 0, .slice none 0 0] 40)) := (Below.heap_setCell wq _ _ _ (by dsimp only; omega)).trans hR'
        have HB2 : Hid (Below w.heap.size w (wq.setCell ⟨w.heap.size + 1, 0, none⟩ (.slice A9 n9 c9))) := hB'.setCell (p := ⟨w.heap.size + 1, 0, none⟩) (by simp) _
        have HZ2 : Hid (w.heap.size + 2 ≤ (wq.setCell ⟨w.heap.size + 1, 0, none⟩ (.slice A9 n9 c9)).heap.size) := by unfold Hid; simp [World.setCell]; omega
        have HT2 : Hid (TwoRows (wq.setCell ⟨w.heap.size + 1, 0, none⟩ (.slice A9 n9 c9)) (w.heap.size + 2) (Value.slice A9 n9 c9) u1 (srow (fun i => x.get 2 i 0) k ++ [x.get 2 (k : Int) 0]) (srow (fun i => x.get 3 i 0) k)) := hT'.keep (S := fun y => y = w.heap.size + 1) ((Keep.refl (fun y => y = w.heap.size + 1) wq).setCell (p := ⟨w.heap.size + 1, 0, none⟩) (Or.inl rfl) (.slice A9 n9 c9)) (fun g h1 _ h2 => by omega)
        generalize (wq.setCell ⟨w.heap.size + 1, 0, none⟩ (.slice A9 n9 c9)) = wr2 at *
        obtain ⟨v2, hv2⟩ : ∃ v, v = (Value.slice A9 n9 c9) := ⟨_, rfl⟩
        obtain ⟨u2, hu2⟩ : ∃ u, u = u1 := ⟨_, rfl⟩
        rw [← hv2, ← hu2] at HP2 HT2
        clear hv2 hu2 hT' hK' hP' hR' hB' hZ' p0 p1 pf0 pf1
        revert HP2 HR2 HB2 HZ2 HT2
        generalize wg.heap.size = gz
        exact tail wr2 v2 u2 A9 n9 c9 gz
        exact AllReady.nil
        exact AllReady.nil
        exact AllReady.nil
        exact AllReady.nil
        exact AllReady.nil
      case tl1 =>
        intro wr2 v2 u2 A9 n9 c9 gz HR2 HB2 HZ2 HT2 HP2
        clear p10 p11 hlt1 HP1 HR1 HB1 HZ1 HT1
        clear cn
        go_wp2_with fail
        have hlt2 : w.heap.size + 1 < wr2.heap.size := by have := HZ2.out; omega
        have p20 := cell_of_block HP2.out 0
        have p21 := cell_of_block HP2.out 1
        simp only [List.getElem?_toArray, List.getElem?_cons_succ, List.getElem?_cons_zero] at p20 p21
        refine wp_region_any (by kernel_rfl) ?_
        refine (fun (tail : ∀ (W : World) (v u : Value) (A : Option Addr) (n c gz : Nat), (?Tail2 : World → Value → Value → Option Addr → Nat → Nat → Nat → Prop) W v u A n c gz) => ?main2) ?tl2
        case main2 =>
          refine wpAny_take (i := 0) (oi := ?oi21) (v := ?v21) ?hi21 (by kernel_rfl) (by kernel_rfl) (by kernel_rfl) ?hq21 (Or.inl ⟨?hw21, ?hy21⟩) ?rest21
          case hi21 => simp only [List.getElem?_toArray, List.getElem?_cons_succ, List.getElem?_cons_zero]; rfl
          case hq21 => exact fun _ _ _ h => h
          case hw21 => kernel_rfl
          case hy21 => (intro w; go_simp; try with_reducible rfl)
          try simp only [Act.put, List.setIfInBounds_toArray, List.set_cons_zero, List.set_cons_succ]
          refine wpAny_take (i := 2) (oi := ?oi22) (v := ?v22) ?hi22 (by kernel_rfl) (by kernel_rfl) (by kernel_rfl) ?hq22 (Or.inl ⟨?hw22, ?hy22⟩) ?rest22
          case hi22 => simp only [List.getElem?_toArray, List.getElem?_cons_succ, List.getElem?_cons_zero]; rfl
          case hq22 => exact fun _ _ _ h => h
          case hw22 => kernel_rfl
          case hy22 => (intro w; go_simp; try with_reducible rfl)
          try simp only [Act.put, List.setIfInBounds_toArray, List.set_cons_zero, List.set_cons_succ]
          refine wpAny_take (i := 3) (oi := ?oi23) (v := ?v23) ?hi23 (by kernel_rfl) (by kernel_rfl) (by kernel_rfl) ?hq23 (Or.inl ⟨?hw23, ?hy23⟩) ?rest23
          case hi23 => simp only [List.getElem?_toArray, List.getElem?_cons_succ, List.getElem?_cons_zero]; rfl
          case hq23 => exact fun _ _ _ h => h
          case hw23 => kernel_rfl
          case hy23 => (intro w; go_simp; try with_reducible rfl)
          try simp only [Act.put, List.setIfInBounds_toArray, List.set_cons_zero, List.set_cons_succ]
          refine wpAny_ready (rs := [1, 4]) (by kernel_rfl) (by simp) ?_
          refine AllReady.cons (o := ?o24) ?ho24 (fun K hK => ?st24) ?more24
          case ho24 => simp only [List.getElem?_toArray, List.getElem?_cons_succ, List.getElem?_cons_zero]; rfl
          go_simp
          refine hK _ _ ?_
          clear hK K
          try simp only [Act.put, List.setIfInBounds_toArray, List.set_cons_zero, List.set_cons_succ]
          refine wpAny_ready (rs := [4]) (by kernel_rfl) (by simp) ?_
          refine AllReady.cons (o := ?o25) ?ho25 (fun K hK => ?st25) ?more25
          case ho25 => simp only [List.getElem?_toArray, List.getElem?_cons_succ, List.getElem?_cons_zero]; rfl
          go_simp
          refine (HGET.out _ 3 k HB2.out.drew).mono ?_
          rintro e wg ⟨rfl, hg⟩
          have HG : Hid (Below wr2.heap.size wr2 wg) := (Below.refl _ wr2).drew.trans hg
          have hpg := (HG.out.block _ hlt2).trans HP2.out
          have q0 := cell_of_block hpg 0
          have q1 := cell_of_block hpg 1
          have hltg : w.heap.size + 1 < wg.heap.size := Nat.lt_of_lt_of_le hlt2 HG.out.size
          simp only [List.getElem?_toArray, List.getElem?_cons_succ, List.getElem?_cons_zero] at q0 q1
          clear hg
          try go_simp
          refine hK _ _ ?_
          clear hK K
          try simp only [Act.put, List.setIfInBounds_toArray, List.set_cons_zero, List.set_cons_succ]
          refine wpAny_ready (rs := [5]) (by kernel_rfl) (by simp) ?_
          refine AllReady.cons (o := ?o26) ?ho26 (fun K hK => ?st26) ?more26
          case ho26 => simp only [List.getElem?_toArray, List.getElem?_cons_succ, List.getElem?_cons_zero]; rfl
          go_simp
          refine hK _ _ ?_
          clear hK K
          try simp only [Act.put, List.setIfInBounds_toArray, List.set_cons_zero, List.set_cons_succ]
          refine wpAny_ready (rs := [6]) (by kernel_rfl) (by simp) ?_
          refine AllReady.cons (o := ?o27) ?ho27 (fun K hK => ?st27) ?more27
          case ho27 => simp only [List.getElem?_toArray, List.getElem?_cons_succ, List.getElem?_cons_zero]; rfl
          refine step_app_word rfl _ _ rfl (w.heap.size + 2) wg.heap.size u2 v2 _ _ (x.get 3 (k : Int) 0) rfl (HT2.out.swap.keep (S := fun _ => False) ((Keep.of_below HG.out (fun _ => False)).alloc (.cells #[.int .u64 (x.get 3 (k : Int) 0)] 26)) (fun _ _ _ h => h)) rfl (by have h := cell_of_block (heap_alloc_new wg (.cells #[.int .u64 (x.get 3 (k : Int) 0)] 26)) 0; exact h) (by rw [srow_len]; omega) (by have := HZ2.out; have := HG.out.size; simp; omega) ?_
          intro nv wq hT' hK'
          obtain ⟨A9, n9, c9, rfl⟩ : ∃ A n c, nv = .slice A n c := (by obtain ⟨A, c, e, _, _⟩ := hT'.one.form; exact ⟨_, _, _, e⟩)
          have hP' : wq.heap[w.heap.size + 1]? = some (.cells #[v2, u2] 40) := hK'.at_ ((Lib.alloc_old wg _ _ hltg).trans hpg) (by omega)
          have hR' : wq.heap[w.heap.size]? = some (.cells #[.slice none 0 0, .slice none 0 0] 40) := hK'.at_ ((Lib.alloc_old wg _ _ (by omega)).trans ((HG.out.block _ (by omega)).trans HR2.out)) (by omega)
          have hB' : Below w.heap.size w wq := ((HB2.out.trans (HG.out.mono HB2.out.size)).alloc (by omega) (.cells #[.int .u64 (x.get 3 (k : Int) 0)] 26)).trans (hK'.below (B := w.heap.size) (by simp; omega) (fun q hq => by omega))
          have hZ' : w.heap.size + 2 ≤ wq.heap.size := by have := hK'.size; simp at this; omega
          have p0 := cell_of_block hP' 0
          have p1 := cell_of_block hP' 1
          have pf0 := frozen_of_block hP' 0
          have pf1 := frozen_of_block hP' 1
          simp only [List.getElem?_toArray, List.getElem?_cons_succ, List.getElem?_cons_zero] at p0 p1
          refine hK _ _ ?_
          clear hK K
          try simp only [Act.put, List.setIfInBounds_toArray, List.set_cons_zero, List.set_cons_succ]
          refine wpAny_take (i := 7) (oi := ?oi28) (v := ?v28) ?hi28 (by kernel_rfl) (by kernel_rfl) (by kernel_rfl) ?hq28 (Or.inl ⟨?hw28, ?hy28⟩) ?rest28
          case hi28 => simp only [List.getElem?_toArray, List.getElem?_cons_succ, List.getElem?_cons_zero]; rfl
          case hq28 => exact fun _ _ _ h => h
          case hw28 => kernel_rfl
          case hy28 => (intro w; go_simp; try with_reducible rfl)
          try simp only [Act.put, List.setIfInBounds_toArray, List.set_cons_zero, List.set_cons_succ]
          refine wpAny_ready (rs := [8]) (by kernel_rfl) (by simp) ?_
          refine AllReady.cons (o := ?o29) ?ho29 (fun K hK => ?st29) ?more29
          case ho29 => simp only [List.getElem?_toArray, List.getElem?_cons_succ, List.getElem?_cons_zero]; rfl
          go_simp
          refine hK _ _ ?_
          clear hK K
          try simp only [Act.put, List.setIfInBounds_toArray, List.set_cons_zero, List.set_cons_succ]
          refine wpAny_done (by kernel_rfl) ?_ _
          have HP3 : Hid ((wq.setCell ⟨w.heap.size + 1, 1, none⟩ (.slice A9 n9 c9)).heap[w.heap.size + 1]? = some (.cells #[v2, (Value.slice A9 n9 c9)] 40)) := by
            have h := block_setCell hP' 1 (.slice A9 n9 c9)
            exact h
          have HR3 : Hid ((wq.setCell ⟨w.heap.size + 1, 1, none⟩ (.slice A9 n9 c9)).heap[w.heap.size]? = some (.cells #[.slice none 0 0, .slice none 0 0] 40)) := (Below.heap_setCell wq _ _ _ (by dsimp only; omega)).trans hR'
          have HB3 : Hid (Below w.heap.size w (wq.setCell ⟨w.heap.size + 1, 1, none⟩ (.slice A9 n9 c9))) := hB'.setCell (p := ⟨w.heap.size + 1, 1, none⟩) (by simp) _
          have HZ3 : Hid (w.heap.size + 2 ≤ (wq.setCell ⟨w.heap.size + 1, 1, none⟩ (.slice A9 n9 c9)).heap.size) := by unfold Hid; simp [World.setCell]; omega
          have HT3 : Hid (TwoRows (wq.setCell ⟨w.heap.size + 1, 1, none⟩ (.slice A9 n9 c9)) (w.heap.size + 2) v2 (Value.slice A9 n9 c9) (srow (fun i => x.get 2 i 0) k ++ [x.get 2 (k : Int) 0]) (srow (fun i => x.get 3 i 0) k ++ [x.get 3 (k : Int) 0])) := (hT'.keep (S := fun y => y = w.heap.size + 1) ((Keep.refl (fun y => y = w.heap.size + 1) wq).setCell (p := ⟨w.heap.size + 1, 1, none⟩) (Or.inl rfl) (.slice A9 n9 c9)) (fun g h1 _ h2 => by omega)).swap
          generalize (wq.setCell ⟨w.heap.size + 1, 1, none⟩ (.slice A9 n9 c9)) = wr3 at *
          obtain ⟨v3, hv3⟩ : ∃ v, v = v2 := ⟨_, rfl⟩
          obtain ⟨u3, hu3⟩ : ∃ u, u = (Value.slice A9 n9 c9) := ⟨_, rfl⟩
          rw [← hv3, ← hu3] at HP3 HT3
          clear hv3 hu3 hT' hK' hP' hR' hB' hZ' p0 p1 pf0 pf1
          revert HP3 HR3 HB3 HZ3 HT3
          generalize wg.heap.size = gz
          exact tail wr3 v3 u3 A9 n9 c9 gz
          exact AllReady.nil
          exact AllReady.nil
          exact AllReady.nil
          exact AllReady.nil
          refine AllReady.cons (o := ?o30) ?ho30 (fun K hK => ?st30) ?more30
          case ho30 => simp only [List.getElem?_toArray, List.getElem?_cons_succ, List.getElem?_cons_zero]; rfl
          go_simp
          refine (HGET.out _ 3 k HB2.out.drew).mono ?_
          rintro e wg ⟨rfl, hg⟩
          have HG : Hid (Below wr2.heap.size wr2 wg) := (Below.refl _ wr2).drew.trans hg
          have hpg := (HG.out.block _ hlt2).trans HP2.out
          have q0 := cell_of_block hpg 0
          have q1 := cell_of_block hpg 1
          have hltg : w.heap.size + 1 < wg.heap.size := Nat.lt_of_lt_of_le hlt2 HG.out.size
          simp only [List.getElem?_toArray, List.getElem?_cons_succ, List.getElem?_cons_zero] at q0 q1
          clear hg
          try go_simp
          refine hK _ _ ?_
          clear hK K
          try simp only [Act.put, List.setIfInBounds_toArray, List.set_cons_zero, List.set_cons_succ]
          refine wpAny_ready (rs := [1, 5]) (by kernel_rfl) (by simp) ?_
          refine AllReady.cons (o := ?o31) ?ho31 (fun K hK => ?st31) ?more31
          case ho31 => simp only [List.getElem?_toArray, List.getElem?_cons_succ, List.getElem?_cons_zero]; rfl
          go_simp
          refine hK _ _ ?_
          clear hK K
          try simp only [Act.put, List.setIfInBounds_toArray, List.set_cons_zero, List.set_cons_succ]
          refine wpAny_ready (rs := [5]) (by kernel_rfl) (by simp) ?_
          refine AllReady.cons (o := ?o32) ?ho32 (fun K hK => ?st32) ?more32
          case ho32 => simp only [List.getElem?_toArray, List.getElem?_cons_succ, List.getElem?_cons_zero]; rfl
          go_simp
          refine hK _ _ ?_
          clear hK K
          try simp only [Act.put, List.setIfInBounds_toArray, List.set_cons_zero, List.set_cons_succ]
          refine wpAny_ready (rs := [6]) (by kernel_rfl) (by simp) ?_
          refine AllReady.cons (o := ?o33) ?ho33 (fun K hK => ?st33) ?more33
          case ho33 => simp only [List.getElem?_toArray, List.getElem?_cons_succ, List.getElem?_cons_zero]; rfl
          refine step_app_word rfl _ _ rfl (w.heap.size + 2) wg.heap.size u2 v2 _ _ (x.get 3 (k : Int) 0) rfl (HT2.out.swap.keep (S := fun _ => False) ((Keep.of_below HG.out (fun _ => False)).alloc (.cells #[.int .u64 (x.get 3 (k : Int) 0)] 26)) (fun _ _ _ h => h)) rfl (by have h := cell_of_block (heap_alloc_new wg (.cells #[.int .u64 (x.get 3 (k : Int) 0)] 26)) 0; exact h) (by rw [srow_len]; omega) (by have := HZ2.out; have := HG.out.size; simp; omega) ?_
          intro nv wq hT' hK'
          obtain ⟨A9, n9, c9, rfl⟩ : ∃ A n c, nv = .slice A n c := (by obtain ⟨A, c, e, _, _⟩ := hT'.one.form; exact ⟨_, _, _, e⟩)
          have hP' : wq.heap[w.heap.size + 1]? = some (.cells #[v2, u2] 40) := hK'.at_ ((Lib.alloc_old wg _ _ hltg).trans hpg) (by omega)
          have hR' : wq.heap[w.heap.size]? = some (.cells #[.slice none 0 0, .slice none 0 0] 40) := hK'.at_ ((Lib.alloc_old wg _ _ (by omega)).trans ((HG.out.block _ (by omega)).trans HR2.out)) (by omega)
          have hB' : Below w.heap.size w wq := ((HB2.out.trans (HG.out.mono HB2.out.size)).alloc (by omega) (.cells #[.int .u64 (x.get 3 (k : Int) 0)] 26)).trans (hK'.below (B := w.heap.size) (by simp; omega) (fun q hq => by omega))
          have hZ' : w.heap.size + 2 ≤ wq.heap.size := by have := hK'.size; simp at this; omega
          have p0 := cell_of_block hP' 0
          have p1 := cell_of_block hP' 1
          have pf0 := frozen_of_block hP' 0
          have pf1 := frozen_of_block hP' 1
          simp only [List.getElem?_toArray, List.getElem?_cons_succ, List.getElem?_cons_zero] at p0 p1
          refine hK _ _ ?_
          clear hK K
          try simp only [Act.put, List.setIfInBounds_toArray, List.set_cons_zero, List.set_cons_succ]
          refine wpAny_take (i := 7) (oi := ?oi34) (v := ?v34) ?hi34 (by kernel_rfl) (by kernel_rfl) (by kernel_rfl) ?hq34 (Or.inl ⟨?hw34, ?hy34⟩) ?rest34
          case hi34 => simp only [List.getElem?_toArray, List.getElem?_cons_succ, List.getElem?_cons_zero]; rfl
          case hq34 => exact fun _ _ _ h => h
          case hw34 => kernel_rfl
          case hy34 => (intro w; go_simp; try with_reducible rfl)
          try simp only [Act.put, List.setIfInBounds_toArray, List.set_cons_zero, List.set_cons_succ]
          refine wpAny_ready (rs := [8]) (by kernel_rfl) (by simp) ?_
          refine AllReady.cons (o := ?o35) ?ho35 (fun K hK => ?st35) ?more35
          case ho35 => simp only [List.getElem?_toArray, List.getElem?_cons_succ, List.getElem?_cons_zero]; rfl
          go_simp
          refine hK _ _ ?_
          clear hK K
          try simp only [Act.put, List.setIfInBounds_toArray, List.set_cons_zero, List.set_cons_succ]
          refine wpAny_done (by kernel_rfl) ?_ _
          have HP3 : Hid ((wq.setCell ⟨w.heap.size + 1, 1, none⟩ (.slice A9 n9 c9)).heap[w.heap.size + 1]? = some (.cells #[v2, (Value.slice A9 n9 c9)] 40)) := by
            have h := block_setCell hP' 1 (.slice A9 n9 c9)
            exact h
          have HR3 : Hid ((wq.setCell ⟨w.heap.size + 1, 1, none⟩ (.slice A9 n9 c9)).heap[w.heap.size]? = some (.cells #[.slice none 0 0, .slice none 0 0] 40)) := (Below.heap_setCell wq _ _ _ (by dsimp only; omega)).trans hR'
          have HB3 : Hid (Below w.heap.size w (wq.setCell ⟨w.heap.size + 1, 1, none⟩ (.slice A9 n9 c9))) := hB'.setCell (p := ⟨w.heap.size + 1, 1, none⟩) (by simp) _
          have HZ3 : Hid (w.heap.size + 2 ≤ (wq.setCell ⟨w.heap.size + 1, 1, none⟩ (.slice A9 n9 c9)).heap.size) := by unfold Hid; simp [World.setCell]; omega
          have HT3 : Hid (TwoRows (wq.setCell ⟨w.heap.size + 1, 1, none⟩ (.slice A9 n9 c9)) (w.heap.size + 2) v2 (Value.slice A9 n9 c9) (srow (fun i => x.get 2 i 0) k ++ [x.get 2 (k : Int) 0]) (srow (fun i => x.get 3 i 0) k ++ [x.get 3 (k : Int) 0])) := (hT'.keep (S := fun y => y = w.heap.size + 1) ((Keep.refl (fun y => y = w.heap.size + 1) wq).setCell (p := ⟨w.heap.size + 1, 1, none⟩) (Or.inl rfl) (.slice A9 n9 c9)) (fun g h1 _ h2 => by omega)).swap
          generalize (wq.setCell ⟨w.heap.size + 1, 1, none⟩ (.slice A9 n9 c9)) = wr3 at *
          obtain ⟨v3, hv3⟩ : ∃ v, v = v2 := ⟨_, rfl⟩
          obtain ⟨u3, hu3⟩ : ∃ u, u = (Value.slice A9 n9 c9) := ⟨_, rfl⟩
          rw [← hv3, ← hu3] at HP3 HT3
          clear hv3 hu3 hT' hK' hP' hR' hB' hZ' p0 p1 pf0 pf1
          revert HP3 HR3 HB3 HZ3 HT3
          generalize wg.heap.size = gz
          exact tail wr3 v3 u3 A9 n9 c9 gz
          exact AllReady.nil
          exact AllReady.nil
          exact AllReady.nil
          refine AllReady.cons (o := ?o36) ?ho36 (fun K hK => ?st36) ?more36
          case ho36 => simp only [List.getElem?_toArray, List.getElem?_cons_succ, List.getElem?_cons_zero]; rfl
          go_simp
          refine hK _ _ ?_
          clear hK K
          try simp only [Act.put, List.setIfInBounds_toArray, List.set_cons_zero, List.set_cons_succ]
          refine wpAny_ready (rs := [1]) (by kernel_rfl) (by simp) ?_
          refine AllReady.cons (o := ?o37) ?ho37 (fun K hK => ?st37) ?more37
          case ho37 => simp only [List.getElem?_toArray, List.getElem?_cons_succ, List.getElem?_cons_zero]; rfl
          go_simp
          refine hK _ _ ?_
          clear hK K
          try simp only [Act.put, List.setIfInBounds_toArray, List.set_cons_zero, List.set_cons_succ]
          refine wpAny_ready (rs := [6]) (by kernel_rfl) (by simp) ?_
          refine AllReady.cons (o := ?o38) ?ho38 (fun K hK => ?st38) ?more38
          case ho38 => simp only [List.getElem?_toArray, List.getElem?_cons_succ, List.getElem?_cons_zero]; rfl
          refine step_app_word rfl _ _ rfl (w.heap.size + 2) wg.heap.size u2 v2 _ _ (x.get 3 (k : Int) 0) rfl (HT2.out.swap.keep (S := fun _ => False) ((Keep.of_below HG.out (fun _ => False)).alloc (.cells #[.int .u64 (x.get 3 (k : Int) 0)] 26)) (fun _ _ _ h => h)) rfl (by have h := cell_of_block (heap_alloc_new wg (.cells #[.int .u64 (x.get 3 (k : Int) 0)] 26)) 0; exact h) (by rw [srow_len]; omega) (by have := HZ2.out; have := HG.out.size; simp; omega) ?_
          intro nv wq hT' hK'
          obtain ⟨A9, n9, c9, rfl⟩ : ∃ A n c, nv = .slice A n c := (by obtain ⟨A, c, e, _, _⟩ := hT'.one.form; exact ⟨_, _, _, e⟩)
          have hP' : wq.heap[w.heap.size + 1]? = some (.cells #[v2, u2] 40) := hK'.at_ ((Lib.alloc_old wg _ _ hltg).trans hpg) (by omega)
          have hR' : wq.heap[w.heap.size]? = some (.cells #[.slice none 0 0, .slice none 0 0] 40) := hK'.at_ ((Lib.alloc_old wg _ _ (by omega)).trans ((HG.out.block _ (by omega)).trans HR2.out)) (by omega)
          have hB' : Below w.heap.size w wq := ((HB2.out.trans (HG.out.mono HB2.out.size)).alloc (by omega) (.cells #[.int .u64 (x.get 3 (k : Int) 0)] 26)).trans (hK'.below (B := w.heap.size) (by simp; omega) (fun q hq => by omega))
          have hZ' : w.heap.size + 2 ≤ wq.heap.size := by have := hK'.size; simp at this; omega
          have p0 := cell_of_block hP' 0
          have p1 := cell_of_block hP' 1
          have pf0 := frozen_of_block hP' 0
          have pf1 := frozen_of_block hP' 1
          simp only [List.getElem?_toArray, List.getElem?_cons_succ, List.getElem?_cons_zero] at p0 p1
          refine hK _ _ ?_
          clear hK K
          try simp only [Act.put, List.setIfInBounds_toArray, List.set_cons_zero, List.set_cons_succ]
          refine wpAny_take (i := 7) (oi := ?oi39) (v := ?v39) ?hi39 (by kernel_rfl) (by kernel_rfl) (by kernel_rfl) ?hq39 (Or.inl ⟨?hw39, ?hy39⟩) ?rest39
          case hi39 => simp only [List.getElem?_toArray, List.getElem?_cons_succ, List.getElem?_cons_zero]; rfl
          case hq39 => exact fun _ _ _ h => h
          case hw39 => kernel_rfl
          case hy39 => (intro w; go_simp; try with_reducible rfl)
          try simp only [Act.put, List.setIfInBounds_toArray, List.set_cons_zero, List.set_cons_succ]
          refine wpAny_ready (rs := [8]) (by kernel_rfl) (by simp) ?_
          refine AllReady.cons (o := ?o40) ?ho40 (fun K hK => ?st40) ?more40
          case ho40 => simp only [List.getElem?_toArray, List.getElem?_cons_succ, List.getElem?_cons_zero]; rfl
          go_simp
          refine hK _ _ ?_
          clear hK K
          try simp only [Act.put, List.setIfInBounds_toArray, List.set_cons_zero, List.set_cons_succ]
          refine wpAny_done (by kernel_rfl) ?_ _
          have HP3 : Hid ((wq.setCell ⟨w.heap.size + 1, 1, none⟩ (.slice A9 n9 c9)).heap[w.heap.size + 1]? = some (.cells #[v2, (Value.slice A9 n9 c9)] 40)) := by
            have h := block_setCell hP' 1 (.slice A9 n9 c9)
            exact h
          have HR3 : Hid ((wq.setCell ⟨w.heap.size + 1, 1, none⟩ (.slice A9 n9 c9)).heap[w.heap.size]? = some (.cells #[.slice none 0 0, .slice none 0 0] 40)) := (Below.heap_setCell wq _ _ _ (by dsimp only; omega)).trans hR'
          have HB3 : Hid (Below w.heap.size w (wq.setCell ⟨w.heap.size + 1, 1, none⟩ (.slice A9 n9 c9))) := hB'.setCell (p := ⟨w.heap.size + 1, 1, none⟩) (by simp) _
          have HZ3 : Hid (w.heap.size + 2 ≤ (wq.setCell ⟨w.heap.size + 1, 1, none⟩ (.slice A9 n9 c9)).heap.size) := by unfold Hid; simp [World.setCell]; omega
          have HT3 : Hid (TwoRows (wq.setCell ⟨w.heap.size + 1, 1, none⟩ (.slice A9 n9 c9)) (w.heap.size + 2) v2 (Value.slice A9 n9 c9) (srow (fun i => x.get 2 i 0) k ++ [x.get 2 (k : Int) 0]) (srow (fun i => x.get 3 i 0) k ++ [x.get 3 (k : Int) 0])) := (hT'.keep (S := fun y => y = w.heap.size + 1) ((Keep.refl (fun y => y = w.heap.size + 1) wq).setCell (p := ⟨w.heap.size + 1, 1, none⟩) (Or.inl rfl) (.slice A9 n9 c9)) (fun g h1 _ h2 => by omega)).swap
          generalize (wq.setCell ⟨w.heap.size + 1, 1, none⟩ (.slice A9 n9 c9)) = wr3 at *
          obtain ⟨v3, hv3⟩ : ∃ v, v = v2 := ⟨_, rfl⟩
          obtain ⟨u3, hu3⟩ : ∃ u, u = (Value.slice A9 n9 c9) := ⟨_, rfl⟩
          rw [← hv3, ← hu3] at HP3 HT3
          clear hv3 hu3 hT' hK' hP' hR' hB' hZ' p0 p1 pf0 pf1
          revert HP3 HR3 HB3 HZ3 HT3
          generalize wg.heap.size = gz
          exact tail wr3 v3 u3 A9 n9 c9 gz
          exact AllReady.nil
          exact AllReady.nil
          exact AllReady.nil
          exact AllReady.nil
          exact AllReady.nil
        case tl2 =>
          intro wr3 v3 u3 A9 n9 c9 gz HR3 HB3 HZ3 HT3 HP3
          clear p20 p21 hlt2 HP2 HR2 HB2 HZ2 HT2
          have wk : IntKind.i64.wrap ((k : Int) + 1) = ((k + 1 : Nat) : Int) := by rw [IntWalk.i64_in _ (by have := HKN.out; omega)]; omega
          go_wp2_with fail
          go_roundw
          case rel => exact ⟨k + 1, rfl, (by have := HKN.out; omega), HB3, HZ3, HR3, v3, u3, HP3, by rw [srow_next, srow_next]; exact HT3⟩
          case measure => have := HKN.out; simp only [leftTo]; omega
end Go.Proofs.YtipoklnoknkfhaaDoor

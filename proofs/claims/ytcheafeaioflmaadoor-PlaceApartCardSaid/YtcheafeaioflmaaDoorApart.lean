/- The walk of the law PlaceApart. -/
import Derived.Test.YtcheafeaioflmaaDoorNamesAny
import Derived.Test.YtcheafeaioflmaaDoorParts
import Derived.Test.YtcheafeaioflmaaDoorIntArr
import Derived.Test.YtcheafeaioflmaaDoorStrEq
namespace Go.Proofs.YtcheafeaioflmaaDoor
open Go Go.RowKit
set_option linter.unusedSimpArgs false
set_option linter.unusedVariables false

theorem info_int9 : (Tryd.prog.info? 3).map (fun i => (i.zero, i.size, i.bytes)) = some (some (.int .i64 0), 1, 8) := by kernel_rfl
theorem made_int (n : Nat) : madeCells #[.int .i64 0] n = ((List.replicate n (0 : Int)).map (Value.int .i64)).toArray := by
  unfold madeCells
  have : ∀ x : Nat, [Value.int IntKind.i64 0][x % 1]?.getD default = Value.int IntKind.i64 0 := fun x => by rw [Nat.mod_one]; rfl
  simp [this]
  apply Array.ext
  · simp
  · intro i h1 h2
    simp
theorem make_ints (w : World) (n : Nat) (hn : n ≤ 100000) :
    (Instr.makeSlice 77 (.int .i64 (n : Int)) (.int .i64 (n : Int))).run Tryd.prog w = .ok (.slice (some ⟨w.heap.size, 0, none⟩) n n) (w.alloc (.cells ((List.replicate n (0 : Int)).map (Value.int .i64)).toArray 3)) := by
  have hi : ∃ i, Tryd.prog.info? 3 = some i ∧ i.zero = some (.int .i64 0) ∧ i.size = 1 ∧ i.bytes = 8 := by
    have := info_int9
    cases hh : Tryd.prog.info? 3 with
    | none => rw [hh] at this; cases this
    | some i =>
      rw [hh] at this
      simp at this
      exact ⟨i, rfl, this⟩
  obtain ⟨i0, hi0, hz0, hz1, hz2⟩ := hi
  have h := run_make_rowN (P := Tryd.prog) 77 3 i0 _ Tryd.underlying77 hi0 hz0 .i64 .i64 n n (Nat.le_refl _) (by rw [hz2]; omega) (by omega) w
  rw [h, hz1, ← made_int]
  simp [Value.cells]
/-- what stands while marks are set -/
structure ASt (c : Cfg) (B M nb sb rb N : Nat) (w : World) (xs : List Int) : Prop where
  b : w.heap[B]? = some c.obj
  m : w.heap[M]? = some c.mobj
  n : w.heap[nb]? = some (.cells #[.int .i64 (N : Int)] 3)
  s : w.heap[sb]? = some (.cells #[.slice (some ⟨rb, 0, none⟩) N N] 77)
  r : IntArr 3 w rb xs
  l : xs.length = N
  d : B ≠ rb ∧ M ≠ rb ∧ nb ≠ rb ∧ sb ≠ rb
theorem ASt.below {c : Cfg} {B M nb sb rb N : Nat} {w w' : World} {xs : List Int} (h : ASt c B M nb sb rb N w xs) (hb : Below w.heap.size w w') : ASt c B M nb sb rb N w' xs :=
  ⟨(hb.block _ (block_lt h.b)).trans h.b, (hb.block _ (block_lt h.m)).trans h.m, (hb.block _ (block_lt h.n)).trans h.n, (hb.block _ (block_lt h.s)).trans h.s, h.r.below h.r.lt hb, h.l, h.d⟩
theorem ASt.mark {c : Cfg} {B M nb sb rb N : Nat} {w w' : World} {xs ys : List Int} (h : ASt c B M nb sb rb N w xs) (hk : Keep (· = rb) w w') (hr : IntArr 3 w' rb ys) (hl : ys.length = N) : ASt c B M nb sb rb N w' ys :=
  ⟨(hk.block _ (block_lt h.b) h.d.1).trans h.b, (hk.block _ (block_lt h.m) h.d.2.1).trans h.m, (hk.block _ (block_lt h.n) h.d.2.2.1).trans h.n, (hk.block _ (block_lt h.s) h.d.2.2.2).trans h.s, hr, hl, h.d⟩
set_option maxHeartbeats 16000000 in
set_option maxRecDepth 100000 in
theorem mark_any (w : World) (c : Cfg) (B M nb sb rb N : Nat) (xs : List Int) (p : Nat) (h : ASt c B M nb sb rb N w xs) (h5 : 5 ≤ p) (hN : p < N) (hN2 : N ≤ 100000) (hb : ∀ x ∈ xs, -1000 ≤ x ∧ x ≤ 1000) :
    Calls Tryd.prog 50 #[.int .i64 (p : Int), .pointer (some ⟨nb, 0, none⟩), .pointer (some ⟨sb, 0, none⟩)] w fun e w' => e = .returned (.bool true) ∧ ASt c B M nb sb rb N w' (xs.set p (xs.getD p 0 + 1)) ∧ Keep (· = rb) w w' := by
  have H := Lib.hid h
  have n0 : w.cell? ⟨nb, 0, none⟩ = some (.int .i64 (N : Int)) := cell_of_block h.n 0
  have s0 : w.cell? ⟨sb, 0, none⟩ = some (.slice (some ⟨rb, 0, none⟩) N N) := cell_of_block h.s 0
  have r0 := h.r.cell (k := p) (by rw [h.l]; exact hN)
  have f0 : w.frozen? ⟨rb, p, none⟩ = false := frozen_of_block h.r p
  have hbx : -1000 ≤ xs.getD p 0 ∧ xs.getD p 0 ≤ 1000 := hb _ (by rw [List.getD_eq_getElem?_getD, List.getElem?_eq_getElem (by rw [h.l]; exact hN)]; exact List.getElem_mem _)
  have j1 : decide ((p : Int) < 5) = false := by simp; omega
  have j2 : decide ((N : Int) ≤ (p : Int)) = false := by simp; omega
  have j3 : ((p : Nat) : Int) < ((N : Nat) : Int) := by omega
  have j4 : (5 : Int) ≤ (p : Int) := by omega
  have j5 : (0 : Int) ≤ (p : Int) := by omega
  have s1 : IntKind.i64.wrap (xs.getD p 0 + 1) = xs.getD p 0 + 1 := IntWalk.i64_in _ (by omega)
  have hs1 := h.r.lt
  generalize hv : xs.getD p 0 = v at *
  have HV := Lib.hid hv
  clear h hb hv
  go_enter Tryd.func50, Tryd.ntmps50
  go_wp2_with fail
  go_ret
  have hr : IntArr 3 (w.setCell ⟨rb, p, none⟩ (.int .i64 (v + 1))) rb (xs.set p (v + 1)) := H.out.r.put p (v + 1)
  have hk : Keep (· = rb) w (w.setCell ⟨rb, p, none⟩ (.int .i64 (v + 1))) := (Keep.refl (· = rb) w).setCell (p := ⟨rb, p, none⟩) (Or.inl rfl) _
  exact ⟨rfl, H.out.mark hk hr (by simp [H.out.l]), hk⟩
/-! ### what is marked -/
def seenL (N : Nat) (f : Nat → Int) : List Int := (List.range N).map f
theorem seenL_len (N : Nat) (f : Nat → Int) : (seenL N f).length = N := by simp [seenL]
theorem seenL_at (N : Nat) (f : Nat → Int) (p : Nat) (h : p < N) : (seenL N f).getD p 0 = f p := by simp [seenL, h]
theorem seenL_set {N : Nat} {f g : Nat → Int} {p : Nat} (h : p < N) (hn : ∀ k, k ≠ p → g k = f k) (hp : g p = f p + 1) : (seenL N f).set p ((seenL N f).getD p 0 + 1) = seenL N g := by
  rw [seenL_at N f p h]
  apply List.ext_getElem?
  intro k
  rw [List.getElem?_set]
  by_cases e : p = k
  · subst e
    simp [seenL, h, hp]
  · rw [if_neg e]
    by_cases hk : k < N
    · simp [seenL, hk, hn k (fun x => e x.symm)]
    · simp [seenL, hk]
def sn (b1 b2 b3 i g q z k : Nat) : Int := if (5 ≤ k ∧ k < 5 + i) ∨ (b1 ≤ k ∧ k < b1 + g) ∨ (b2 ≤ k ∧ k < b2 + q) ∨ (b3 ≤ k ∧ k < b3 + z) then 1 else 0
theorem sn_bd (N b1 b2 b3 i g q z : Nat) : ∀ x ∈ seenL N (sn b1 b2 b3 i g q z), -1000 ≤ x ∧ x ≤ 1000 := by
  intro x hx
  obtain ⟨k, _, rfl⟩ := List.mem_map.1 hx
  unfold sn
  split <;> omega
theorem sn_in {N b1 b2 b3 i q : Nat} (h0 : 5 + i < b1) (h1 : b1 ≤ b2) (h2 : b2 ≤ b3) (h3 : b3 ≤ N) : (seenL N (sn b1 b2 b3 i 0 q 0)).set (5 + i) ((seenL N (sn b1 b2 b3 i 0 q 0)).getD (5 + i) 0 + 1) = seenL N (sn b1 b2 b3 (i + 1) 0 q 0) := by
  refine seenL_set (by omega) (fun k hk => ?_) ?_
  · unfold sn
    congr 1
    apply propext
    omega
  · unfold sn
    rw [if_pos (by omega), if_neg (by omega)]
    rfl
theorem sn_reg {N b1 b2 b3 i q : Nat} (h0 : 5 + i ≤ b1) (h1 : b1 ≤ b2) (h2 : b2 + q < b3) (h3 : b3 ≤ N) : (seenL N (sn b1 b2 b3 i 0 q 0)).set (b2 + q) ((seenL N (sn b1 b2 b3 i 0 q 0)).getD (b2 + q) 0 + 1) = seenL N (sn b1 b2 b3 i 0 (q + 1) 0) := by
  refine seenL_set (by omega) (fun k hk => ?_) ?_
  · unfold sn
    congr 1
    apply propext
    omega
  · unfold sn
    rw [if_pos (by omega), if_neg (by omega)]
    rfl
theorem sn_glob {N b1 b2 b3 i g q : Nat} (h0 : 5 + i ≤ b1) (h1 : b1 + g < b2) (h2 : b2 + q ≤ b3) (h3 : b3 ≤ N) : (seenL N (sn b1 b2 b3 i g q 0)).set (b1 + g) ((seenL N (sn b1 b2 b3 i g q 0)).getD (b1 + g) 0 + 1) = seenL N (sn b1 b2 b3 i (g + 1) q 0) := by
  refine seenL_set (by omega) (fun k hk => ?_) ?_
  · unfold sn
    congr 1
    apply propext
    omega
  · unfold sn
    rw [if_pos (by omega), if_neg (by omega)]
    rfl
theorem sn_cell {N b1 b2 b3 i g q z : Nat} (h0 : 5 + i ≤ b1) (h1 : b1 + g ≤ b2) (h2 : b2 + q ≤ b3) (h3 : b3 + z < N) : (seenL N (sn b1 b2 b3 i g q z)).set (b3 + z) ((seenL N (sn b1 b2 b3 i g q z)).getD (b3 + z) 0 + 1) = seenL N (sn b1 b2 b3 i g q (z + 1)) := by
  refine seenL_set (by omega) (fun k hk => ?_) ?_
  · unfold sn
    congr 1
    apply propext
    omega
  · unfold sn
    rw [if_pos (by omega), if_neg (by omega)]
    rfl
theorem sn_all {N b1 b2 b3 i g q z k : Nat} (h0 : 5 + i = b1) (h1 : b1 + g = b2) (h2 : b2 + q = b3) (h3 : b3 + z = N) (hk : k < N) : sn b1 b2 b3 i g q z k = if k < 5 then 0 else 1 := by
  unfold sn
  by_cases h5 : k < 5
  · rw [if_pos h5, if_neg (by omega)]
  · rw [if_neg h5, if_pos (by omega)]
/-! ### names -/
theorem names_apart (c : Cfg) (ok : c.ok = true) {k j : Int} (hk : 0 ≤ k ∧ k < c.words) (hj : 0 ≤ j ∧ j < c.words) (h : c.name k = c.name j) : k = j := by
  rw [c.name_in k ok hk, c.name_in j ok hj] at h
  have h2 := congrArg (fun b : ByteArray => b.data.toList) h
  simp only [name_toks] at h2
  have ok1 := c.spot_ok ok k hk.1
  have ok2 := c.spot_ok ok j hj.1
  have h3 := join_inj (toks_ne _) (toks_ne _) (toks_nosp ok1) (toks_nosp ok2) h2
  exact c.spot_inj ok hk.1 hj.1 (toks_inj ok1 ok2 h3)
theorem name_some (c : Cfg) (ok : c.ok = true) {k : Int} (hk : 0 ≤ k ∧ k < c.words) : c.name k ≠ ⟨#[]⟩ := by
  intro h
  rw [c.name_in k ok hk] at h
  have h2 := congrArg (fun b : ByteArray => b.data.toList) h
  simp only [name_toks] at h2
  have ok1 := c.spot_ok ok k hk.1
  have h3 : (c.spot k).toks = [[]] := join_inj (us := [[]]) (toks_ne _) (by simp) (toks_nosp ok1) (by intro t ht; simp at ht; subst ht; intro x hx; cases hx) (by rw [h2]; rfl)
  unfold Spot.toks at h3
  split at h3
  · rename_i h0
    have h1 := (ok1.once h0).1
    have h4 := ok1.a
    have : ∀ j, j < 5 → onceNames.getD j [] ≠ [] := by decide
    exact this _ (by omega) (List.cons.inj h3).1
  · split at h3
    · exact absurd (congrArg List.length h3) (by simp)
    · exact absurd (congrArg List.length h3) (by simp)
/-! ### where things lie -/
structure Geo (c : Cfg) (n m r g mr b1 b2 b3 N : Nat) : Prop where
  ok : c.ok = true
  en : c.cells = n
  em : c.muts = m
  er : c.regs = r
  eg : c.globs = g
  emr : mr = m * r
  ew : c.words = N
  nums : b1 = 5 + m ∧ b2 = b1 + g ∧ b3 = b2 + mr ∧ N = b3 + 3 * n ∧ N ≤ 100000 ∧ 1 ≤ m ∧ 1 ≤ r ∧ m ≤ 63 ∧ r ≤ 64 ∧ g ≤ 64 ∧ mr ≤ 4032 ∧ n ≤ 4096
theorem geo_of (c : Cfg) (ok : c.ok = true) : ∃ n m r g mr b1 b2 b3 N, Geo c n m r g mr b1 b2 b3 N := by
  obtain ⟨n, m, r, g, N, en, em, er, eg, eN, ew⟩ := c.nats ok
  have ho := c.ok_iff.1 ok
  rw [en, em, er, eg] at ho
  have hmr : m * r ≤ 63 * 64 := Nat.mul_le_mul (by omega) (by omega)
  exact ⟨n, m, r, g, m * r, 5 + m, 5 + m + g, 5 + m + g + m * r, N, ok, en, em, er, eg, rfl, ew, rfl, rfl, rfl, by omega, by omega, by omega, by omega, by omega, by omega, by omega, by omega, by omega⟩
theorem q_lt {i m x r : Nat} (hi : i < m) (hx : x < r) : i * r + x < m * r := by
  have h1 : (i + 1) * r ≤ m * r := Nat.mul_le_mul_right r hi
  rw [Nat.add_mul] at h1
  omega
section
variable {c : Cfg} {n m r g mr b1 b2 b3 N : Nat}
theorem Geo.in_ (G : Geo c n m r g mr b1 b2 b3 N) {i : Nat} (h : i < m) : c.at_ 5 i c.muts 1 = ((5 + i : Nat) : Int) := by
  have e := G.em
  have := G.nums
  rw [c.at_ok G.ok _ _ _ _ (by omega) (by omega) (by omega) (by omega) (by omega), if_pos (by omega)]
  omega
theorem Geo.glob (G : Geo c n m r g mr b1 b2 b3 N) {i : Nat} (h : i < g) : c.at_ c.g0 i c.globs 1 = ((b1 + i : Nat) : Int) := by
  have e := G.em
  have e2 := G.eg
  have := G.nums
  rw [(c.begin_ G.ok).1, c.at_ok G.ok _ _ _ _ (by omega) (by omega) (by omega) (by omega) (by omega), if_pos (by omega)]
  omega
theorem Geo.reg (G : Geo c n m r g mr b1 b2 b3 N) {i x q : Nat} (h : i < m) (hx : x < r) (hq : q = i * r + x) : c.reg_ i x = ((b2 + q : Nat) : Int) := by
  have e := G.em
  have e2 := G.eg
  have e3 := G.er
  have := G.nums
  have hc : ((i * r : Nat) : Int) = (i : Int) * (r : Int) := Int.natCast_mul i r
  rw [c.reg_ok G.ok, e3, if_pos (by omega), ← hc]
  omega
theorem Geo.c0 (G : Geo c n m r g mr b1 b2 b3 N) : c.c0 = (b3 : Int) := by
  have e := G.em
  have e2 := G.eg
  have e3 := G.er
  have e4 := G.emr
  have := G.nums
  have hc : ((m * r : Nat) : Int) = (m : Int) * (r : Int) := Int.natCast_mul m r
  rw [(c.begin_ G.ok).2.2, e, e2, e3, ← hc]
  omega
theorem Geo.cell (G : Geo c n m r g mr b1 b2 b3 N) {i : Nat} (h : i < n) (d : Int) (d0 : 0 ≤ d) (d2 : d ≤ 2) : c.at_ (wrap64 (c.c0 + d)) i c.cells 3 = ((b3 + (3 * i + d.toNat) : Nat) : Int) := by
  have e := G.en
  have := G.nums
  rw [G.c0, wrap64_id (by omega) (by omega), c.at_ok G.ok _ _ _ _ (by omega) (by omega) (by omega) (by omega) (by omega), if_pos (by omega)]
  omega
theorem Geo.car (G : Geo c n m r g mr b1 b2 b3 N) {i : Nat} (h : i < n) : c.at_ c.c0 i c.cells 3 = ((b3 + 3 * i : Nat) : Int) := by
  have e := G.en
  have := G.nums
  rw [G.c0, c.at_ok G.ok _ _ _ _ (by omega) (by omega) (by omega) (by omega) (by omega), if_pos (by omega)]
  omega
end
theorem sn_zero (N b1 b2 b3 : Nat) : List.replicate N (0 : Int) = seenL N (sn b1 b2 b3 0 0 0 0) := by
  apply List.ext_getElem?
  intro k
  by_cases hk : k < N
  · simp [seenL, hk, sn]
  · simp [seenL, hk]
theorem three9 (w : World) (o p q : Obj) : (((w.alloc o).alloc p).alloc q).heap[w.heap.size]? = some o ∧ (((w.alloc o).alloc p).alloc q).heap[w.heap.size + 1]? = some p ∧ (((w.alloc o).alloc p).alloc q).heap[w.heap.size + 1 + 1]? = some q := by
  refine ⟨?_, ?_, ?_⟩
  · rw [heap_alloc_old _ _ (by simp; omega), heap_alloc_old _ _ (by simp)]
    exact heap_alloc_new w o
  · rw [heap_alloc_old _ _ (by simp)]
    have := heap_alloc_new (w.alloc o) p
    simpa using this
  · have := heap_alloc_new ((w.alloc o).alloc p) q
    simpa using this
set_option maxHeartbeats 100000000 in
set_option maxRecDepth 100000 in
theorem papart_walk (w : World) (c : Cfg) (ht : Tens w) :
    Calls Tryd.prog 12 #[c.v] w fun e w' => e = .returned (.bool true) ∧ Below w.heap.size w w' := by
  have HT := Lib.hid ht
  clear ht
  have HB0 : Hid (Below w.heap.size w (w.alloc c.obj)) := (Below.refl _ _).alloc (Nat.le_refl _) _
  have HC0 := Lib.hid (heap_alloc_new w c.obj)
  go_enter Tryd.func12, Tryd.ntmps12
  go_wp2_with fail
  refine (place_awake _).mono ?_
  rintro e w1 ⟨rfl, hb⟩
  have HB1 : Hid (Below w.heap.size w w1) := HB0.out.trans (hb.mono HB0.out.size)
  have HC1 : Hid (w1.heap[w.heap.size]? = some c.obj) := (hb.block _ (by simp)).trans HC0.out
  clear hb
  obtain ⟨k0, k1, k2, k3⟩ := Cfg.cells_at HC1.out
  have hs1 := block_lt HC1.out
  go_wp2_with fail
  refine (pnew_any _ c).mono ?_
  rintro e w2 ⟨rfl, hb⟩
  have HB2 : Hid (Below w.heap.size w w2) := HB1.out.trans (hb.mono HB1.out.size)
  have HC2 : Hid (w2.heap[w.heap.size]? = some c.obj) := (hb.block _ hs1).trans HC1.out
  clear hb k0 k1 k2 k3
  have hs2 := block_lt HC2.out
  by_cases ok : c.ok = true
  · have HOK := Lib.hid ok
    have HE : Hid (c.err = 0) := by unfold Hid Cfg.err; rw [if_pos ok]
    have HM : Hid (c.map = c) := by unfold Hid Cfg.map; rw [if_pos ok]
    rw [HE.out, HM.out]
    have HMA : Hid ((w2.alloc c.mobj).heap[w2.heap.size]? = some c.mobj) := heap_alloc_new w2 _
    have HCA : Hid ((w2.alloc c.mobj).heap[w.heap.size]? = some c.obj) := (Below.heap_alloc _ _ _ hs2).trans HC2.out
    have HBA : Hid (Below w.heap.size w (w2.alloc c.mobj)) := HB2.out.alloc HB2.out.size _
    obtain ⟨k0, k1, k2, k3⟩ := Cfg.cells_at HCA.out
    by_cases h30 : 30 < c.cells
    · have d30 : decide ((30 : Int) < c.cells) = true := by simpa using h30
      clear ok h30
      go_wp2_with fail
      go_ret
      exact ⟨rfl, HBA.out⟩
    have d30 : decide ((30 : Int) < c.cells) = false := by simpa using h30
    obtain ⟨n, m, r, g, mr, b1, b2, b3, N, hG⟩ := geo_of c ok
    have HG := Lib.hid hG
    have HSZ : Hid (∀ W, Calls Tryd.prog 49 #[c.v] W fun e w' => e = .returned (.int .i64 (N : Int)) ∧ Below W.heap.size W w') := fun W => by have h := size_any W c; rw [hG.ew] at h; exact h
    have hN5 := hG.nums.2.2.2.2.1
    have hmB : m ≤ 63 := hG.nums.2.2.2.2.2.2.2.1
    have hrB : r ≤ 64 := hG.nums.2.2.2.2.2.2.2.2.1
    have hgB : g ≤ 64 := hG.nums.2.2.2.2.2.2.2.2.2.1
    have hnB : n ≤ 4096 := hG.nums.2.2.2.2.2.2.2.2.2.2.2
    clear ok h30 hG
    go_wp2_with fail
    refine (HSZ.out _).mono ?_
    rintro e w3 ⟨rfl, hb⟩
    have HB3 : Hid (Below w.heap.size w w3) := HBA.out.trans (hb.mono HBA.out.size)
    have HC3 : Hid (w3.heap[w.heap.size]? = some c.obj) := (hb.block _ (block_lt HCA.out)).trans HCA.out
    have HM3 : Hid (w3.heap[w2.heap.size]? = some c.mobj) := (hb.block _ (block_lt HMA.out)).trans HMA.out
    have mk := fun W => make_ints W N hN5
    have hs3 := block_lt HC3.out
    have hs4 := block_lt HM3.out
    have HWS : Hid (w.heap.size < w3.heap.size ∧ w2.heap.size < w3.heap.size ∧ w.heap.size < w2.heap.size) := ⟨hs3, hs4, hs2⟩
    clear hb k0 k1 k2 k3
    go_wp2_with fail
    clear mk
    obtain ⟨W5, hW5⟩ : ∃ W, W = (((w3.alloc (.cells #[.int .i64 (N : Int)] 3)).alloc (.cells (Array.replicate N (.int .i64 0)) 3)).alloc (.cells #[.slice (some ⟨w3.heap.size + 1, 0, none⟩) N N] 77)) := ⟨_, rfl⟩
    rw [← hW5]
    have HB5 : Hid (Below w.heap.size w W5) := by rw [hW5]; exact ((HB3.out.alloc HB3.out.size _).alloc (by have := HB3.out.size; simp; omega) _).alloc (by have := HB3.out.size; simp; omega) _
    have HS0 : Hid (ASt c w.heap.size w2.heap.size w3.heap.size (w3.heap.size + 1 + 1) (w3.heap.size + 1) N W5 (seenL N (sn b1 b2 b3 0 0 0 0))) := by
      obtain ⟨t0, t1, t2⟩ := three9 w3 (.cells #[.int .i64 (N : Int)] 3) (.cells (Array.replicate N (.int .i64 0)) 3) (.cells #[.slice (some ⟨w3.heap.size + 1, 0, none⟩) N N] 77)
      rw [← hW5] at t0 t1 t2
      have hold : ∀ j, j < w3.heap.size → W5.heap[j]? = w3.heap[j]? := fun j hj => by rw [hW5, heap_alloc_old _ _ (by simp; omega), heap_alloc_old _ _ (by simp; omega), heap_alloc_old _ _ hj]
      refine ⟨(hold _ hs3).trans HC3.out, (hold _ hs4).trans HM3.out, t0, t2, ?_, seenL_len _ _, by omega, by omega, by omega, by omega⟩
      unfold IntArr
      rw [t1, ← sn_zero]
      simp
    clear hW5 hs3 hs4 hs2
    go_loopw [8, 9, 10] (fun gv iv _ wr => ∃ i q : Nat, i ≤ m ∧ Hid (q = i * r) ∧ iv = .int .i64 i ∧ gv = .bool true ∧ Hid (ASt c w.heap.size w2.heap.size w3.heap.size (w3.heap.size + 1 + 1) (w3.heap.size + 1) N wr (seenL N (sn b1 b2 b3 (i) (0) (q) (0)))) ∧ Hid (Below w.heap.size w wr)) (fun _ iv _ _ => m - (intOf iv).toNat)
    case atStart => exact ⟨0, 0, by omega, by unfold Hid; simp, rfl, rfl, HS0.out, HB5.out⟩
    case round =>
      obtain ⟨i, q, him, HQ, rfl, rfl, HS, HB⟩ := hrel
      obtain ⟨k0, k1, k2, k3⟩ := Cfg.cells_at HS.out.b
      obtain ⟨x0, x1, x2, x3⟩ := Cfg.mcells_at HS.out.m
      have hl0 := block_lt HS.out.b
      have hl1 := block_lt HS.out.m
      by_cases hlt : i < m
      · have i1 : ((i : Nat) : Int) < c.muts := by rw [HG.out.em]; omega
        have HIN : Hid (∀ W, Calls Tryd.prog 51 #[c.v, .int .i64 (i : Int)] W fun e w' => e = .returned (.int .i64 ((5 + i : Nat) : Int)) ∧ Below W.heap.size W w') := fun W => by have h := in_any W c i; rw [HG.out.in_ hlt] at h; exact h
        go_wp2_with fail
        refine (HIN.out _).mono ?_
        rintro e w5 ⟨rfl, hb⟩
        have HS5 := Lib.hid (HS.out.below hb)
        have HB5 : Hid (Below w.heap.size w w5) := HB.out.trans (hb.mono HB.out.size)
        clear hb
        go_wp2_with fail
        refine (mark_any _ c _ _ _ _ _ N _ (5 + i) HS5.out (by have := HG.out.nums; omega) (by have := HG.out.nums; omega) hN5 (sn_bd _ _ _ _ _ _ _ _)).mono ?_
        rintro e w6 ⟨rfl, hs6, hk6⟩
        rw [sn_in (by have := HG.out.nums; omega) (by have := HG.out.nums; omega) (by have := HG.out.nums; omega) (by have := HG.out.nums; omega)] at hs6
        have HS6 := Lib.hid hs6
        have HB6 : Hid (Below w.heap.size w w6) := HB5.out.trans (hk6.below HB5.out.size (fun k h => by have := HWS.out; omega))
        clear hs6 hk6
        clear k0 k1 k2 k3 x0 x1 x2 x3
        go_wp2_with fail
        go_loopw [8, 10] (fun gv rv wr => ∃ x q2 : Nat, x ≤ r ∧ Hid (q2 = i * r + x) ∧ rv = .int .i64 x ∧ gv = .bool true ∧ Hid (ASt c w.heap.size w2.heap.size w3.heap.size (w3.heap.size + 1 + 1) (w3.heap.size + 1) N wr (seenL N (sn b1 b2 b3 (i + 1) (0) (q2) (0)))) ∧ Hid (Below w.heap.size w wr)) (fun _ rv _ => r - (intOf rv).toNat)
        case atStart => exact ⟨0, q, by omega, by unfold Hid; rw [HQ.out]; simp, rfl, rfl, HS6.out, HB6.out⟩
        case round =>
          obtain ⟨x, q2, hxr, HQ2, rfl, rfl, HS', HB'⟩ := hrel
          obtain ⟨k0, k1, k2, k3⟩ := Cfg.cells_at HS'.out.b
          obtain ⟨x0, x1, x2, x3⟩ := Cfg.mcells_at HS'.out.m
          have hl0 := block_lt HS'.out.b
          have hl1 := block_lt HS'.out.m
          by_cases hlx : x < r
          · have i2 : ((x : Nat) : Int) < c.regs := by rw [HG.out.er]; omega
            have HQL : Hid (q2 < mr) := by unfold Hid; rw [HQ2.out, HG.out.emr]; exact q_lt hlt hlx
            have HRG : Hid (∀ W, Calls Tryd.prog 52 #[c.v, .int .i64 (i : Int), .int .i64 (x : Int)] W fun e w' => e = .returned (.int .i64 ((b2 + q2 : Nat) : Int)) ∧ Below W.heap.size W w') := fun W => by have h := reg_any W c i x; rw [HG.out.reg hlt hlx HQ2.out] at h; exact h
            go_wp2_with fail
            refine (HRG.out _).mono ?_
            rintro e w5r ⟨rfl, hb⟩
            have HS5r := Lib.hid (HS'.out.below hb)
            have HB5r : Hid (Below w.heap.size w w5r) := HB'.out.trans (hb.mono HB'.out.size)
            clear hb
            go_wp2_with fail
            refine (mark_any _ c _ _ _ _ _ N _ (b2 + q2) HS5r.out (by have := HG.out.nums; omega) (by have := HG.out.nums; have := HQL.out; omega) hN5 (sn_bd _ _ _ _ _ _ _ _)).mono ?_
            rintro e w6r ⟨rfl, hs6, hk6⟩
            rw [sn_reg (by have := HG.out.nums; omega) (by have := HG.out.nums; omega) (by have := HG.out.nums; have := HQL.out; omega) (by have := HG.out.nums; omega)] at hs6
            have HS6r := Lib.hid hs6
            have HB6r : Hid (Below w.heap.size w w6r) := HB5r.out.trans (hk6.below HB5r.out.size (fun k h => by have := HWS.out; omega))
            clear hs6 hk6
            clear k0 k1 k2 k3 x0 x1 x2 x3
            go_wp2_with fail
            go_roundw
            case rel => exact ⟨x + 1, q2 + 1, by omega, by unfold Hid; rw [HQ2.out]; omega, by go_num, rfl, HS6r.out, HB6r.out⟩
            case measure => simp [intOf]; omega
          · obtain rfl : x = r := by omega
            have i2 : ¬ ((x : Nat) : Int) < c.regs := by rw [HG.out.er]; omega
            go_wp2_with fail
            go_roundw
            case rel => exact ⟨i + 1, q2, by omega, by unfold Hid; rw [HQ2.out, Nat.add_mul]; omega, by go_num, rfl, HS'.out, HB'.out⟩
            case measure => simp [intOf]; omega
      · obtain rfl : i = m := by omega
        have HQM : Hid (q = mr) := by unfold Hid; rw [HQ.out, HG.out.emr]
        have i1 : ¬ ((i : Nat) : Int) < c.muts := by rw [HG.out.em]; omega
        go_wp2_with fail
        clear k0 k1 k2 k3 x0 x1 x2 x3 hlt him i1
        go_loopw [8, 11] (fun gv iv wr => ∃ j : Nat, j ≤ g ∧ iv = .int .i64 j ∧ gv = .bool true ∧ Hid (ASt c w.heap.size w2.heap.size w3.heap.size (w3.heap.size + 1 + 1) (w3.heap.size + 1) N wr (seenL N (sn b1 b2 b3 (i) (j) (q) (0)))) ∧ Hid (Below w.heap.size w wr)) (fun _ iv _ => g - (intOf iv).toNat)
        case atStart => exact ⟨0, by omega, rfl, rfl, HS.out, HB.out⟩
        case round =>
          obtain ⟨j, hjg, rfl, rfl, HS2, HB2'⟩ := hrel
          obtain ⟨k0, k1, k2, k3⟩ := Cfg.cells_at HS2.out.b
          obtain ⟨x0, x1, x2, x3⟩ := Cfg.mcells_at HS2.out.m
          have hl0 := block_lt HS2.out.b
          have hl1 := block_lt HS2.out.m
          by_cases hlj : j < g
          · have i1 : ((j : Nat) : Int) < c.globs := by rw [HG.out.eg]; omega
            have HGB : Hid (∀ W, Calls Tryd.prog 53 #[c.v, .int .i64 (j : Int)] W fun e w' => e = .returned (.int .i64 ((b1 + j : Nat) : Int)) ∧ Below W.heap.size W w') := fun W => by have h := glob_any W c j; rw [HG.out.glob hlj] at h; exact h
            go_wp2_with fail
            refine (HGB.out _).mono ?_
            rintro e w5g ⟨rfl, hb⟩
            have HS5g := Lib.hid (HS2.out.below hb)
            have HB5g : Hid (Below w.heap.size w w5g) := HB2'.out.trans (hb.mono HB2'.out.size)
            clear hb
            go_wp2_with fail
            refine (mark_any _ c _ _ _ _ _ N _ (b1 + j) HS5g.out (by have := HG.out.nums; have := HQM.out; omega) (by have := HG.out.nums; have := HQM.out; omega) hN5 (sn_bd _ _ _ _ _ _ _ _)).mono ?_
            rintro e w6g ⟨rfl, hs6, hk6⟩
            rw [sn_glob (by have := HG.out.nums; have := HQM.out; omega) (by have := HG.out.nums; have := HQM.out; omega) (by have := HG.out.nums; have := HQM.out; omega) (by have := HG.out.nums; have := HQM.out; omega)] at hs6
            have HS6g := Lib.hid hs6
            have HB6g : Hid (Below w.heap.size w w6g) := HB5g.out.trans (hk6.below HB5g.out.size (fun k h => by have := HWS.out; omega))
            clear hs6 hk6
            clear k0 k1 k2 k3 x0 x1 x2 x3
            go_wp2_with fail
            go_roundw
            case rel => exact ⟨j + 1, by omega, by go_num, rfl, HS6g.out, HB6g.out⟩
            case measure => simp [intOf]; omega
          · obtain rfl : j = g := by omega
            have i1 : ¬ ((j : Nat) : Int) < c.globs := by rw [HG.out.eg]; omega
            go_wp2_with fail
            clear k0 k1 k2 k3 x0 x1 x2 x3 hlj hjg i1
            go_loopw [8, 12] (fun gv iv wr => ∃ y : Nat, y ≤ n ∧ iv = .int .i64 y ∧ gv = .bool true ∧ Hid (ASt c w.heap.size w2.heap.size w3.heap.size (w3.heap.size + 1 + 1) (w3.heap.size + 1) N wr (seenL N (sn b1 b2 b3 (i) (j) (q) (3 * y)))) ∧ Hid (Below w.heap.size w wr)) (fun _ iv _ => n - (intOf iv).toNat)
            case atStart => exact ⟨0, by omega, rfl, rfl, HS2.out, HB2'.out⟩
            case round =>
              obtain ⟨y, hyn, rfl, rfl, HS3, HB3'⟩ := hrel
              obtain ⟨k0, k1, k2, k3⟩ := Cfg.cells_at HS3.out.b
              obtain ⟨x0, x1, x2, x3⟩ := Cfg.mcells_at HS3.out.m
              have hl0 := block_lt HS3.out.b
              have hl1 := block_lt HS3.out.m
              by_cases hly : y < n
              · have i1 : ((y : Nat) : Int) < c.cells := by rw [HG.out.en]; omega
                have HCR : Hid (∀ W, Calls Tryd.prog 54 #[c.v, .int .i64 (y : Int)] W fun e w' => e = .returned (.int .i64 ((b3 + 3 * y : Nat) : Int)) ∧ Below W.heap.size W w') := fun W => by have h := car_any W c y; rw [HG.out.car hly] at h; exact h
                have HCD : Hid (∀ W, Calls Tryd.prog 55 #[c.v, .int .i64 (y : Int)] W fun e w' => e = .returned (.int .i64 ((b3 + (3 * y + 1) : Nat) : Int)) ∧ Below W.heap.size W w') := fun W => by have h := cdr_any W c y; rw [HG.out.cell hly 1 (by decide) (by decide)] at h; exact h
                have HCO : Hid (∀ W, Calls Tryd.prog 56 #[c.v, .int .i64 (y : Int)] W fun e w' => e = .returned (.int .i64 ((b3 + (3 * y + 2) : Nat) : Int)) ∧ Below W.heap.size W w') := fun W => by have h := colour_any W c y; rw [HG.out.cell hly 2 (by decide) (by decide)] at h; exact h
                go_wp2_with fail
                refine (HCR.out _).mono ?_
                rintro e w5a ⟨rfl, hb⟩
                have HS5a := Lib.hid (HS3.out.below hb)
                have HB5a : Hid (Below w.heap.size w w5a) := HB3'.out.trans (hb.mono HB3'.out.size)
                clear hb
                go_wp2_with fail
                refine (mark_any _ c _ _ _ _ _ N _ (b3 + 3 * y) HS5a.out (by have := HG.out.nums; have := HQM.out; omega) (by have := HG.out.nums; have := HQM.out; omega) hN5 (sn_bd _ _ _ _ _ _ _ _)).mono ?_
                rintro e w6a ⟨rfl, hs6, hk6⟩
                rw [sn_cell (by have := HG.out.nums; have := HQM.out; omega) (by have := HG.out.nums; have := HQM.out; omega) (by have := HG.out.nums; have := HQM.out; omega) (by have := HG.out.nums; have := HQM.out; omega)] at hs6
                have HS6a := Lib.hid hs6
                have HB6a : Hid (Below w.heap.size w w6a) := HB5a.out.trans (hk6.below HB5a.out.size (fun k h => by have := HWS.out; omega))
                clear hs6 hk6
                clear k0 k1 k2 k3 x0 x1 x2 x3 hl0 hl1
                obtain ⟨k0, k1, k2, k3⟩ := Cfg.cells_at HS6a.out.b
                obtain ⟨x0, x1, x2, x3⟩ := Cfg.mcells_at HS6a.out.m
                have hl0 := block_lt HS6a.out.b
                have hl1 := block_lt HS6a.out.m
                go_wp2_with fail
                refine (HCD.out _).mono ?_
                rintro e w5b ⟨rfl, hb⟩
                have HS5b := Lib.hid (HS6a.out.below hb)
                have HB5b : Hid (Below w.heap.size w w5b) := HB6a.out.trans (hb.mono HB6a.out.size)
                clear hb
                go_wp2_with fail
                refine (mark_any _ c _ _ _ _ _ N _ (b3 + (3 * y + 1)) HS5b.out (by have := HG.out.nums; have := HQM.out; omega) (by have := HG.out.nums; have := HQM.out; omega) hN5 (sn_bd _ _ _ _ _ _ _ _)).mono ?_
                rintro e w6b ⟨rfl, hs6, hk6⟩
                rw [sn_cell (z := 3 * y + 1) (by have := HG.out.nums; have := HQM.out; omega) (by have := HG.out.nums; have := HQM.out; omega) (by have := HG.out.nums; have := HQM.out; omega) (by have := HG.out.nums; have := HQM.out; omega)] at hs6
                have HS6b := Lib.hid hs6
                have HB6b : Hid (Below w.heap.size w w6b) := HB5b.out.trans (hk6.below HB5b.out.size (fun k h => by have := HWS.out; omega))
                clear hs6 hk6
                clear k0 k1 k2 k3 x0 x1 x2 x3 hl0 hl1
                obtain ⟨k0, k1, k2, k3⟩ := Cfg.cells_at HS6b.out.b
                obtain ⟨x0, x1, x2, x3⟩ := Cfg.mcells_at HS6b.out.m
                have hl0 := block_lt HS6b.out.b
                have hl1 := block_lt HS6b.out.m
                go_wp2_with fail
                refine (HCO.out _).mono ?_
                rintro e w5d ⟨rfl, hb⟩
                have HS5d := Lib.hid (HS6b.out.below hb)
                have HB5d : Hid (Below w.heap.size w w5d) := HB6b.out.trans (hb.mono HB6b.out.size)
                clear hb
                go_wp2_with fail
                refine (mark_any _ c _ _ _ _ _ N _ (b3 + (3 * y + 2)) HS5d.out (by have := HG.out.nums; have := HQM.out; omega) (by have := HG.out.nums; have := HQM.out; omega) hN5 (sn_bd _ _ _ _ _ _ _ _)).mono ?_
                rintro e w6d ⟨rfl, hs6, hk6⟩
                rw [sn_cell (z := 3 * y + 2) (by have := HG.out.nums; have := HQM.out; omega) (by have := HG.out.nums; have := HQM.out; omega) (by have := HG.out.nums; have := HQM.out; omega) (by have := HG.out.nums; have := HQM.out; omega)] at hs6
                have HS6d := Lib.hid hs6
                have HB6d : Hid (Below w.heap.size w w6d) := HB5d.out.trans (hk6.below HB5d.out.size (fun k h => by have := HWS.out; omega))
                clear hs6 hk6
                clear k0 k1 k2 k3 x0 x1 x2 x3 hl0 hl1
                obtain ⟨k0, k1, k2, k3⟩ := Cfg.cells_at HS6d.out.b
                obtain ⟨x0, x1, x2, x3⟩ := Cfg.mcells_at HS6d.out.m
                have hl0 := block_lt HS6d.out.b
                have hl1 := block_lt HS6d.out.m
                go_wp2_with fail
                go_roundw
                case rel => exact ⟨y + 1, by omega, by go_num, rfl, HS6d.out, HB6d.out⟩
                case measure => simp [intOf]; omega
              · obtain rfl : y = n := by omega
                have i1 : ¬ ((y : Nat) : Int) < c.cells := by rw [HG.out.en]; omega
                go_wp2_with fail
                clear k0 k1 k2 k3 x0 x1 x2 x3 hly hyn i1
                go_loopw [13] (fun kv wr => ∃ k : Nat, k ≤ N ∧ kv = .int .i64 k ∧ Hid (ASt c w.heap.size w2.heap.size w3.heap.size (w3.heap.size + 1 + 1) (w3.heap.size + 1) N wr (seenL N (sn b1 b2 b3 (i) (j) (q) (3 * y)))) ∧ Hid (Below w.heap.size w wr)) (fun kv _ => N - (intOf kv).toNat)
                case atStart => exact ⟨0, by omega, rfl, HS3.out, HB3'.out⟩
                case round =>
                  obtain ⟨k, hkN, rfl, HS4, HB4'⟩ := hrel
                  obtain ⟨k0, k1, k2, k3⟩ := Cfg.cells_at HS4.out.b
                  obtain ⟨x0, x1, x2, x3⟩ := Cfg.mcells_at HS4.out.m
                  have hl0 := block_lt HS4.out.b
                  have hl1 := block_lt HS4.out.m
                  have n0 : wr.cell? ⟨w3.heap.size, 0, none⟩ = some (.int .i64 (N : Int)) := cell_of_block HS4.out.n 0
                  by_cases hlk : k < N
                  · have i1 : ((k : Nat) : Int) < ((N : Nat) : Int) := by omega
                    have i2 : (0 : Int) ≤ ((k : Nat) : Int) := by omega
                    have HKW : Hid (0 ≤ (k : Int) ∧ (k : Int) < c.words) := by unfold Hid; rw [HG.out.ew]; omega
                    have HNA := Lib.hid (fun W h => pname_any W c (k : Int) h)
                    have hne := name_some c HG.out.ok HKW.out
                    have HV : Hid ((seenL N (sn b1 b2 b3 (i) (j) (q) (3 * y))).getD k 0 = if k < 5 then 0 else 1) := by unfold Hid; rw [seenL_at N _ k hlk, sn_all (by have := HG.out.nums; omega) (by have := HG.out.nums; omega) (by have := HG.out.nums; have := HQM.out; omega) (by have := HG.out.nums; omega) hlk]
                    have r0 := HS4.out.r.cell (k := k) (by rw [HS4.out.l]; exact hlk)
                    rw [HV.out] at r0
                    have e1 := empF hne
                    have e2 := strF hne
                    clear hne
                    by_cases h5 : k < 5
                    · rw [if_pos h5] at r0
                      have t5 : decide (((k : Nat) : Int) < 5) = true := by simp; omega
                      have t6 : decide ((5 : Int) ≤ ((k : Nat) : Int)) = false := by simp; omega
                      have t8 : ¬ 5 ≤ k := by omega
                      by_cases h0 : k = 0
                      · have t7 : decide ((0 : Int) < ((k : Nat) : Int)) = false := by simp; omega
                        have t9 : ¬ 0 < k := by omega
                        clear h0
                        have HALL : Hid (∀ W, Below wr.heap.size wr W → W.cell? ⟨w2.heap.size, 0, none⟩ = some (.int .i64 c.cells) ∧ W.cell? ⟨w2.heap.size, 1, none⟩ = some (.int .i64 c.muts) ∧ W.cell? ⟨w2.heap.size, 2, none⟩ = some (.int .i64 c.regs) ∧ W.cell? ⟨w2.heap.size, 3, none⟩ = some (.int .i64 c.globs) ∧ W.cell? ⟨w3.heap.size + 1 + 1, 0, none⟩ = some (.slice (some ⟨w3.heap.size + 1, 0, none⟩) N N) ∧ W.cell? ⟨w3.heap.size + 1, k, none⟩ = some (.int .i64 0) ∧ Below wr.heap.size wr W) := fun W hB => by
                          have H9 := HS4.out.below hB
                          obtain ⟨q0, q1, q2, q3⟩ := Cfg.mcells_at H9.m
                          exact ⟨q0, q1, q2, q3, cell_of_block H9.s 0, (hB.cell (show w3.heap.size + 1 < _ from HS4.out.r.lt)).trans r0, hB⟩
                        generalize c.name (k : Int) = nk at *
                        go_wp2_with fail
                        refine wp_region_held_drew (S := fun W => W.cell? ⟨w2.heap.size, 0, none⟩ = some (.int .i64 c.cells) ∧ W.cell? ⟨w2.heap.size, 1, none⟩ = some (.int .i64 c.muts) ∧ W.cell? ⟨w2.heap.size, 2, none⟩ = some (.int .i64 c.regs) ∧ W.cell? ⟨w2.heap.size, 3, none⟩ = some (.int .i64 c.globs) ∧ W.cell? ⟨w3.heap.size + 1 + 1, 0, none⟩ = some (.slice (some ⟨w3.heap.size + 1, 0, none⟩) N N) ∧ W.cell? ⟨w3.heap.size + 1, k, none⟩ = some (.int .i64 0) ∧ Below wr.heap.size wr W) (by kernel_rfl) ?_ (fun hHeld => ?_)
                        · exact HALL.out _ (Below.refl _ _).drew
                        refine wpAnyH_take (i := 0) (oi := ?oi1) (v := ?v1) ?hi1 (by kernel_rfl) (by kernel_rfl) (by kernel_rfl) ?hq1 (Or.inl ⟨?hw1, ?hy1⟩) (by assumption) ?rest1
                        case hi1 => simp only [List.getElem?_toArray, List.getElem?_cons_succ, List.getElem?_cons_zero]; rfl
                        case hq1 => exact fun _ _ _ h => h
                        case hw1 => kernel_rfl
                        case hy1 => (intro w hSw; (try dsimp only at hSw); go_simp; try with_reducible rfl)
                        try simp only [Act.put, List.setIfInBounds_toArray, List.set_cons_zero, List.set_cons_succ]
                        refine wpAnyH_take (i := 1) (oi := ?oi2) (v := ?v2) ?hi2 (by kernel_rfl) (by kernel_rfl) (by kernel_rfl) ?hq2 (Or.inl ⟨?hw2, ?hy2⟩) (by assumption) ?rest2
                        case hi2 => simp only [List.getElem?_toArray, List.getElem?_cons_succ, List.getElem?_cons_zero]; rfl
                        case hq2 => exact fun _ _ _ h => h
                        case hw2 => kernel_rfl
                        case hy2 => (intro w hSw; (try dsimp only at hSw); go_simp; try with_reducible rfl)
                        try simp only [Act.put, List.setIfInBounds_toArray, List.set_cons_zero, List.set_cons_succ]
                        refine wpAnyH_take (i := 2) (oi := ?oi3) (v := ?v3) ?hi3 (by kernel_rfl) (by kernel_rfl) (by kernel_rfl) ?hq3 (Or.inl ⟨?hw3, ?hy3⟩) (by assumption) ?rest3
                        case hi3 => simp only [List.getElem?_toArray, List.getElem?_cons_succ, List.getElem?_cons_zero]; rfl
                        case hq3 => exact fun _ _ _ h => h
                        case hw3 => kernel_rfl
                        case hy3 => (intro w hSw; (try dsimp only at hSw); go_simp; try with_reducible rfl)
                        try simp only [Act.put, List.setIfInBounds_toArray, List.set_cons_zero, List.set_cons_succ]
                        refine wpAnyH_take (i := 3) (oi := ?oi4) (v := ?v4) ?hi4 (by kernel_rfl) (by kernel_rfl) (by kernel_rfl) ?hq4 (Or.inl ⟨?hw4, ?hy4⟩) (by assumption) ?rest4
                        case hi4 => simp only [List.getElem?_toArray, List.getElem?_cons_succ, List.getElem?_cons_zero]; rfl
                        case hq4 => exact fun _ _ _ h => h
                        case hw4 => kernel_rfl
                        case hy4 => (intro w hSw; (try dsimp only at hSw); go_simp; try with_reducible rfl)
                        try simp only [Act.put, List.setIfInBounds_toArray, List.set_cons_zero, List.set_cons_succ]
                        refine wpAnyH_take (i := 4) (oi := ?oi5) (v := ?v5) ?hi5 (by kernel_rfl) (by kernel_rfl) (by kernel_rfl) ?hq5 (Or.inl ⟨?hw5, ?hy5⟩) (by assumption) ?rest5
                        case hi5 => simp only [List.getElem?_toArray, List.getElem?_cons_succ, List.getElem?_cons_zero]; rfl
                        case hq5 => exact fun _ _ _ h => h
                        case hw5 => kernel_rfl
                        case hy5 => (intro w hSw; (try dsimp only at hSw); go_simp; try with_reducible rfl)
                        try simp only [Act.put, List.setIfInBounds_toArray, List.set_cons_zero, List.set_cons_succ]
                        refine wpAnyH_take (i := 5) (oi := ?oi6) (v := ?v6) ?hi6 (by kernel_rfl) (by kernel_rfl) (by kernel_rfl) ?hq6 (Or.inl ⟨?hw6, ?hy6⟩) (by assumption) ?rest6
                        case hi6 => simp only [List.getElem?_toArray, List.getElem?_cons_succ, List.getElem?_cons_zero]; rfl
                        case hq6 => exact fun _ _ _ h => h
                        case hw6 => kernel_rfl
                        case hy6 => (intro w hSw; (try dsimp only at hSw); go_simp; try with_reducible rfl)
                        try simp only [Act.put, List.setIfInBounds_toArray, List.set_cons_zero, List.set_cons_succ]
                        refine wpAnyH_take (i := 6) (oi := ?oi7) (v := ?v7) ?hi7 (by kernel_rfl) (by kernel_rfl) (by kernel_rfl) ?hq7 (Or.inl ⟨?hw7, ?hy7⟩) (by assumption) ?rest7
                        case hi7 => simp only [List.getElem?_toArray, List.getElem?_cons_succ, List.getElem?_cons_zero]; rfl
                        case hq7 => exact fun _ _ _ h => h
                        case hw7 => kernel_rfl
                        case hy7 => (intro w hSw; (try dsimp only at hSw); go_simp; try with_reducible rfl)
                        try simp only [Act.put, List.setIfInBounds_toArray, List.set_cons_zero, List.set_cons_succ]
                        refine wpAnyH_take (i := 7) (oi := ?oi8) (v := ?v8) ?hi8 (by kernel_rfl) (by kernel_rfl) (by kernel_rfl) ?hq8 (Or.inl ⟨?hw8, ?hy8⟩) (by assumption) ?rest8
                        case hi8 => simp only [List.getElem?_toArray, List.getElem?_cons_succ, List.getElem?_cons_zero]; rfl
                        case hq8 => exact fun _ _ _ h => h
                        case hw8 => kernel_rfl
                        case hy8 => (intro w hSw; (try dsimp only at hSw); go_simp; try with_reducible rfl)
                        try simp only [Act.put, List.setIfInBounds_toArray, List.set_cons_zero, List.set_cons_succ]
                        refine wpAnyH_take (i := 8) (oi := ?oi9) (v := ?v9) ?hi9 (by kernel_rfl) (by kernel_rfl) (by kernel_rfl) ?hq9 (Or.inl ⟨?hw9, ?hy9⟩) (by assumption) ?rest9
                        case hi9 => simp only [List.getElem?_toArray, List.getElem?_cons_succ, List.getElem?_cons_zero]; rfl
                        case hq9 => exact fun _ _ _ h => h
                        case hw9 => kernel_rfl
                        case hy9 => (intro w hSw; (try dsimp only at hSw); go_simp; try with_reducible rfl)
                        try simp only [Act.put, List.setIfInBounds_toArray, List.set_cons_zero, List.set_cons_succ]
                        refine wpAnyH_take (i := 9) (oi := ?oi10) (v := ?v10) ?hi10 (by kernel_rfl) (by kernel_rfl) (by kernel_rfl) ?hq10 (Or.inl ⟨?hw10, ?hy10⟩) (by assumption) ?rest10
                        case hi10 => simp only [List.getElem?_toArray, List.getElem?_cons_succ, List.getElem?_cons_zero]; rfl
                        case hq10 => exact fun _ _ _ h => h
                        case hw10 => kernel_rfl
                        case hy10 => (intro w hSw; (try dsimp only at hSw); go_simp; try with_reducible rfl)
                        try simp only [Act.put, List.setIfInBounds_toArray, List.set_cons_zero, List.set_cons_succ]
                        refine wpAnyH_take (i := 10) (oi := ?oi11) (v := ?v11) ?hi11 (by kernel_rfl) (by kernel_rfl) (by kernel_rfl) ?hq11 (Or.inl ⟨?hw11, ?hy11⟩) (by assumption) ?rest11
                        case hi11 => simp only [List.getElem?_toArray, List.getElem?_cons_succ, List.getElem?_cons_zero]; rfl
                        case hq11 => exact fun _ _ _ h => h
                        case hw11 => kernel_rfl
                        case hy11 => (intro w hSw; (try dsimp only at hSw); go_simp; try with_reducible rfl)
                        try simp only [Act.put, List.setIfInBounds_toArray, List.set_cons_zero, List.set_cons_succ]
                        refine wpAnyH_take (i := 11) (oi := ?oi12) (v := ?v12) ?hi12 (by kernel_rfl) (by kernel_rfl) (by kernel_rfl) ?hq12 (Or.inl ⟨?hw12, ?hy12⟩) (by assumption) ?rest12
                        case hi12 => simp only [List.getElem?_toArray, List.getElem?_cons_succ, List.getElem?_cons_zero]; rfl
                        case hq12 => exact fun _ _ _ h => h
                        case hw12 => kernel_rfl
                        case hy12 => (intro w hSw; (try dsimp only at hSw); go_simp; try with_reducible rfl)
                        try simp only [Act.put, List.setIfInBounds_toArray, List.set_cons_zero, List.set_cons_succ]
                        refine wpAnyH_take (i := 12) (oi := ?oi13) (v := ?v13) ?hi13 (by kernel_rfl) (by kernel_rfl) (by kernel_rfl) ?hq13 (Or.inl ⟨?hw13, ?hy13⟩) (by assumption) ?rest13
                        case hi13 => simp only [List.getElem?_toArray, List.getElem?_cons_succ, List.getElem?_cons_zero]; rfl
                        case hq13 => exact fun _ _ _ h => h
                        case hw13 => kernel_rfl
                        case hy13 => (intro w hSw; (try dsimp only at hSw); go_simp; try with_reducible rfl)
                        try simp only [Act.put, List.setIfInBounds_toArray, List.set_cons_zero, List.set_cons_succ]
                        refine wpAnyH_take (i := 13) (oi := ?oi14) (v := undef) ?hi14 (by kernel_rfl) (by kernel_rfl) (by kernel_rfl) ?hq14 (Or.inr ⟨?hw14, rfl⟩) (by assumption) ?rest14
                        case hi14 => simp only [List.getElem?_toArray, List.getElem?_cons_succ, List.getElem?_cons_zero]; rfl
                        case hq14 => exact fun _ _ _ h => h
                        case hw14 => kernel_rfl
                        try simp only [Act.put, List.setIfInBounds_toArray, List.set_cons_zero, List.set_cons_succ]
                        refine wpAnyH_take (i := 14) (oi := ?oi15) (v := undef) ?hi15 (by kernel_rfl) (by kernel_rfl) (by kernel_rfl) ?hq15 (Or.inr ⟨?hw15, rfl⟩) (by assumption) ?rest15
                        case hi15 => simp only [List.getElem?_toArray, List.getElem?_cons_succ, List.getElem?_cons_zero]; rfl
                        case hq15 => exact fun _ _ _ h => h
                        case hw15 => kernel_rfl
                        try simp only [Act.put, List.setIfInBounds_toArray, List.set_cons_zero, List.set_cons_succ]
                        refine wpAnyH_take (i := 15) (oi := ?oi16) (v := undef) ?hi16 (by kernel_rfl) (by kernel_rfl) (by kernel_rfl) ?hq16 (Or.inr ⟨?hw16, rfl⟩) (by assumption) ?rest16
                        case hi16 => simp only [List.getElem?_toArray, List.getElem?_cons_succ, List.getElem?_cons_zero]; rfl
                        case hq16 => exact fun _ _ _ h => h
                        case hw16 => kernel_rfl
                        try simp only [Act.put, List.setIfInBounds_toArray, List.set_cons_zero, List.set_cons_succ]
                        refine wpAnyH_take (i := 16) (oi := ?oi17) (v := undef) ?hi17 (by kernel_rfl) (by kernel_rfl) (by kernel_rfl) ?hq17 (Or.inr ⟨?hw17, rfl⟩) (by assumption) ?rest17
                        case hi17 => simp only [List.getElem?_toArray, List.getElem?_cons_succ, List.getElem?_cons_zero]; rfl
                        case hq17 => exact fun _ _ _ h => h
                        case hw17 => kernel_rfl
                        try simp only [Act.put, List.setIfInBounds_toArray, List.set_cons_zero, List.set_cons_succ]
                        refine wpAnyH_take (i := 17) (oi := ?oi18) (v := undef) ?hi18 (by kernel_rfl) (by kernel_rfl) (by kernel_rfl) ?hq18 (Or.inr ⟨?hw18, rfl⟩) (by assumption) ?rest18
                        case hi18 => simp only [List.getElem?_toArray, List.getElem?_cons_succ, List.getElem?_cons_zero]; rfl
                        case hq18 => exact fun _ _ _ h => h
                        case hw18 => kernel_rfl
                        try simp only [Act.put, List.setIfInBounds_toArray, List.set_cons_zero, List.set_cons_succ]
                        refine wpAnyH_take (i := 18) (oi := ?oi19) (v := ?v19) ?hi19 (by kernel_rfl) (by kernel_rfl) (by kernel_rfl) ?hq19 (Or.inl ⟨?hw19, ?hy19⟩) (by assumption) ?rest19
                        case hi19 => simp only [List.getElem?_toArray, List.getElem?_cons_succ, List.getElem?_cons_zero]; rfl
                        case hq19 => exact fun _ _ _ h => h
                        case hw19 => kernel_rfl
                        case hy19 => (intro w hSw; (try dsimp only at hSw); go_simp; try with_reducible rfl)
                        try simp only [Act.put, List.setIfInBounds_toArray, List.set_cons_zero, List.set_cons_succ]
                        refine wpAnyH_take (i := 19) (oi := ?oi20) (v := ?v20) ?hi20 (by kernel_rfl) (by kernel_rfl) (by kernel_rfl) ?hq20 (Or.inl ⟨?hw20, ?hy20⟩) (by assumption) ?rest20
                        case hi20 => simp only [List.getElem?_toArray, List.getElem?_cons_succ, List.getElem?_cons_zero]; rfl
                        case hq20 => exact fun _ _ _ h => h
                        case hw20 => kernel_rfl
                        case hy20 => (intro w hSw; (try dsimp only at hSw); go_simp; try with_reducible rfl)
                        try simp only [Act.put, List.setIfInBounds_toArray, List.set_cons_zero, List.set_cons_succ]
                        refine wpAnyH_take (i := 20) (oi := ?oi21) (v := ?v21) ?hi21 (by kernel_rfl) (by kernel_rfl) (by kernel_rfl) ?hq21 (Or.inl ⟨?hw21, ?hy21⟩) (by assumption) ?rest21
                        case hi21 => simp only [List.getElem?_toArray, List.getElem?_cons_succ, List.getElem?_cons_zero]; rfl
                        case hq21 => exact fun _ _ _ h => h
                        case hw21 => kernel_rfl
                        case hy21 => (intro w hSw; (try dsimp only at hSw); go_simp; try with_reducible rfl)
                        try simp only [Act.put, List.setIfInBounds_toArray, List.set_cons_zero, List.set_cons_succ]
                        refine wpAnyH_take (i := 21) (oi := ?oi22) (v := ?v22) ?hi22 (by kernel_rfl) (by kernel_rfl) (by kernel_rfl) ?hq22 (Or.inl ⟨?hw22, ?hy22⟩) (by assumption) ?rest22
                        case hi22 => simp only [List.getElem?_toArray, List.getElem?_cons_succ, List.getElem?_cons_zero]; rfl
                        case hq22 => exact fun _ _ _ h => h
                        case hw22 => kernel_rfl
                        case hy22 => (intro w hSw; (try dsimp only at hSw); go_simp; try with_reducible rfl)
                        try simp only [Act.put, List.setIfInBounds_toArray, List.set_cons_zero, List.set_cons_succ]
                        refine wpAnyH_take (i := 22) (oi := ?oi23) (v := ?v23) ?hi23 (by kernel_rfl) (by kernel_rfl) (by kernel_rfl) ?hq23 (Or.inl ⟨?hw23, ?hy23⟩) (by assumption) ?rest23
                        case hi23 => simp only [List.getElem?_toArray, List.getElem?_cons_succ, List.getElem?_cons_zero]; rfl
                        case hq23 => exact fun _ _ _ h => h
                        case hw23 => kernel_rfl
                        case hy23 => (intro w hSw; (try dsimp only at hSw); go_simp; try with_reducible rfl)
                        try simp only [Act.put, List.setIfInBounds_toArray, List.set_cons_zero, List.set_cons_succ]
                        refine wpAnyH_take (i := 23) (oi := ?oi24) (v := ?v24) ?hi24 (by kernel_rfl) (by kernel_rfl) (by kernel_rfl) ?hq24 (Or.inl ⟨?hw24, ?hy24⟩) (by assumption) ?rest24
                        case hi24 => simp only [List.getElem?_toArray, List.getElem?_cons_succ, List.getElem?_cons_zero]; rfl
                        case hq24 => exact fun _ _ _ h => h
                        case hw24 => kernel_rfl
                        case hy24 => (intro w hSw; (try dsimp only at hSw); go_simp; try with_reducible rfl)
                        try simp only [Act.put, List.setIfInBounds_toArray, List.set_cons_zero, List.set_cons_succ]
                        refine wpAnyH_take (i := 24) (oi := ?oi25) (v := undef) ?hi25 (by kernel_rfl) (by kernel_rfl) (by kernel_rfl) ?hq25 (Or.inr ⟨?hw25, rfl⟩) (by assumption) ?rest25
                        case hi25 => simp only [List.getElem?_toArray, List.getElem?_cons_succ, List.getElem?_cons_zero]; rfl
                        case hq25 => exact fun _ _ _ h => h
                        case hw25 => kernel_rfl
                        try simp only [Act.put, List.setIfInBounds_toArray, List.set_cons_zero, List.set_cons_succ]
                        refine wpAnyH_take (i := 25) (oi := ?oi26) (v := undef) ?hi26 (by kernel_rfl) (by kernel_rfl) (by kernel_rfl) ?hq26 (Or.inr ⟨?hw26, rfl⟩) (by assumption) ?rest26
                        case hi26 => simp only [List.getElem?_toArray, List.getElem?_cons_succ, List.getElem?_cons_zero]; rfl
                        case hq26 => exact fun _ _ _ h => h
                        case hw26 => kernel_rfl
                        try simp only [Act.put, List.setIfInBounds_toArray, List.set_cons_zero, List.set_cons_succ]
                        refine wpAnyH_take (i := 26) (oi := ?oi27) (v := undef) ?hi27 (by kernel_rfl) (by kernel_rfl) (by kernel_rfl) ?hq27 (Or.inr ⟨?hw27, rfl⟩) (by assumption) ?rest27
                        case hi27 => simp only [List.getElem?_toArray, List.getElem?_cons_succ, List.getElem?_cons_zero]; rfl
                        case hq27 => exact fun _ _ _ h => h
                        case hw27 => kernel_rfl
                        try simp only [Act.put, List.setIfInBounds_toArray, List.set_cons_zero, List.set_cons_succ]
                        refine wpAnyH_take (i := 27) (oi := ?oi28) (v := undef) ?hi28 (by kernel_rfl) (by kernel_rfl) (by kernel_rfl) ?hq28 (Or.inr ⟨?hw28, rfl⟩) (by assumption) ?rest28
                        case hi28 => simp only [List.getElem?_toArray, List.getElem?_cons_succ, List.getElem?_cons_zero]; rfl
                        case hq28 => exact fun _ _ _ h => h
                        case hw28 => kernel_rfl
                        try simp only [Act.put, List.setIfInBounds_toArray, List.set_cons_zero, List.set_cons_succ]
                        refine wpAnyH_take (i := 28) (oi := ?oi29) (v := undef) ?hi29 (by kernel_rfl) (by kernel_rfl) (by kernel_rfl) ?hq29 (Or.inr ⟨?hw29, rfl⟩) (by assumption) ?rest29
                        case hi29 => simp only [List.getElem?_toArray, List.getElem?_cons_succ, List.getElem?_cons_zero]; rfl
                        case hq29 => exact fun _ _ _ h => h
                        case hw29 => kernel_rfl
                        try simp only [Act.put, List.setIfInBounds_toArray, List.set_cons_zero, List.set_cons_succ]
                        refine wpAnyH_take (i := 29) (oi := ?oi30) (v := undef) ?hi30 (by kernel_rfl) (by kernel_rfl) (by kernel_rfl) ?hq30 (Or.inr ⟨?hw30, rfl⟩) (by assumption) ?rest30
                        case hi30 => simp only [List.getElem?_toArray, List.getElem?_cons_succ, List.getElem?_cons_zero]; rfl
                        case hq30 => exact fun _ _ _ h => h
                        case hw30 => kernel_rfl
                        try simp only [Act.put, List.setIfInBounds_toArray, List.set_cons_zero, List.set_cons_succ]
                        refine wpAnyH_take (i := 30) (oi := ?oi31) (v := undef) ?hi31 (by kernel_rfl) (by kernel_rfl) (by kernel_rfl) ?hq31 (Or.inr ⟨?hw31, rfl⟩) (by assumption) ?rest31
                        case hi31 => simp only [List.getElem?_toArray, List.getElem?_cons_succ, List.getElem?_cons_zero]; rfl
                        case hq31 => exact fun _ _ _ h => h
                        case hw31 => kernel_rfl
                        try simp only [Act.put, List.setIfInBounds_toArray, List.set_cons_zero, List.set_cons_succ]
                        refine wpAnyH_take (i := 31) (oi := ?oi32) (v := undef) ?hi32 (by kernel_rfl) (by kernel_rfl) (by kernel_rfl) ?hq32 (Or.inr ⟨?hw32, rfl⟩) (by assumption) ?rest32
                        case hi32 => simp only [List.getElem?_toArray, List.getElem?_cons_succ, List.getElem?_cons_zero]; rfl
                        case hq32 => exact fun _ _ _ h => h
                        case hw32 => kernel_rfl
                        try simp only [Act.put, List.setIfInBounds_toArray, List.set_cons_zero, List.set_cons_succ]
                        refine wpAnyH_take (i := 32) (oi := ?oi33) (v := ?v33) ?hi33 (by kernel_rfl) (by kernel_rfl) (by kernel_rfl) ?hq33 (Or.inl ⟨?hw33, ?hy33⟩) (by assumption) ?rest33
                        case hi33 => simp only [List.getElem?_toArray, List.getElem?_cons_succ, List.getElem?_cons_zero]; rfl
                        case hq33 => exact fun _ _ _ h => h
                        case hw33 => kernel_rfl
                        case hy33 => (intro w hSw; (try dsimp only at hSw); go_simp; try with_reducible rfl)
                        try simp only [Act.put, List.setIfInBounds_toArray, List.set_cons_zero, List.set_cons_succ]
                        refine wpAnyH_take (i := 33) (oi := ?oi34) (v := ?v34) ?hi34 (by kernel_rfl) (by kernel_rfl) (by kernel_rfl) ?hq34 (Or.inl ⟨?hw34, ?hy34⟩) (by assumption) ?rest34
                        case hi34 => simp only [List.getElem?_toArray, List.getElem?_cons_succ, List.getElem?_cons_zero]; rfl
                        case hq34 => exact fun _ _ _ h => h
                        case hw34 => kernel_rfl
                        case hy34 => (intro w hSw; (try dsimp only at hSw); go_simp; try with_reducible rfl)
                        try simp only [Act.put, List.setIfInBounds_toArray, List.set_cons_zero, List.set_cons_succ]
                        refine wpAnyH_take (i := 34) (oi := ?oi35) (v := ?v35) ?hi35 (by kernel_rfl) (by kernel_rfl) (by kernel_rfl) ?hq35 (Or.inl ⟨?hw35, ?hy35⟩) (by assumption) ?rest35
                        case hi35 => simp only [List.getElem?_toArray, List.getElem?_cons_succ, List.getElem?_cons_zero]; rfl
                        case hq35 => exact fun _ _ _ h => h
                        case hw35 => kernel_rfl
                        case hy35 => (intro w hSw; (try dsimp only at hSw); go_simp; try with_reducible rfl)
                        try simp only [Act.put, List.setIfInBounds_toArray, List.set_cons_zero, List.set_cons_succ]
                        refine wpAnyH_take (i := 35) (oi := ?oi36) (v := ?v36) ?hi36 (by kernel_rfl) (by kernel_rfl) (by kernel_rfl) ?hq36 (Or.inl ⟨?hw36, ?hy36⟩) (by assumption) ?rest36
                        case hi36 => simp only [List.getElem?_toArray, List.getElem?_cons_succ, List.getElem?_cons_zero]; rfl
                        case hq36 => exact fun _ _ _ h => h
                        case hw36 => kernel_rfl
                        case hy36 => (intro w hSw; (try dsimp only at hSw); go_simp; try with_reducible rfl)
                        try simp only [Act.put, List.setIfInBounds_toArray, List.set_cons_zero, List.set_cons_succ]
                        refine wpAnyH_take (i := 36) (oi := ?oi37) (v := ?v37) ?hi37 (by kernel_rfl) (by kernel_rfl) (by kernel_rfl) ?hq37 (Or.inl ⟨?hw37, ?hy37⟩) (by assumption) ?rest37
                        case hi37 => simp only [List.getElem?_toArray, List.getElem?_cons_succ, List.getElem?_cons_zero]; rfl
                        case hq37 => exact fun _ _ _ h => h
                        case hw37 => kernel_rfl
                        case hy37 => (intro w hSw; (try dsimp only at hSw); go_simp; try with_reducible rfl)
                        try simp only [Act.put, List.setIfInBounds_toArray, List.set_cons_zero, List.set_cons_succ]
                        refine wpAnyH_ready (rs := [37]) (by kernel_rfl) (by simp) ?_
                        refine AllReadyH.cons (o := ?o38) ?ho38 (fun K hK => ?st38) AllReadyH.nil
                        case ho38 => simp only [List.getElem?_toArray, List.getElem?_cons_succ, List.getElem?_cons_zero]; rfl
                        go_simp
                        go_at_call 57
                        refine (HNA.out _ (HT.out.below (Nat.le_refl _) (HB4'.out.trans (hHeld.2.2.2.2.2.2.mono HB4'.out.size)))).mono ?_
                        rintro e wq ⟨rfl, hb2⟩
                        have hBel := Below.trans hHeld.2.2.2.2.2.2 (hb2.mono (Below.size hHeld.2.2.2.2.2.2))
                        clear hHeld
                        try go_simp
                        refine hK.out _ _ ?_ (fun hHeld => ?_)
                        · exact HALL.out _ hBel
                        clear hK K hb2 hBel
                        try simp only [Act.put, List.setIfInBounds_toArray, List.set_cons_zero, List.set_cons_succ]
                        refine wpAnyH_take (i := 38) (oi := ?oi39) (v := ?v39) ?hi39 (by kernel_rfl) (by kernel_rfl) (by kernel_rfl) ?hq39 (Or.inl ⟨?hw39, ?hy39⟩) (by assumption) ?rest39
                        case hi39 => simp only [List.getElem?_toArray, List.getElem?_cons_succ, List.getElem?_cons_zero]; rfl
                        case hq39 => exact fun _ _ _ h => h
                        case hw39 => kernel_rfl
                        case hy39 => (intro w hSw; (try dsimp only at hSw); go_simp; try with_reducible rfl)
                        try simp only [Act.put, List.setIfInBounds_toArray, List.set_cons_zero, List.set_cons_succ]
                        refine wpAnyH_take (i := 39) (oi := ?oi40) (v := ?v40) ?hi40 (by kernel_rfl) (by kernel_rfl) (by kernel_rfl) ?hq40 (Or.inl ⟨?hw40, ?hy40⟩) (by assumption) ?rest40
                        case hi40 => simp only [List.getElem?_toArray, List.getElem?_cons_succ, List.getElem?_cons_zero]; rfl
                        case hq40 => exact fun _ _ _ h => h
                        case hw40 => kernel_rfl
                        case hy40 => (intro w hSw; (try dsimp only at hSw); go_simp; try with_reducible rfl)
                        try simp only [Act.put, List.setIfInBounds_toArray, List.set_cons_zero, List.set_cons_succ]
                        refine wpAnyH_done (by kernel_rfl) ?_ _
                        have hq : Below wr.heap.size wr wq := hHeld.2.2.2.2.2.2
                        have HSq := Lib.hid (HS4.out.below hq)
                        have HBq : Hid (Below w.heap.size w wq) := HB4'.out.trans (hq.mono HB4'.out.size)
                        clear hHeld hq
                        go_wp2_with fail
                        go_roundw
                        case rel => exact ⟨k + 1, by omega, by go_num, HSq.out, HBq.out⟩
                        case measure => simp [intOf]; omega
                      · have t7 : decide ((0 : Int) < ((k : Nat) : Int)) = true := by simp; omega
                        have t9 : 0 < k := by omega
                        have HALL : Hid (∀ W, Below wr.heap.size wr W → W.cell? ⟨w2.heap.size, 0, none⟩ = some (.int .i64 c.cells) ∧ W.cell? ⟨w2.heap.size, 1, none⟩ = some (.int .i64 c.muts) ∧ W.cell? ⟨w2.heap.size, 2, none⟩ = some (.int .i64 c.regs) ∧ W.cell? ⟨w2.heap.size, 3, none⟩ = some (.int .i64 c.globs) ∧ W.cell? ⟨w3.heap.size + 1 + 1, 0, none⟩ = some (.slice (some ⟨w3.heap.size + 1, 0, none⟩) N N) ∧ W.cell? ⟨w3.heap.size + 1, k, none⟩ = some (.int .i64 0) ∧ Below wr.heap.size wr W) := fun W hB => by
                          have H9 := HS4.out.below hB
                          obtain ⟨q0, q1, q2, q3⟩ := Cfg.mcells_at H9.m
                          exact ⟨q0, q1, q2, q3, cell_of_block H9.s 0, (hB.cell (show w3.heap.size + 1 < _ from HS4.out.r.lt)).trans r0, hB⟩
                        have HNB := Lib.hid (fun W h => pname_any W c ((k : Int) - 1) h)
                        have hnn : ¬ c.name (k : Int) = c.name ((k : Int) - 1) := fun e => by have := names_apart c HG.out.ok HKW.out (by have := HKW.out; omega) e; omega
                        have q9 := strF hnn
                        have s1 : IntKind.i64.wrap ((k : Int) - 1) = (k : Int) - 1 := IntWalk.i64_in _ (by omega)
                        clear hnn
                        generalize c.name ((k : Int) - 1) = nj at *
                        generalize c.name (k : Int) = nk at *
                        go_wp2_with fail
                        refine wp_region_held_drew (S := fun W => W.cell? ⟨w2.heap.size, 0, none⟩ = some (.int .i64 c.cells) ∧ W.cell? ⟨w2.heap.size, 1, none⟩ = some (.int .i64 c.muts) ∧ W.cell? ⟨w2.heap.size, 2, none⟩ = some (.int .i64 c.regs) ∧ W.cell? ⟨w2.heap.size, 3, none⟩ = some (.int .i64 c.globs) ∧ W.cell? ⟨w3.heap.size + 1 + 1, 0, none⟩ = some (.slice (some ⟨w3.heap.size + 1, 0, none⟩) N N) ∧ W.cell? ⟨w3.heap.size + 1, k, none⟩ = some (.int .i64 0) ∧ Below wr.heap.size wr W) (by kernel_rfl) ?_ (fun hHeld => ?_)
                        · exact HALL.out _ (Below.refl _ _).drew
                        refine wpAnyH_take (i := 0) (oi := ?oi41) (v := ?v41) ?hi41 (by kernel_rfl) (by kernel_rfl) (by kernel_rfl) ?hq41 (Or.inl ⟨?hw41, ?hy41⟩) (by assumption) ?rest41
                        case hi41 => simp only [List.getElem?_toArray, List.getElem?_cons_succ, List.getElem?_cons_zero]; rfl
                        case hq41 => exact fun _ _ _ h => h
                        case hw41 => kernel_rfl
                        case hy41 => (intro w hSw; (try dsimp only at hSw); go_simp; try with_reducible rfl)
                        try simp only [Act.put, List.setIfInBounds_toArray, List.set_cons_zero, List.set_cons_succ]
                        refine wpAnyH_take (i := 1) (oi := ?oi42) (v := ?v42) ?hi42 (by kernel_rfl) (by kernel_rfl) (by kernel_rfl) ?hq42 (Or.inl ⟨?hw42, ?hy42⟩) (by assumption) ?rest42
                        case hi42 => simp only [List.getElem?_toArray, List.getElem?_cons_succ, List.getElem?_cons_zero]; rfl
                        case hq42 => exact fun _ _ _ h => h
                        case hw42 => kernel_rfl
                        case hy42 => (intro w hSw; (try dsimp only at hSw); go_simp; try with_reducible rfl)
                        try simp only [Act.put, List.setIfInBounds_toArray, List.set_cons_zero, List.set_cons_succ]
                        refine wpAnyH_take (i := 2) (oi := ?oi43) (v := ?v43) ?hi43 (by kernel_rfl) (by kernel_rfl) (by kernel_rfl) ?hq43 (Or.inl ⟨?hw43, ?hy43⟩) (by assumption) ?rest43
                        case hi43 => simp only [List.getElem?_toArray, List.getElem?_cons_succ, List.getElem?_cons_zero]; rfl
                        case hq43 => exact fun _ _ _ h => h
                        case hw43 => kernel_rfl
                        case hy43 => (intro w hSw; (try dsimp only at hSw); go_simp; try with_reducible rfl)
                        try simp only [Act.put, List.setIfInBounds_toArray, List.set_cons_zero, List.set_cons_succ]
                        refine wpAnyH_take (i := 3) (oi := ?oi44) (v := ?v44) ?hi44 (by kernel_rfl) (by kernel_rfl) (by kernel_rfl) ?hq44 (Or.inl ⟨?hw44, ?hy44⟩) (by assumption) ?rest44
                        case hi44 => simp only [List.getElem?_toArray, List.getElem?_cons_succ, List.getElem?_cons_zero]; rfl
                        case hq44 => exact fun _ _ _ h => h
                        case hw44 => kernel_rfl
                        case hy44 => (intro w hSw; (try dsimp only at hSw); go_simp; try with_reducible rfl)
                        try simp only [Act.put, List.setIfInBounds_toArray, List.set_cons_zero, List.set_cons_succ]
                        refine wpAnyH_take (i := 4) (oi := ?oi45) (v := ?v45) ?hi45 (by kernel_rfl) (by kernel_rfl) (by kernel_rfl) ?hq45 (Or.inl ⟨?hw45, ?hy45⟩) (by assumption) ?rest45
                        case hi45 => simp only [List.getElem?_toArray, List.getElem?_cons_succ, List.getElem?_cons_zero]; rfl
                        case hq45 => exact fun _ _ _ h => h
                        case hw45 => kernel_rfl
                        case hy45 => (intro w hSw; (try dsimp only at hSw); go_simp; try with_reducible rfl)
                        try simp only [Act.put, List.setIfInBounds_toArray, List.set_cons_zero, List.set_cons_succ]
                        refine wpAnyH_take (i := 5) (oi := ?oi46) (v := ?v46) ?hi46 (by kernel_rfl) (by kernel_rfl) (by kernel_rfl) ?hq46 (Or.inl ⟨?hw46, ?hy46⟩) (by assumption) ?rest46
                        case hi46 => simp only [List.getElem?_toArray, List.getElem?_cons_succ, List.getElem?_cons_zero]; rfl
                        case hq46 => exact fun _ _ _ h => h
                        case hw46 => kernel_rfl
                        case hy46 => (intro w hSw; (try dsimp only at hSw); go_simp; try with_reducible rfl)
                        try simp only [Act.put, List.setIfInBounds_toArray, List.set_cons_zero, List.set_cons_succ]
                        refine wpAnyH_take (i := 6) (oi := ?oi47) (v := ?v47) ?hi47 (by kernel_rfl) (by kernel_rfl) (by kernel_rfl) ?hq47 (Or.inl ⟨?hw47, ?hy47⟩) (by assumption) ?rest47
                        case hi47 => simp only [List.getElem?_toArray, List.getElem?_cons_succ, List.getElem?_cons_zero]; rfl
                        case hq47 => exact fun _ _ _ h => h
                        case hw47 => kernel_rfl
                        case hy47 => (intro w hSw; (try dsimp only at hSw); go_simp; try with_reducible rfl)
                        try simp only [Act.put, List.setIfInBounds_toArray, List.set_cons_zero, List.set_cons_succ]
                        refine wpAnyH_take (i := 7) (oi := ?oi48) (v := ?v48) ?hi48 (by kernel_rfl) (by kernel_rfl) (by kernel_rfl) ?hq48 (Or.inl ⟨?hw48, ?hy48⟩) (by assumption) ?rest48
                        case hi48 => simp only [List.getElem?_toArray, List.getElem?_cons_succ, List.getElem?_cons_zero]; rfl
                        case hq48 => exact fun _ _ _ h => h
                        case hw48 => kernel_rfl
                        case hy48 => (intro w hSw; (try dsimp only at hSw); go_simp; try with_reducible rfl)
                        try simp only [Act.put, List.setIfInBounds_toArray, List.set_cons_zero, List.set_cons_succ]
                        refine wpAnyH_take (i := 8) (oi := ?oi49) (v := ?v49) ?hi49 (by kernel_rfl) (by kernel_rfl) (by kernel_rfl) ?hq49 (Or.inl ⟨?hw49, ?hy49⟩) (by assumption) ?rest49
                        case hi49 => simp only [List.getElem?_toArray, List.getElem?_cons_succ, List.getElem?_cons_zero]; rfl
                        case hq49 => exact fun _ _ _ h => h
                        case hw49 => kernel_rfl
                        case hy49 => (intro w hSw; (try dsimp only at hSw); go_simp; try with_reducible rfl)
                        try simp only [Act.put, List.setIfInBounds_toArray, List.set_cons_zero, List.set_cons_succ]
                        refine wpAnyH_take (i := 9) (oi := ?oi50) (v := ?v50) ?hi50 (by kernel_rfl) (by kernel_rfl) (by kernel_rfl) ?hq50 (Or.inl ⟨?hw50, ?hy50⟩) (by assumption) ?rest50
                        case hi50 => simp only [List.getElem?_toArray, List.getElem?_cons_succ, List.getElem?_cons_zero]; rfl
                        case hq50 => exact fun _ _ _ h => h
                        case hw50 => kernel_rfl
                        case hy50 => (intro w hSw; (try dsimp only at hSw); go_simp; try with_reducible rfl)
                        try simp only [Act.put, List.setIfInBounds_toArray, List.set_cons_zero, List.set_cons_succ]
                        refine wpAnyH_take (i := 10) (oi := ?oi51) (v := ?v51) ?hi51 (by kernel_rfl) (by kernel_rfl) (by kernel_rfl) ?hq51 (Or.inl ⟨?hw51, ?hy51⟩) (by assumption) ?rest51
                        case hi51 => simp only [List.getElem?_toArray, List.getElem?_cons_succ, List.getElem?_cons_zero]; rfl
                        case hq51 => exact fun _ _ _ h => h
                        case hw51 => kernel_rfl
                        case hy51 => (intro w hSw; (try dsimp only at hSw); go_simp; try with_reducible rfl)
                        try simp only [Act.put, List.setIfInBounds_toArray, List.set_cons_zero, List.set_cons_succ]
                        refine wpAnyH_take (i := 11) (oi := ?oi52) (v := ?v52) ?hi52 (by kernel_rfl) (by kernel_rfl) (by kernel_rfl) ?hq52 (Or.inl ⟨?hw52, ?hy52⟩) (by assumption) ?rest52
                        case hi52 => simp only [List.getElem?_toArray, List.getElem?_cons_succ, List.getElem?_cons_zero]; rfl
                        case hq52 => exact fun _ _ _ h => h
                        case hw52 => kernel_rfl
                        case hy52 => (intro w hSw; (try dsimp only at hSw); go_simp; try with_reducible rfl)
                        try simp only [Act.put, List.setIfInBounds_toArray, List.set_cons_zero, List.set_cons_succ]
                        refine wpAnyH_take (i := 12) (oi := ?oi53) (v := ?v53) ?hi53 (by kernel_rfl) (by kernel_rfl) (by kernel_rfl) ?hq53 (Or.inl ⟨?hw53, ?hy53⟩) (by assumption) ?rest53
                        case hi53 => simp only [List.getElem?_toArray, List.getElem?_cons_succ, List.getElem?_cons_zero]; rfl
                        case hq53 => exact fun _ _ _ h => h
                        case hw53 => kernel_rfl
                        case hy53 => (intro w hSw; (try dsimp only at hSw); go_simp; try with_reducible rfl)
                        try simp only [Act.put, List.setIfInBounds_toArray, List.set_cons_zero, List.set_cons_succ]
                        refine wpAnyH_take (i := 13) (oi := ?oi54) (v := undef) ?hi54 (by kernel_rfl) (by kernel_rfl) (by kernel_rfl) ?hq54 (Or.inr ⟨?hw54, rfl⟩) (by assumption) ?rest54
                        case hi54 => simp only [List.getElem?_toArray, List.getElem?_cons_succ, List.getElem?_cons_zero]; rfl
                        case hq54 => exact fun _ _ _ h => h
                        case hw54 => kernel_rfl
                        try simp only [Act.put, List.setIfInBounds_toArray, List.set_cons_zero, List.set_cons_succ]
                        refine wpAnyH_take (i := 14) (oi := ?oi55) (v := undef) ?hi55 (by kernel_rfl) (by kernel_rfl) (by kernel_rfl) ?hq55 (Or.inr ⟨?hw55, rfl⟩) (by assumption) ?rest55
                        case hi55 => simp only [List.getElem?_toArray, List.getElem?_cons_succ, List.getElem?_cons_zero]; rfl
                        case hq55 => exact fun _ _ _ h => h
                        case hw55 => kernel_rfl
                        try simp only [Act.put, List.setIfInBounds_toArray, List.set_cons_zero, List.set_cons_succ]
                        refine wpAnyH_take (i := 15) (oi := ?oi56) (v := undef) ?hi56 (by kernel_rfl) (by kernel_rfl) (by kernel_rfl) ?hq56 (Or.inr ⟨?hw56, rfl⟩) (by assumption) ?rest56
                        case hi56 => simp only [List.getElem?_toArray, List.getElem?_cons_succ, List.getElem?_cons_zero]; rfl
                        case hq56 => exact fun _ _ _ h => h
                        case hw56 => kernel_rfl
                        try simp only [Act.put, List.setIfInBounds_toArray, List.set_cons_zero, List.set_cons_succ]
                        refine wpAnyH_take (i := 16) (oi := ?oi57) (v := undef) ?hi57 (by kernel_rfl) (by kernel_rfl) (by kernel_rfl) ?hq57 (Or.inr ⟨?hw57, rfl⟩) (by assumption) ?rest57
                        case hi57 => simp only [List.getElem?_toArray, List.getElem?_cons_succ, List.getElem?_cons_zero]; rfl
                        case hq57 => exact fun _ _ _ h => h
                        case hw57 => kernel_rfl
                        try simp only [Act.put, List.setIfInBounds_toArray, List.set_cons_zero, List.set_cons_succ]
                        refine wpAnyH_take (i := 17) (oi := ?oi58) (v := undef) ?hi58 (by kernel_rfl) (by kernel_rfl) (by kernel_rfl) ?hq58 (Or.inr ⟨?hw58, rfl⟩) (by assumption) ?rest58
                        case hi58 => simp only [List.getElem?_toArray, List.getElem?_cons_succ, List.getElem?_cons_zero]; rfl
                        case hq58 => exact fun _ _ _ h => h
                        case hw58 => kernel_rfl
                        try simp only [Act.put, List.setIfInBounds_toArray, List.set_cons_zero, List.set_cons_succ]
                        refine wpAnyH_take (i := 18) (oi := ?oi59) (v := ?v59) ?hi59 (by kernel_rfl) (by kernel_rfl) (by kernel_rfl) ?hq59 (Or.inl ⟨?hw59, ?hy59⟩) (by assumption) ?rest59
                        case hi59 => simp only [List.getElem?_toArray, List.getElem?_cons_succ, List.getElem?_cons_zero]; rfl
                        case hq59 => exact fun _ _ _ h => h
                        case hw59 => kernel_rfl
                        case hy59 => (intro w hSw; (try dsimp only at hSw); go_simp; try with_reducible rfl)
                        try simp only [Act.put, List.setIfInBounds_toArray, List.set_cons_zero, List.set_cons_succ]
                        refine wpAnyH_take (i := 19) (oi := ?oi60) (v := ?v60) ?hi60 (by kernel_rfl) (by kernel_rfl) (by kernel_rfl) ?hq60 (Or.inl ⟨?hw60, ?hy60⟩) (by assumption) ?rest60
                        case hi60 => simp only [List.getElem?_toArray, List.getElem?_cons_succ, List.getElem?_cons_zero]; rfl
                        case hq60 => exact fun _ _ _ h => h
                        case hw60 => kernel_rfl
                        case hy60 => (intro w hSw; (try dsimp only at hSw); go_simp; try with_reducible rfl)
                        try simp only [Act.put, List.setIfInBounds_toArray, List.set_cons_zero, List.set_cons_succ]
                        refine wpAnyH_take (i := 20) (oi := ?oi61) (v := ?v61) ?hi61 (by kernel_rfl) (by kernel_rfl) (by kernel_rfl) ?hq61 (Or.inl ⟨?hw61, ?hy61⟩) (by assumption) ?rest61
                        case hi61 => simp only [List.getElem?_toArray, List.getElem?_cons_succ, List.getElem?_cons_zero]; rfl
                        case hq61 => exact fun _ _ _ h => h
                        case hw61 => kernel_rfl
                        case hy61 => (intro w hSw; (try dsimp only at hSw); go_simp; try with_reducible rfl)
                        try simp only [Act.put, List.setIfInBounds_toArray, List.set_cons_zero, List.set_cons_succ]
                        refine wpAnyH_take (i := 21) (oi := ?oi62) (v := ?v62) ?hi62 (by kernel_rfl) (by kernel_rfl) (by kernel_rfl) ?hq62 (Or.inl ⟨?hw62, ?hy62⟩) (by assumption) ?rest62
                        case hi62 => simp only [List.getElem?_toArray, List.getElem?_cons_succ, List.getElem?_cons_zero]; rfl
                        case hq62 => exact fun _ _ _ h => h
                        case hw62 => kernel_rfl
                        case hy62 => (intro w hSw; (try dsimp only at hSw); go_simp; try with_reducible rfl)
                        try simp only [Act.put, List.setIfInBounds_toArray, List.set_cons_zero, List.set_cons_succ]
                        refine wpAnyH_take (i := 22) (oi := ?oi63) (v := ?v63) ?hi63 (by kernel_rfl) (by kernel_rfl) (by kernel_rfl) ?hq63 (Or.inl ⟨?hw63, ?hy63⟩) (by assumption) ?rest63
                        case hi63 => simp only [List.getElem?_toArray, List.getElem?_cons_succ, List.getElem?_cons_zero]; rfl
                        case hq63 => exact fun _ _ _ h => h
                        case hw63 => kernel_rfl
                        case hy63 => (intro w hSw; (try dsimp only at hSw); go_simp; try with_reducible rfl)
                        try simp only [Act.put, List.setIfInBounds_toArray, List.set_cons_zero, List.set_cons_succ]
                        refine wpAnyH_take (i := 23) (oi := ?oi64) (v := ?v64) ?hi64 (by kernel_rfl) (by kernel_rfl) (by kernel_rfl) ?hq64 (Or.inl ⟨?hw64, ?hy64⟩) (by assumption) ?rest64
                        case hi64 => simp only [List.getElem?_toArray, List.getElem?_cons_succ, List.getElem?_cons_zero]; rfl
                        case hq64 => exact fun _ _ _ h => h
                        case hw64 => kernel_rfl
                        case hy64 => (intro w hSw; (try dsimp only at hSw); go_simp; try with_reducible rfl)
                        try simp only [Act.put, List.setIfInBounds_toArray, List.set_cons_zero, List.set_cons_succ]
                        refine wpAnyH_take (i := 24) (oi := ?oi65) (v := ?v65) ?hi65 (by kernel_rfl) (by kernel_rfl) (by kernel_rfl) ?hq65 (Or.inl ⟨?hw65, ?hy65⟩) (by assumption) ?rest65
                        case hi65 => simp only [List.getElem?_toArray, List.getElem?_cons_succ, List.getElem?_cons_zero]; rfl
                        case hq65 => exact fun _ _ _ h => h
                        case hw65 => kernel_rfl
                        case hy65 => (intro w hSw; (try dsimp only at hSw); go_simp; try with_reducible rfl)
                        try simp only [Act.put, List.setIfInBounds_toArray, List.set_cons_zero, List.set_cons_succ]
                        refine wpAnyH_take (i := 25) (oi := ?oi66) (v := ?v66) ?hi66 (by kernel_rfl) (by kernel_rfl) (by kernel_rfl) ?hq66 (Or.inl ⟨?hw66, ?hy66⟩) (by assumption) ?rest66
                        case hi66 => simp only [List.getElem?_toArray, List.getElem?_cons_succ, List.getElem?_cons_zero]; rfl
                        case hq66 => exact fun _ _ _ h => h
                        case hw66 => kernel_rfl
                        case hy66 => (intro w hSw; (try dsimp only at hSw); go_simp; try with_reducible rfl)
                        try simp only [Act.put, List.setIfInBounds_toArray, List.set_cons_zero, List.set_cons_succ]
                        refine wpAnyH_take (i := 27) (oi := ?oi67) (v := ?v67) ?hi67 (by kernel_rfl) (by kernel_rfl) (by kernel_rfl) ?hq67 (Or.inl ⟨?hw67, ?hy67⟩) (by assumption) ?rest67
                        case hi67 => simp only [List.getElem?_toArray, List.getElem?_cons_succ, List.getElem?_cons_zero]; rfl
                        case hq67 => exact fun _ _ _ h => h
                        case hw67 => kernel_rfl
                        case hy67 => (intro w hSw; (try dsimp only at hSw); go_simp; try with_reducible rfl)
                        try simp only [Act.put, List.setIfInBounds_toArray, List.set_cons_zero, List.set_cons_succ]
                        refine wpAnyH_take (i := 28) (oi := ?oi68) (v := ?v68) ?hi68 (by kernel_rfl) (by kernel_rfl) (by kernel_rfl) ?hq68 (Or.inl ⟨?hw68, ?hy68⟩) (by assumption) ?rest68
                        case hi68 => simp only [List.getElem?_toArray, List.getElem?_cons_succ, List.getElem?_cons_zero]; rfl
                        case hq68 => exact fun _ _ _ h => h
                        case hw68 => kernel_rfl
                        case hy68 => (intro w hSw; (try dsimp only at hSw); go_simp; try with_reducible rfl)
                        try simp only [Act.put, List.setIfInBounds_toArray, List.set_cons_zero, List.set_cons_succ]
                        refine wpAnyH_take (i := 29) (oi := ?oi69) (v := ?v69) ?hi69 (by kernel_rfl) (by kernel_rfl) (by kernel_rfl) ?hq69 (Or.inl ⟨?hw69, ?hy69⟩) (by assumption) ?rest69
                        case hi69 => simp only [List.getElem?_toArray, List.getElem?_cons_succ, List.getElem?_cons_zero]; rfl
                        case hq69 => exact fun _ _ _ h => h
                        case hw69 => kernel_rfl
                        case hy69 => (intro w hSw; (try dsimp only at hSw); go_simp; try with_reducible rfl)
                        try simp only [Act.put, List.setIfInBounds_toArray, List.set_cons_zero, List.set_cons_succ]
                        refine wpAnyH_ready (rs := [26]) (by kernel_rfl) (by simp) ?_
                        refine AllReadyH.cons (o := ?o70) ?ho70 (fun K hK => ?st70) AllReadyH.nil
                        case ho70 => simp only [List.getElem?_toArray, List.getElem?_cons_succ, List.getElem?_cons_zero]; rfl
                        go_simp
                        go_at_call 57
                        refine (HNA.out _ (HT.out.below (Nat.le_refl _) (HB4'.out.trans (hHeld.2.2.2.2.2.2.mono HB4'.out.size)))).mono ?_
                        rintro e wq ⟨rfl, hb2⟩
                        have hBel := Below.trans hHeld.2.2.2.2.2.2 (hb2.mono (Below.size hHeld.2.2.2.2.2.2))
                        clear hHeld
                        try go_simp
                        refine hK.out _ _ ?_ (fun hHeld => ?_)
                        · exact HALL.out _ hBel
                        clear hK K hb2 hBel
                        try simp only [Act.put, List.setIfInBounds_toArray, List.set_cons_zero, List.set_cons_succ]
                        refine wpAnyH_ready (rs := [30]) (by kernel_rfl) (by simp) ?_
                        refine AllReadyH.cons (o := ?o71) ?ho71 (fun K hK => ?st71) AllReadyH.nil
                        case ho71 => simp only [List.getElem?_toArray, List.getElem?_cons_succ, List.getElem?_cons_zero]; rfl
                        go_simp
                        go_at_call 57
                        refine (HNB.out _ (HT.out.below (Nat.le_refl _) (HB4'.out.trans (hHeld.2.2.2.2.2.2.mono HB4'.out.size)))).mono ?_
                        rintro e wq ⟨rfl, hb2⟩
                        have hBel := Below.trans hHeld.2.2.2.2.2.2 (hb2.mono (Below.size hHeld.2.2.2.2.2.2))
                        clear hHeld
                        try go_simp
                        refine hK.out _ _ ?_ (fun hHeld => ?_)
                        · exact HALL.out _ hBel
                        clear hK K hb2 hBel
                        try simp only [Act.put, List.setIfInBounds_toArray, List.set_cons_zero, List.set_cons_succ]
                        refine wpAnyH_take (i := 31) (oi := ?oi72) (v := ?v72) ?hi72 (by kernel_rfl) (by kernel_rfl) (by kernel_rfl) ?hq72 (Or.inl ⟨?hw72, ?hy72⟩) (by assumption) ?rest72
                        case hi72 => simp only [List.getElem?_toArray, List.getElem?_cons_succ, List.getElem?_cons_zero]; rfl
                        case hq72 => exact fun _ _ _ h => h
                        case hw72 => kernel_rfl
                        case hy72 => (intro w hSw; (try dsimp only at hSw); go_simp; try with_reducible rfl)
                        try simp only [Act.put, List.setIfInBounds_toArray, List.set_cons_zero, List.set_cons_succ]
                        refine wpAnyH_take (i := 32) (oi := ?oi73) (v := ?v73) ?hi73 (by kernel_rfl) (by kernel_rfl) (by kernel_rfl) ?hq73 (Or.inl ⟨?hw73, ?hy73⟩) (by assumption) ?rest73
                        case hi73 => simp only [List.getElem?_toArray, List.getElem?_cons_succ, List.getElem?_cons_zero]; rfl
                        case hq73 => exact fun _ _ _ h => h
                        case hw73 => kernel_rfl
                        case hy73 => (intro w hSw; (try dsimp only at hSw); go_simp; try with_reducible rfl)
                        try simp only [Act.put, List.setIfInBounds_toArray, List.set_cons_zero, List.set_cons_succ]
                        refine wpAnyH_take (i := 33) (oi := ?oi74) (v := ?v74) ?hi74 (by kernel_rfl) (by kernel_rfl) (by kernel_rfl) ?hq74 (Or.inl ⟨?hw74, ?hy74⟩) (by assumption) ?rest74
                        case hi74 => simp only [List.getElem?_toArray, List.getElem?_cons_succ, List.getElem?_cons_zero]; rfl
                        case hq74 => exact fun _ _ _ h => h
                        case hw74 => kernel_rfl
                        case hy74 => (intro w hSw; (try dsimp only at hSw); go_simp; try with_reducible rfl)
                        try simp only [Act.put, List.setIfInBounds_toArray, List.set_cons_zero, List.set_cons_succ]
                        refine wpAnyH_take (i := 34) (oi := ?oi75) (v := ?v75) ?hi75 (by kernel_rfl) (by kernel_rfl) (by kernel_rfl) ?hq75 (Or.inl ⟨?hw75, ?hy75⟩) (by assumption) ?rest75
                        case hi75 => simp only [List.getElem?_toArray, List.getElem?_cons_succ, List.getElem?_cons_zero]; rfl
                        case hq75 => exact fun _ _ _ h => h
                        case hw75 => kernel_rfl
                        case hy75 => (intro w hSw; (try dsimp only at hSw); go_simp; try with_reducible rfl)
                        try simp only [Act.put, List.setIfInBounds_toArray, List.set_cons_zero, List.set_cons_succ]
                        refine wpAnyH_take (i := 35) (oi := ?oi76) (v := ?v76) ?hi76 (by kernel_rfl) (by kernel_rfl) (by kernel_rfl) ?hq76 (Or.inl ⟨?hw76, ?hy76⟩) (by assumption) ?rest76
                        case hi76 => simp only [List.getElem?_toArray, List.getElem?_cons_succ, List.getElem?_cons_zero]; rfl
                        case hq76 => exact fun _ _ _ h => h
                        case hw76 => kernel_rfl
                        case hy76 => (intro w hSw; (try dsimp only at hSw); go_simp; try with_reducible rfl)
                        try simp only [Act.put, List.setIfInBounds_toArray, List.set_cons_zero, List.set_cons_succ]
                        refine wpAnyH_take (i := 36) (oi := ?oi77) (v := ?v77) ?hi77 (by kernel_rfl) (by kernel_rfl) (by kernel_rfl) ?hq77 (Or.inl ⟨?hw77, ?hy77⟩) (by assumption) ?rest77
                        case hi77 => simp only [List.getElem?_toArray, List.getElem?_cons_succ, List.getElem?_cons_zero]; rfl
                        case hq77 => exact fun _ _ _ h => h
                        case hw77 => kernel_rfl
                        case hy77 => (intro w hSw; (try dsimp only at hSw); go_simp; try with_reducible rfl)
                        try simp only [Act.put, List.setIfInBounds_toArray, List.set_cons_zero, List.set_cons_succ]
                        refine wpAnyH_ready (rs := [37]) (by kernel_rfl) (by simp) ?_
                        refine AllReadyH.cons (o := ?o78) ?ho78 (fun K hK => ?st78) AllReadyH.nil
                        case ho78 => simp only [List.getElem?_toArray, List.getElem?_cons_succ, List.getElem?_cons_zero]; rfl
                        go_simp
                        go_at_call 57
                        refine (HNA.out _ (HT.out.below (Nat.le_refl _) (HB4'.out.trans (hHeld.2.2.2.2.2.2.mono HB4'.out.size)))).mono ?_
                        rintro e wq ⟨rfl, hb2⟩
                        have hBel := Below.trans hHeld.2.2.2.2.2.2 (hb2.mono (Below.size hHeld.2.2.2.2.2.2))
                        clear hHeld
                        try go_simp
                        refine hK.out _ _ ?_ (fun hHeld => ?_)
                        · exact HALL.out _ hBel
                        clear hK K hb2 hBel
                        try simp only [Act.put, List.setIfInBounds_toArray, List.set_cons_zero, List.set_cons_succ]
                        refine wpAnyH_take (i := 38) (oi := ?oi79) (v := ?v79) ?hi79 (by kernel_rfl) (by kernel_rfl) (by kernel_rfl) ?hq79 (Or.inl ⟨?hw79, ?hy79⟩) (by assumption) ?rest79
                        case hi79 => simp only [List.getElem?_toArray, List.getElem?_cons_succ, List.getElem?_cons_zero]; rfl
                        case hq79 => exact fun _ _ _ h => h
                        case hw79 => kernel_rfl
                        case hy79 => (intro w hSw; (try dsimp only at hSw); go_simp; try with_reducible rfl)
                        try simp only [Act.put, List.setIfInBounds_toArray, List.set_cons_zero, List.set_cons_succ]
                        refine wpAnyH_take (i := 39) (oi := ?oi80) (v := ?v80) ?hi80 (by kernel_rfl) (by kernel_rfl) (by kernel_rfl) ?hq80 (Or.inl ⟨?hw80, ?hy80⟩) (by assumption) ?rest80
                        case hi80 => simp only [List.getElem?_toArray, List.getElem?_cons_succ, List.getElem?_cons_zero]; rfl
                        case hq80 => exact fun _ _ _ h => h
                        case hw80 => kernel_rfl
                        case hy80 => (intro w hSw; (try dsimp only at hSw); go_simp; try with_reducible rfl)
                        try simp only [Act.put, List.setIfInBounds_toArray, List.set_cons_zero, List.set_cons_succ]
                        refine wpAnyH_done (by kernel_rfl) ?_ _
                        have hq : Below wr.heap.size wr wq := hHeld.2.2.2.2.2.2
                        have HSq := Lib.hid (HS4.out.below hq)
                        have HBq : Hid (Below w.heap.size w wq) := HB4'.out.trans (hq.mono HB4'.out.size)
                        clear hHeld hq
                        go_wp2_with fail
                        go_roundw
                        case rel => exact ⟨k + 1, by omega, by go_num, HSq.out, HBq.out⟩
                        case measure => simp [intOf]; omega
                    · rw [if_neg h5] at r0
                      have t5 : decide (((k : Nat) : Int) < 5) = false := by simp; omega
                      have t6 : decide ((5 : Int) ≤ ((k : Nat) : Int)) = true := by simp; omega
                      have t8 : 5 ≤ k := by omega
                      have t7 : decide ((0 : Int) < ((k : Nat) : Int)) = true := by simp; omega
                      have t9 : 0 < k := by omega
                      have HALL : Hid (∀ W, Below wr.heap.size wr W → W.cell? ⟨w2.heap.size, 0, none⟩ = some (.int .i64 c.cells) ∧ W.cell? ⟨w2.heap.size, 1, none⟩ = some (.int .i64 c.muts) ∧ W.cell? ⟨w2.heap.size, 2, none⟩ = some (.int .i64 c.regs) ∧ W.cell? ⟨w2.heap.size, 3, none⟩ = some (.int .i64 c.globs) ∧ W.cell? ⟨w3.heap.size + 1 + 1, 0, none⟩ = some (.slice (some ⟨w3.heap.size + 1, 0, none⟩) N N) ∧ W.cell? ⟨w3.heap.size + 1, k, none⟩ = some (.int .i64 1) ∧ Below wr.heap.size wr W) := fun W hB => by
                        have H9 := HS4.out.below hB
                        obtain ⟨q0, q1, q2, q3⟩ := Cfg.mcells_at H9.m
                        exact ⟨q0, q1, q2, q3, cell_of_block H9.s 0, (hB.cell (show w3.heap.size + 1 < _ from HS4.out.r.lt)).trans r0, hB⟩
                      have HNB := Lib.hid (fun W h => pname_any W c ((k : Int) - 1) h)
                      have hnn : ¬ c.name (k : Int) = c.name ((k : Int) - 1) := fun e => by have := names_apart c HG.out.ok HKW.out (by have := HKW.out; omega) e; omega
                      have q9 := strF hnn
                      have s1 : IntKind.i64.wrap ((k : Int) - 1) = (k : Int) - 1 := IntWalk.i64_in _ (by omega)
                      clear hnn
                      generalize c.name ((k : Int) - 1) = nj at *
                      generalize c.name (k : Int) = nk at *
                      go_wp2_with fail
                      refine wp_region_held_drew (S := fun W => W.cell? ⟨w2.heap.size, 0, none⟩ = some (.int .i64 c.cells) ∧ W.cell? ⟨w2.heap.size, 1, none⟩ = some (.int .i64 c.muts) ∧ W.cell? ⟨w2.heap.size, 2, none⟩ = some (.int .i64 c.regs) ∧ W.cell? ⟨w2.heap.size, 3, none⟩ = some (.int .i64 c.globs) ∧ W.cell? ⟨w3.heap.size + 1 + 1, 0, none⟩ = some (.slice (some ⟨w3.heap.size + 1, 0, none⟩) N N) ∧ W.cell? ⟨w3.heap.size + 1, k, none⟩ = some (.int .i64 1) ∧ Below wr.heap.size wr W) (by kernel_rfl) ?_ (fun hHeld => ?_)
                      · exact HALL.out _ (Below.refl _ _).drew
                      refine wpAnyH_take (i := 0) (oi := ?oi81) (v := ?v81) ?hi81 (by kernel_rfl) (by kernel_rfl) (by kernel_rfl) ?hq81 (Or.inl ⟨?hw81, ?hy81⟩) (by assumption) ?rest81
                      case hi81 => simp only [List.getElem?_toArray, List.getElem?_cons_succ, List.getElem?_cons_zero]; rfl
                      case hq81 => exact fun _ _ _ h => h
                      case hw81 => kernel_rfl
                      case hy81 => (intro w hSw; (try dsimp only at hSw); go_simp; try with_reducible rfl)
                      try simp only [Act.put, List.setIfInBounds_toArray, List.set_cons_zero, List.set_cons_succ]
                      refine wpAnyH_take (i := 1) (oi := ?oi82) (v := ?v82) ?hi82 (by kernel_rfl) (by kernel_rfl) (by kernel_rfl) ?hq82 (Or.inl ⟨?hw82, ?hy82⟩) (by assumption) ?rest82
                      case hi82 => simp only [List.getElem?_toArray, List.getElem?_cons_succ, List.getElem?_cons_zero]; rfl
                      case hq82 => exact fun _ _ _ h => h
                      case hw82 => kernel_rfl
                      case hy82 => (intro w hSw; (try dsimp only at hSw); go_simp; try with_reducible rfl)
                      try simp only [Act.put, List.setIfInBounds_toArray, List.set_cons_zero, List.set_cons_succ]
                      refine wpAnyH_take (i := 2) (oi := ?oi83) (v := ?v83) ?hi83 (by kernel_rfl) (by kernel_rfl) (by kernel_rfl) ?hq83 (Or.inl ⟨?hw83, ?hy83⟩) (by assumption) ?rest83
                      case hi83 => simp only [List.getElem?_toArray, List.getElem?_cons_succ, List.getElem?_cons_zero]; rfl
                      case hq83 => exact fun _ _ _ h => h
                      case hw83 => kernel_rfl
                      case hy83 => (intro w hSw; (try dsimp only at hSw); go_simp; try with_reducible rfl)
                      try simp only [Act.put, List.setIfInBounds_toArray, List.set_cons_zero, List.set_cons_succ]
                      refine wpAnyH_take (i := 3) (oi := ?oi84) (v := undef) ?hi84 (by kernel_rfl) (by kernel_rfl) (by kernel_rfl) ?hq84 (Or.inr ⟨?hw84, rfl⟩) (by assumption) ?rest84
                      case hi84 => simp only [List.getElem?_toArray, List.getElem?_cons_succ, List.getElem?_cons_zero]; rfl
                      case hq84 => exact fun _ _ _ h => h
                      case hw84 => kernel_rfl
                      try simp only [Act.put, List.setIfInBounds_toArray, List.set_cons_zero, List.set_cons_succ]
                      refine wpAnyH_take (i := 4) (oi := ?oi85) (v := undef) ?hi85 (by kernel_rfl) (by kernel_rfl) (by kernel_rfl) ?hq85 (Or.inr ⟨?hw85, rfl⟩) (by assumption) ?rest85
                      case hi85 => simp only [List.getElem?_toArray, List.getElem?_cons_succ, List.getElem?_cons_zero]; rfl
                      case hq85 => exact fun _ _ _ h => h
                      case hw85 => kernel_rfl
                      try simp only [Act.put, List.setIfInBounds_toArray, List.set_cons_zero, List.set_cons_succ]
                      refine wpAnyH_take (i := 5) (oi := ?oi86) (v := undef) ?hi86 (by kernel_rfl) (by kernel_rfl) (by kernel_rfl) ?hq86 (Or.inr ⟨?hw86, rfl⟩) (by assumption) ?rest86
                      case hi86 => simp only [List.getElem?_toArray, List.getElem?_cons_succ, List.getElem?_cons_zero]; rfl
                      case hq86 => exact fun _ _ _ h => h
                      case hw86 => kernel_rfl
                      try simp only [Act.put, List.setIfInBounds_toArray, List.set_cons_zero, List.set_cons_succ]
                      refine wpAnyH_take (i := 6) (oi := ?oi87) (v := undef) ?hi87 (by kernel_rfl) (by kernel_rfl) (by kernel_rfl) ?hq87 (Or.inr ⟨?hw87, rfl⟩) (by assumption) ?rest87
                      case hi87 => simp only [List.getElem?_toArray, List.getElem?_cons_succ, List.getElem?_cons_zero]; rfl
                      case hq87 => exact fun _ _ _ h => h
                      case hw87 => kernel_rfl
                      try simp only [Act.put, List.setIfInBounds_toArray, List.set_cons_zero, List.set_cons_succ]
                      refine wpAnyH_take (i := 7) (oi := ?oi88) (v := undef) ?hi88 (by kernel_rfl) (by kernel_rfl) (by kernel_rfl) ?hq88 (Or.inr ⟨?hw88, rfl⟩) (by assumption) ?rest88
                      case hi88 => simp only [List.getElem?_toArray, List.getElem?_cons_succ, List.getElem?_cons_zero]; rfl
                      case hq88 => exact fun _ _ _ h => h
                      case hw88 => kernel_rfl
                      try simp only [Act.put, List.setIfInBounds_toArray, List.set_cons_zero, List.set_cons_succ]
                      refine wpAnyH_take (i := 8) (oi := ?oi89) (v := ?v89) ?hi89 (by kernel_rfl) (by kernel_rfl) (by kernel_rfl) ?hq89 (Or.inl ⟨?hw89, ?hy89⟩) (by assumption) ?rest89
                      case hi89 => simp only [List.getElem?_toArray, List.getElem?_cons_succ, List.getElem?_cons_zero]; rfl
                      case hq89 => exact fun _ _ _ h => h
                      case hw89 => kernel_rfl
                      case hy89 => (intro w hSw; (try dsimp only at hSw); go_simp; try with_reducible rfl)
                      try simp only [Act.put, List.setIfInBounds_toArray, List.set_cons_zero, List.set_cons_succ]
                      refine wpAnyH_take (i := 9) (oi := ?oi90) (v := ?v90) ?hi90 (by kernel_rfl) (by kernel_rfl) (by kernel_rfl) ?hq90 (Or.inl ⟨?hw90, ?hy90⟩) (by assumption) ?rest90
                      case hi90 => simp only [List.getElem?_toArray, List.getElem?_cons_succ, List.getElem?_cons_zero]; rfl
                      case hq90 => exact fun _ _ _ h => h
                      case hw90 => kernel_rfl
                      case hy90 => (intro w hSw; (try dsimp only at hSw); go_simp; try with_reducible rfl)
                      try simp only [Act.put, List.setIfInBounds_toArray, List.set_cons_zero, List.set_cons_succ]
                      refine wpAnyH_take (i := 10) (oi := ?oi91) (v := ?v91) ?hi91 (by kernel_rfl) (by kernel_rfl) (by kernel_rfl) ?hq91 (Or.inl ⟨?hw91, ?hy91⟩) (by assumption) ?rest91
                      case hi91 => simp only [List.getElem?_toArray, List.getElem?_cons_succ, List.getElem?_cons_zero]; rfl
                      case hq91 => exact fun _ _ _ h => h
                      case hw91 => kernel_rfl
                      case hy91 => (intro w hSw; (try dsimp only at hSw); go_simp; try with_reducible rfl)
                      try simp only [Act.put, List.setIfInBounds_toArray, List.set_cons_zero, List.set_cons_succ]
                      refine wpAnyH_take (i := 11) (oi := ?oi92) (v := ?v92) ?hi92 (by kernel_rfl) (by kernel_rfl) (by kernel_rfl) ?hq92 (Or.inl ⟨?hw92, ?hy92⟩) (by assumption) ?rest92
                      case hi92 => simp only [List.getElem?_toArray, List.getElem?_cons_succ, List.getElem?_cons_zero]; rfl
                      case hq92 => exact fun _ _ _ h => h
                      case hw92 => kernel_rfl
                      case hy92 => (intro w hSw; (try dsimp only at hSw); go_simp; try with_reducible rfl)
                      try simp only [Act.put, List.setIfInBounds_toArray, List.set_cons_zero, List.set_cons_succ]
                      refine wpAnyH_take (i := 12) (oi := ?oi93) (v := ?v93) ?hi93 (by kernel_rfl) (by kernel_rfl) (by kernel_rfl) ?hq93 (Or.inl ⟨?hw93, ?hy93⟩) (by assumption) ?rest93
                      case hi93 => simp only [List.getElem?_toArray, List.getElem?_cons_succ, List.getElem?_cons_zero]; rfl
                      case hq93 => exact fun _ _ _ h => h
                      case hw93 => kernel_rfl
                      case hy93 => (intro w hSw; (try dsimp only at hSw); go_simp; try with_reducible rfl)
                      try simp only [Act.put, List.setIfInBounds_toArray, List.set_cons_zero, List.set_cons_succ]
                      refine wpAnyH_take (i := 13) (oi := ?oi94) (v := ?v94) ?hi94 (by kernel_rfl) (by kernel_rfl) (by kernel_rfl) ?hq94 (Or.inl ⟨?hw94, ?hy94⟩) (by assumption) ?rest94
                      case hi94 => simp only [List.getElem?_toArray, List.getElem?_cons_succ, List.getElem?_cons_zero]; rfl
                      case hq94 => exact fun _ _ _ h => h
                      case hw94 => kernel_rfl
                      case hy94 => (intro w hSw; (try dsimp only at hSw); go_simp; try with_reducible rfl)
                      try simp only [Act.put, List.setIfInBounds_toArray, List.set_cons_zero, List.set_cons_succ]
                      refine wpAnyH_take (i := 14) (oi := ?oi95) (v := ?v95) ?hi95 (by kernel_rfl) (by kernel_rfl) (by kernel_rfl) ?hq95 (Or.inl ⟨?hw95, ?hy95⟩) (by assumption) ?rest95
                      case hi95 => simp only [List.getElem?_toArray, List.getElem?_cons_succ, List.getElem?_cons_zero]; rfl
                      case hq95 => exact fun _ _ _ h => h
                      case hw95 => kernel_rfl
                      case hy95 => (intro w hSw; (try dsimp only at hSw); go_simp; try with_reducible rfl)
                      try simp only [Act.put, List.setIfInBounds_toArray, List.set_cons_zero, List.set_cons_succ]
                      refine wpAnyH_take (i := 15) (oi := ?oi96) (v := ?v96) ?hi96 (by kernel_rfl) (by kernel_rfl) (by kernel_rfl) ?hq96 (Or.inl ⟨?hw96, ?hy96⟩) (by assumption) ?rest96
                      case hi96 => simp only [List.getElem?_toArray, List.getElem?_cons_succ, List.getElem?_cons_zero]; rfl
                      case hq96 => exact fun _ _ _ h => h
                      case hw96 => kernel_rfl
                      case hy96 => (intro w hSw; (try dsimp only at hSw); go_simp; try with_reducible rfl)
                      try simp only [Act.put, List.setIfInBounds_toArray, List.set_cons_zero, List.set_cons_succ]
                      refine wpAnyH_take (i := 16) (oi := ?oi97) (v := ?v97) ?hi97 (by kernel_rfl) (by kernel_rfl) (by kernel_rfl) ?hq97 (Or.inl ⟨?hw97, ?hy97⟩) (by assumption) ?rest97
                      case hi97 => simp only [List.getElem?_toArray, List.getElem?_cons_succ, List.getElem?_cons_zero]; rfl
                      case hq97 => exact fun _ _ _ h => h
                      case hw97 => kernel_rfl
                      case hy97 => (intro w hSw; (try dsimp only at hSw); go_simp; try with_reducible rfl)
                      try simp only [Act.put, List.setIfInBounds_toArray, List.set_cons_zero, List.set_cons_succ]
                      refine wpAnyH_take (i := 17) (oi := ?oi98) (v := ?v98) ?hi98 (by kernel_rfl) (by kernel_rfl) (by kernel_rfl) ?hq98 (Or.inl ⟨?hw98, ?hy98⟩) (by assumption) ?rest98
                      case hi98 => simp only [List.getElem?_toArray, List.getElem?_cons_succ, List.getElem?_cons_zero]; rfl
                      case hq98 => exact fun _ _ _ h => h
                      case hw98 => kernel_rfl
                      case hy98 => (intro w hSw; (try dsimp only at hSw); go_simp; try with_reducible rfl)
                      try simp only [Act.put, List.setIfInBounds_toArray, List.set_cons_zero, List.set_cons_succ]
                      refine wpAnyH_take (i := 18) (oi := ?oi99) (v := ?v99) ?hi99 (by kernel_rfl) (by kernel_rfl) (by kernel_rfl) ?hq99 (Or.inl ⟨?hw99, ?hy99⟩) (by assumption) ?rest99
                      case hi99 => simp only [List.getElem?_toArray, List.getElem?_cons_succ, List.getElem?_cons_zero]; rfl
                      case hq99 => exact fun _ _ _ h => h
                      case hw99 => kernel_rfl
                      case hy99 => (intro w hSw; (try dsimp only at hSw); go_simp; try with_reducible rfl)
                      try simp only [Act.put, List.setIfInBounds_toArray, List.set_cons_zero, List.set_cons_succ]
                      refine wpAnyH_take (i := 19) (oi := ?oi100) (v := ?v100) ?hi100 (by kernel_rfl) (by kernel_rfl) (by kernel_rfl) ?hq100 (Or.inl ⟨?hw100, ?hy100⟩) (by assumption) ?rest100
                      case hi100 => simp only [List.getElem?_toArray, List.getElem?_cons_succ, List.getElem?_cons_zero]; rfl
                      case hq100 => exact fun _ _ _ h => h
                      case hw100 => kernel_rfl
                      case hy100 => (intro w hSw; (try dsimp only at hSw); go_simp; try with_reducible rfl)
                      try simp only [Act.put, List.setIfInBounds_toArray, List.set_cons_zero, List.set_cons_succ]
                      refine wpAnyH_take (i := 20) (oi := ?oi101) (v := ?v101) ?hi101 (by kernel_rfl) (by kernel_rfl) (by kernel_rfl) ?hq101 (Or.inl ⟨?hw101, ?hy101⟩) (by assumption) ?rest101
                      case hi101 => simp only [List.getElem?_toArray, List.getElem?_cons_succ, List.getElem?_cons_zero]; rfl
                      case hq101 => exact fun _ _ _ h => h
                      case hw101 => kernel_rfl
                      case hy101 => (intro w hSw; (try dsimp only at hSw); go_simp; try with_reducible rfl)
                      try simp only [Act.put, List.setIfInBounds_toArray, List.set_cons_zero, List.set_cons_succ]
                      refine wpAnyH_take (i := 21) (oi := ?oi102) (v := ?v102) ?hi102 (by kernel_rfl) (by kernel_rfl) (by kernel_rfl) ?hq102 (Or.inl ⟨?hw102, ?hy102⟩) (by assumption) ?rest102
                      case hi102 => simp only [List.getElem?_toArray, List.getElem?_cons_succ, List.getElem?_cons_zero]; rfl
                      case hq102 => exact fun _ _ _ h => h
                      case hw102 => kernel_rfl
                      case hy102 => (intro w hSw; (try dsimp only at hSw); go_simp; try with_reducible rfl)
                      try simp only [Act.put, List.setIfInBounds_toArray, List.set_cons_zero, List.set_cons_succ]
                      refine wpAnyH_take (i := 22) (oi := ?oi103) (v := ?v103) ?hi103 (by kernel_rfl) (by kernel_rfl) (by kernel_rfl) ?hq103 (Or.inl ⟨?hw103, ?hy103⟩) (by assumption) ?rest103
                      case hi103 => simp only [List.getElem?_toArray, List.getElem?_cons_succ, List.getElem?_cons_zero]; rfl
                      case hq103 => exact fun _ _ _ h => h
                      case hw103 => kernel_rfl
                      case hy103 => (intro w hSw; (try dsimp only at hSw); go_simp; try with_reducible rfl)
                      try simp only [Act.put, List.setIfInBounds_toArray, List.set_cons_zero, List.set_cons_succ]
                      refine wpAnyH_take (i := 23) (oi := ?oi104) (v := ?v104) ?hi104 (by kernel_rfl) (by kernel_rfl) (by kernel_rfl) ?hq104 (Or.inl ⟨?hw104, ?hy104⟩) (by assumption) ?rest104
                      case hi104 => simp only [List.getElem?_toArray, List.getElem?_cons_succ, List.getElem?_cons_zero]; rfl
                      case hq104 => exact fun _ _ _ h => h
                      case hw104 => kernel_rfl
                      case hy104 => (intro w hSw; (try dsimp only at hSw); go_simp; try with_reducible rfl)
                      try simp only [Act.put, List.setIfInBounds_toArray, List.set_cons_zero, List.set_cons_succ]
                      refine wpAnyH_take (i := 24) (oi := ?oi105) (v := ?v105) ?hi105 (by kernel_rfl) (by kernel_rfl) (by kernel_rfl) ?hq105 (Or.inl ⟨?hw105, ?hy105⟩) (by assumption) ?rest105
                      case hi105 => simp only [List.getElem?_toArray, List.getElem?_cons_succ, List.getElem?_cons_zero]; rfl
                      case hq105 => exact fun _ _ _ h => h
                      case hw105 => kernel_rfl
                      case hy105 => (intro w hSw; (try dsimp only at hSw); go_simp; try with_reducible rfl)
                      try simp only [Act.put, List.setIfInBounds_toArray, List.set_cons_zero, List.set_cons_succ]
                      refine wpAnyH_take (i := 25) (oi := ?oi106) (v := ?v106) ?hi106 (by kernel_rfl) (by kernel_rfl) (by kernel_rfl) ?hq106 (Or.inl ⟨?hw106, ?hy106⟩) (by assumption) ?rest106
                      case hi106 => simp only [List.getElem?_toArray, List.getElem?_cons_succ, List.getElem?_cons_zero]; rfl
                      case hq106 => exact fun _ _ _ h => h
                      case hw106 => kernel_rfl
                      case hy106 => (intro w hSw; (try dsimp only at hSw); go_simp; try with_reducible rfl)
                      try simp only [Act.put, List.setIfInBounds_toArray, List.set_cons_zero, List.set_cons_succ]
                      refine wpAnyH_take (i := 27) (oi := ?oi107) (v := ?v107) ?hi107 (by kernel_rfl) (by kernel_rfl) (by kernel_rfl) ?hq107 (Or.inl ⟨?hw107, ?hy107⟩) (by assumption) ?rest107
                      case hi107 => simp only [List.getElem?_toArray, List.getElem?_cons_succ, List.getElem?_cons_zero]; rfl
                      case hq107 => exact fun _ _ _ h => h
                      case hw107 => kernel_rfl
                      case hy107 => (intro w hSw; (try dsimp only at hSw); go_simp; try with_reducible rfl)
                      try simp only [Act.put, List.setIfInBounds_toArray, List.set_cons_zero, List.set_cons_succ]
                      refine wpAnyH_take (i := 28) (oi := ?oi108) (v := ?v108) ?hi108 (by kernel_rfl) (by kernel_rfl) (by kernel_rfl) ?hq108 (Or.inl ⟨?hw108, ?hy108⟩) (by assumption) ?rest108
                      case hi108 => simp only [List.getElem?_toArray, List.getElem?_cons_succ, List.getElem?_cons_zero]; rfl
                      case hq108 => exact fun _ _ _ h => h
                      case hw108 => kernel_rfl
                      case hy108 => (intro w hSw; (try dsimp only at hSw); go_simp; try with_reducible rfl)
                      try simp only [Act.put, List.setIfInBounds_toArray, List.set_cons_zero, List.set_cons_succ]
                      refine wpAnyH_take (i := 29) (oi := ?oi109) (v := ?v109) ?hi109 (by kernel_rfl) (by kernel_rfl) (by kernel_rfl) ?hq109 (Or.inl ⟨?hw109, ?hy109⟩) (by assumption) ?rest109
                      case hi109 => simp only [List.getElem?_toArray, List.getElem?_cons_succ, List.getElem?_cons_zero]; rfl
                      case hq109 => exact fun _ _ _ h => h
                      case hw109 => kernel_rfl
                      case hy109 => (intro w hSw; (try dsimp only at hSw); go_simp; try with_reducible rfl)
                      try simp only [Act.put, List.setIfInBounds_toArray, List.set_cons_zero, List.set_cons_succ]
                      refine wpAnyH_ready (rs := [26]) (by kernel_rfl) (by simp) ?_
                      refine AllReadyH.cons (o := ?o110) ?ho110 (fun K hK => ?st110) AllReadyH.nil
                      case ho110 => simp only [List.getElem?_toArray, List.getElem?_cons_succ, List.getElem?_cons_zero]; rfl
                      go_simp
                      go_at_call 57
                      refine (HNA.out _ (HT.out.below (Nat.le_refl _) (HB4'.out.trans (hHeld.2.2.2.2.2.2.mono HB4'.out.size)))).mono ?_
                      rintro e wq ⟨rfl, hb2⟩
                      have hBel := Below.trans hHeld.2.2.2.2.2.2 (hb2.mono (Below.size hHeld.2.2.2.2.2.2))
                      clear hHeld
                      try go_simp
                      refine hK.out _ _ ?_ (fun hHeld => ?_)
                      · exact HALL.out _ hBel
                      clear hK K hb2 hBel
                      try simp only [Act.put, List.setIfInBounds_toArray, List.set_cons_zero, List.set_cons_succ]
                      refine wpAnyH_ready (rs := [30]) (by kernel_rfl) (by simp) ?_
                      refine AllReadyH.cons (o := ?o111) ?ho111 (fun K hK => ?st111) AllReadyH.nil
                      case ho111 => simp only [List.getElem?_toArray, List.getElem?_cons_succ, List.getElem?_cons_zero]; rfl
                      go_simp
                      go_at_call 57
                      refine (HNB.out _ (HT.out.below (Nat.le_refl _) (HB4'.out.trans (hHeld.2.2.2.2.2.2.mono HB4'.out.size)))).mono ?_
                      rintro e wq ⟨rfl, hb2⟩
                      have hBel := Below.trans hHeld.2.2.2.2.2.2 (hb2.mono (Below.size hHeld.2.2.2.2.2.2))
                      clear hHeld
                      try go_simp
                      refine hK.out _ _ ?_ (fun hHeld => ?_)
                      · exact HALL.out _ hBel
                      clear hK K hb2 hBel
                      try simp only [Act.put, List.setIfInBounds_toArray, List.set_cons_zero, List.set_cons_succ]
                      refine wpAnyH_take (i := 31) (oi := ?oi112) (v := ?v112) ?hi112 (by kernel_rfl) (by kernel_rfl) (by kernel_rfl) ?hq112 (Or.inl ⟨?hw112, ?hy112⟩) (by assumption) ?rest112
                      case hi112 => simp only [List.getElem?_toArray, List.getElem?_cons_succ, List.getElem?_cons_zero]; rfl
                      case hq112 => exact fun _ _ _ h => h
                      case hw112 => kernel_rfl
                      case hy112 => (intro w hSw; (try dsimp only at hSw); go_simp; try with_reducible rfl)
                      try simp only [Act.put, List.setIfInBounds_toArray, List.set_cons_zero, List.set_cons_succ]
                      refine wpAnyH_take (i := 32) (oi := ?oi113) (v := ?v113) ?hi113 (by kernel_rfl) (by kernel_rfl) (by kernel_rfl) ?hq113 (Or.inl ⟨?hw113, ?hy113⟩) (by assumption) ?rest113
                      case hi113 => simp only [List.getElem?_toArray, List.getElem?_cons_succ, List.getElem?_cons_zero]; rfl
                      case hq113 => exact fun _ _ _ h => h
                      case hw113 => kernel_rfl
                      case hy113 => (intro w hSw; (try dsimp only at hSw); go_simp; try with_reducible rfl)
                      try simp only [Act.put, List.setIfInBounds_toArray, List.set_cons_zero, List.set_cons_succ]
                      refine wpAnyH_take (i := 33) (oi := ?oi114) (v := ?v114) ?hi114 (by kernel_rfl) (by kernel_rfl) (by kernel_rfl) ?hq114 (Or.inl ⟨?hw114, ?hy114⟩) (by assumption) ?rest114
                      case hi114 => simp only [List.getElem?_toArray, List.getElem?_cons_succ, List.getElem?_cons_zero]; rfl
                      case hq114 => exact fun _ _ _ h => h
                      case hw114 => kernel_rfl
                      case hy114 => (intro w hSw; (try dsimp only at hSw); go_simp; try with_reducible rfl)
                      try simp only [Act.put, List.setIfInBounds_toArray, List.set_cons_zero, List.set_cons_succ]
                      refine wpAnyH_take (i := 34) (oi := ?oi115) (v := ?v115) ?hi115 (by kernel_rfl) (by kernel_rfl) (by kernel_rfl) ?hq115 (Or.inl ⟨?hw115, ?hy115⟩) (by assumption) ?rest115
                      case hi115 => simp only [List.getElem?_toArray, List.getElem?_cons_succ, List.getElem?_cons_zero]; rfl
                      case hq115 => exact fun _ _ _ h => h
                      case hw115 => kernel_rfl
                      case hy115 => (intro w hSw; (try dsimp only at hSw); go_simp; try with_reducible rfl)
                      try simp only [Act.put, List.setIfInBounds_toArray, List.set_cons_zero, List.set_cons_succ]
                      refine wpAnyH_take (i := 35) (oi := ?oi116) (v := ?v116) ?hi116 (by kernel_rfl) (by kernel_rfl) (by kernel_rfl) ?hq116 (Or.inl ⟨?hw116, ?hy116⟩) (by assumption) ?rest116
                      case hi116 => simp only [List.getElem?_toArray, List.getElem?_cons_succ, List.getElem?_cons_zero]; rfl
                      case hq116 => exact fun _ _ _ h => h
                      case hw116 => kernel_rfl
                      case hy116 => (intro w hSw; (try dsimp only at hSw); go_simp; try with_reducible rfl)
                      try simp only [Act.put, List.setIfInBounds_toArray, List.set_cons_zero, List.set_cons_succ]
                      refine wpAnyH_take (i := 36) (oi := ?oi117) (v := ?v117) ?hi117 (by kernel_rfl) (by kernel_rfl) (by kernel_rfl) ?hq117 (Or.inl ⟨?hw117, ?hy117⟩) (by assumption) ?rest117
                      case hi117 => simp only [List.getElem?_toArray, List.getElem?_cons_succ, List.getElem?_cons_zero]; rfl
                      case hq117 => exact fun _ _ _ h => h
                      case hw117 => kernel_rfl
                      case hy117 => (intro w hSw; (try dsimp only at hSw); go_simp; try with_reducible rfl)
                      try simp only [Act.put, List.setIfInBounds_toArray, List.set_cons_zero, List.set_cons_succ]
                      refine wpAnyH_ready (rs := [37]) (by kernel_rfl) (by simp) ?_
                      refine AllReadyH.cons (o := ?o118) ?ho118 (fun K hK => ?st118) AllReadyH.nil
                      case ho118 => simp only [List.getElem?_toArray, List.getElem?_cons_succ, List.getElem?_cons_zero]; rfl
                      go_simp
                      go_at_call 57
                      refine (HNA.out _ (HT.out.below (Nat.le_refl _) (HB4'.out.trans (hHeld.2.2.2.2.2.2.mono HB4'.out.size)))).mono ?_
                      rintro e wq ⟨rfl, hb2⟩
                      have hBel := Below.trans hHeld.2.2.2.2.2.2 (hb2.mono (Below.size hHeld.2.2.2.2.2.2))
                      clear hHeld
                      try go_simp
                      refine hK.out _ _ ?_ (fun hHeld => ?_)
                      · exact HALL.out _ hBel
                      clear hK K hb2 hBel
                      try simp only [Act.put, List.setIfInBounds_toArray, List.set_cons_zero, List.set_cons_succ]
                      refine wpAnyH_take (i := 38) (oi := ?oi119) (v := ?v119) ?hi119 (by kernel_rfl) (by kernel_rfl) (by kernel_rfl) ?hq119 (Or.inl ⟨?hw119, ?hy119⟩) (by assumption) ?rest119
                      case hi119 => simp only [List.getElem?_toArray, List.getElem?_cons_succ, List.getElem?_cons_zero]; rfl
                      case hq119 => exact fun _ _ _ h => h
                      case hw119 => kernel_rfl
                      case hy119 => (intro w hSw; (try dsimp only at hSw); go_simp; try with_reducible rfl)
                      try simp only [Act.put, List.setIfInBounds_toArray, List.set_cons_zero, List.set_cons_succ]
                      refine wpAnyH_take (i := 39) (oi := ?oi120) (v := ?v120) ?hi120 (by kernel_rfl) (by kernel_rfl) (by kernel_rfl) ?hq120 (Or.inl ⟨?hw120, ?hy120⟩) (by assumption) ?rest120
                      case hi120 => simp only [List.getElem?_toArray, List.getElem?_cons_succ, List.getElem?_cons_zero]; rfl
                      case hq120 => exact fun _ _ _ h => h
                      case hw120 => kernel_rfl
                      case hy120 => (intro w hSw; (try dsimp only at hSw); go_simp; try with_reducible rfl)
                      try simp only [Act.put, List.setIfInBounds_toArray, List.set_cons_zero, List.set_cons_succ]
                      refine wpAnyH_done (by kernel_rfl) ?_ _
                      have hq : Below wr.heap.size wr wq := hHeld.2.2.2.2.2.2
                      have HSq := Lib.hid (HS4.out.below hq)
                      have HBq : Hid (Below w.heap.size w wq) := HB4'.out.trans (hq.mono HB4'.out.size)
                      clear hHeld hq
                      go_wp2_with fail
                      go_roundw
                      case rel => exact ⟨k + 1, by omega, by go_num, HSq.out, HBq.out⟩
                      case measure => simp [intOf]; omega
                  · obtain rfl : k = N := by omega
                    go_wp2_with fail
                    go_ret
                    exact ⟨rfl, HB4'.out⟩
  · have HE : Hid (c.err = 2) := by unfold Hid Cfg.err; rw [if_neg ok]
    have HM : Hid (c.map = Cfg.zero) := by unfold Hid Cfg.map; rw [if_neg ok]
    rw [HE.out, HM.out]
    clear ok
    unfold Cfg.zero
    go_wp2_with fail
    go_ret
    exact ⟨rfl, HB2.out.alloc HB2.out.size _⟩
end Go.Proofs.YtcheafeaioflmaaDoor

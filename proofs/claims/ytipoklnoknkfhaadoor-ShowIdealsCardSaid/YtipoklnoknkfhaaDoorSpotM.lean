/- What each place of a configuration is, and its name: plain laws. The reference's list of all places: what each is. A spot's cells, as the list holds them. The words at first: place.First and the reference's First. The words at first, by the reference: the walk of mudlarkref04.First. -/
import Derived.Test.YtipoklnoknkfhaaDoorWordAll
import Derived.Test.YtipoklnoknkfhaaDoorPlace
import Derived.Lib.ItoaMem
import Derived.Test.YtipoklnoknkfhaaDoorRefPl
import Derived.BigQuiet
namespace Go.Proofs.YtipoklnoknkfhaaDoor
open Go Go.RowKit

def Cfg.b1 (c : Cfg) : Int := 5 + c.muts
def Cfg.b2 (c : Cfg) : Int := 5 + c.muts + c.globs
def Cfg.b3 (c : Cfg) : Int := 5 + c.muts + c.globs + c.muts * c.regs
/-- what a place is: its kind, and numbers -/
structure Spot where
  kind : Int
  a : Int
  b : Int
  deriving DecidableEq
def Cfg.spot (c : Cfg) (k : Int) : Spot :=
  if k < 5 then ⟨0, k, 0⟩
  else if k < c.b1 then ⟨1, k - 5, 0⟩
  else if k < c.b2 then ⟨2, k - c.b1, 0⟩
  else if k < c.b3 then ⟨3, (k - c.b2) / c.regs, (k - c.b2) % c.regs⟩
  else ⟨4 + (k - c.b3) % 3, (k - c.b3) / 3, 0⟩
theorem Cfg.words_b3 (c : Cfg) (h : c.ok = true) : c.words = c.b3 + 3 * c.cells := by
  unfold Cfg.words Cfg.roots Cfg.b3
  rw [if_pos h, if_pos h]
  omega
theorem Cfg.bounds (c : Cfg) (h : c.ok = true) : 6 ≤ c.b1 ∧ c.b1 ≤ c.b2 ∧ c.b2 < c.b3 ∧ c.b3 ≤ 4164 ∧ c.b1 = 5 + c.muts ∧ c.b2 = c.b1 + c.globs ∧ c.b3 = c.b2 + c.muts * c.regs := by
  have h1 := c.mr h
  rw [Cfg.ok_iff] at h
  unfold Cfg.b1 Cfg.b2 Cfg.b3
  omega
theorem Cfg.spot_0 (c : Cfg) (k : Int) (h : k < 5) : c.spot k = ⟨0, k, 0⟩ := by unfold Cfg.spot; rw [if_pos h]
theorem Cfg.spot_1 (c : Cfg) (ok : c.ok = true) (i : Int) (h0 : 0 ≤ i) (h : i < c.muts) : c.spot (5 + i) = ⟨1, i, 0⟩ := by
  have hb := c.bounds ok
  unfold Cfg.spot
  rw [if_neg (by omega), if_pos (by omega), show 5 + i - 5 = i by omega]
theorem Cfg.spot_2 (c : Cfg) (ok : c.ok = true) (i : Int) (h0 : 0 ≤ i) (h : i < c.globs) : c.spot (c.b1 + i) = ⟨2, i, 0⟩ := by
  have hb := c.bounds ok
  unfold Cfg.spot
  rw [if_neg (by omega), if_neg (by omega), if_pos (by omega), show c.b1 + i - c.b1 = i by omega]
theorem row_lt {i r n m : Int} (h0 : 0 ≤ i) (h : i < m) (h1 : 0 ≤ r) (h2 : r < n) : 0 ≤ i * n + r ∧ i * n + r < m * n := by
  have h3 : i * n + n ≤ m * n := by
    have := Int.mul_le_mul_of_nonneg_right (show i + 1 ≤ m by omega) (show 0 ≤ n by omega)
    rwa [Int.add_mul, Int.one_mul] at this
  have h4 : 0 ≤ i * n := Int.mul_nonneg h0 (by omega)
  omega
theorem row_div {i r n : Int} (h1 : 0 ≤ r) (h2 : r < n) : (i * n + r) / n = i ∧ (i * n + r) % n = r := by
  have hn : n ≠ 0 := by omega
  constructor
  · rw [Int.add_comm, Int.add_mul_ediv_right _ _ hn, Int.ediv_eq_zero_of_lt h1 h2]
    omega
  · rw [Int.add_comm, Int.add_mul_emod_self_right, Int.emod_eq_of_lt h1 h2]
theorem Cfg.spot_3 (c : Cfg) (ok : c.ok = true) (i r : Int) (h0 : 0 ≤ i) (h : i < c.muts) (h1 : 0 ≤ r) (h2 : r < c.regs) : c.spot (c.b2 + (i * c.regs + r)) = ⟨3, i, r⟩ := by
  have hb := c.bounds ok
  have hr := row_lt h0 h h1 h2
  obtain ⟨d1, d2⟩ := row_div (i := i) h1 h2
  unfold Cfg.spot
  rw [if_neg (by omega), if_neg (by omega), if_neg (by omega), if_pos (by omega), show c.b2 + (i * c.regs + r) - c.b2 = i * c.regs + r by omega, d1, d2]
theorem Cfg.spot_4 (c : Cfg) (ok : c.ok = true) (i d : Int) (h0 : 0 ≤ i) (h1 : 0 ≤ d) (h2 : d < 3) : c.spot (c.b3 + 3 * i + d) = ⟨4 + d, i, 0⟩ := by
  have hb := c.bounds ok
  unfold Cfg.spot
  rw [if_neg (by omega), if_neg (by omega), if_neg (by omega), if_neg (by omega)]
  congr 1 <;> omega

/-! ### names -/
def onceNames : List (List UInt8) := [[102, 114, 101, 101], [103, 97, 116, 101], [100, 105, 114, 116, 121], [110, 101, 120, 116], [115, 101, 114, 118, 101]]
def kindNames : List (List UInt8) := [[], [105, 110], [103, 108, 111, 98], [114, 101, 103], [99, 97, 114], [99, 100, 114], [99, 111, 108, 111, 117, 114]]
def onceName (a : Int) : ByteArray := ⟨(onceNames.getD a.toNat []).toArray⟩
def kindName (k : Int) : ByteArray := ⟨(kindNames.getD k.toNat []).toArray⟩
def spc : ByteArray := ⟨#[32]⟩
def nat (n : Int) : ByteArray := dec n.toNat
def Spot.name (s : Spot) : ByteArray :=
  if s.kind = 0 then onceName s.a
  else if s.kind = 3 then kindName 3 ++ spc ++ nat s.a ++ spc ++ nat s.b
  else kindName s.kind ++ spc ++ nat s.a
def Cfg.name (c : Cfg) (k : Int) : ByteArray := if c.ok = true ∧ 0 ≤ k ∧ k < c.words then (c.spot k).name else ⟨#[]⟩
/-- the word of a place at first -/
def Cfg.first (c : Cfg) (k : Int) : Int :=
  if (c.spot k).kind = 5 ∧ (c.spot k).a + 1 < c.cells then 2 * ((c.spot k).a + 1) + 1
  else if (c.spot k).kind = 0 ∧ (c.spot k).a = 0 then 1 else 0
end Go.Proofs.YtipoklnoknkfhaaDoor
namespace Go.Proofs.YtipoklnoknkfhaaDoor
open Go Go.RowKit
set_option linter.unusedSimpArgs false
set_option linter.unusedVariables false

def Spot.cells (s : Spot) : List Value := [.int .i64 s.kind, .int .i64 s.a, .int .i64 s.b]
def Cfg.scells (c : Cfg) (n : Nat) : List Value := (List.range n).flatMap fun (k : Nat) => (c.spot (k : Int)).cells
theorem Cfg.scells_next (c : Cfg) (n : Nat) : c.scells (n + 1) = c.scells n ++ (c.spot (n : Int)).cells := by unfold Cfg.scells; rw [List.range_succ, List.flatMap_append]; simp
theorem Cfg.scells_len (c : Cfg) : ∀ n : Nat, (c.scells n).length = n * 3
  | 0 => rfl
  | n + 1 => by rw [Cfg.scells_next, List.length_append, Cfg.scells_len c n]; simp [Spot.cells]; omega
theorem reads_new (W : World) (E : TypeId) (cs : List Value) (m size : Nat) (h : cs.length = m * size) : Reads (W.alloc (.cells cs.toArray E)) (W.heap.size + 1) size (some ⟨W.heap.size, 0, none⟩) m cs := by
  refine ⟨h, fun _ => ⟨_, rfl, by simp, fun j u hu => ?_⟩⟩
  have e : (⟨W.heap.size, 0, none⟩ : Addr).add j = ⟨W.heap.size, j, none⟩ := by unfold Addr.add; split <;> simp_all
  rw [e, cell_of_block (heap_alloc_new W _)]
  simpa using hu
theorem info_spot : (Tryd.prog.info? 45).map (fun i => (i.zero, i.size, i.bytes)) = some (some (.agg #[.int .i64 0, .int .i64 0, .int .i64 0]), 3, 24) := by kernel_rfl
theorem info_spot' : ∃ i, Tryd.prog.info? 45 = some i ∧ i.zero = some (.agg #[.int .i64 0, .int .i64 0, .int .i64 0]) ∧ i.size = 3 ∧ i.bytes = 24 := by
  have := info_spot
  cases hh : Tryd.prog.info? 45 with
  | none => rw [hh] at this; cases this
  | some i =>
    rw [hh] at this
    simp at this
    exact ⟨i, rfl, this⟩
theorem row_app {w wr w1 : World} {c : Cfg} {v v1 : Value} {N M M' : Nat} {ts us us' : List Value} {tmp : Obj} (HO : wr.ownsRow (w.heap.size + 1) 45 3 v N ts) (HB : Below w.heap.size w wr) (HX : wr.heap[w.heap.size]? = some c.obj)
    (hg : (wr.alloc tmp).grownBy w1 v.ownBlock) (hown : w1.ownsRow (w.heap.size + 1) 45 3 v1 M us) (hM : M = M') (hus : us = us') :
    w1.ownsRow (w.heap.size + 1) 45 3 v1 M' us' ∧ Below w.heap.size w w1 ∧ w1.heap[w.heap.size]? = some c.obj := by
  subst hM; subst hus
  have hs := HB.size
  have hx := block_lt HX
  refine ⟨hown, (HB.alloc hs tmp).grown hg (by simp; omega) (fun k hk => by have := (HO.lt k hk).1; omega), ?_⟩
  rw [hg.block w.heap.size (by simp; omega) (fun e => by have := (HO.lt w.heap.size e.symm).1; omega), Below.heap_alloc _ _ _ hx]
  exact HX
theorem Cfg.cells_n {c : Cfg} {w : World} {b n m r g : Nat} (h : w.heap[b]? = some c.obj) (hn : c.cells = n) (hm : c.muts = m) (hr : c.regs = r) (hg : c.globs = g) :
    w.cell? ⟨b, 0, none⟩ = some (.int .i64 (n : Int)) ∧ w.cell? ⟨b, 1, none⟩ = some (.int .i64 (m : Int)) ∧ w.cell? ⟨b, 2, none⟩ = some (.int .i64 (r : Int)) ∧ w.cell? ⟨b, 3, none⟩ = some (.int .i64 (g : Int)) := by
  obtain ⟨k0, k1, k2, k3⟩ := Cfg.cells_at h
  rw [hn] at k0
  rw [hm] at k1
  rw [hr] at k2
  rw [hg] at k3
  exact ⟨k0, k1, k2, k3⟩
/-- what All hands back -/
def AllPost (w : World) (c : Cfg) (T : Nat) (e : Ending) (w' : World) : Prop :=
  ∃ v, e = .returned v ∧ w'.ownsRow (w.heap.size + 1) 45 3 v T (c.scells T) ∧ Below w.heap.size w w'
theorem all_no (w : World) (c : Cfg) (ok : c.ok = false) : Calls Tryd.prog 83 #[c.v] w fun e w' => e = .returned (.slice none 0 0) ∧ Below w.heap.size w w' := by
  have HB0 : Hid (Below w.heap.size w (w.alloc c.obj)) := (Below.refl _ _).alloc (Nat.le_refl _) _
  have HOK := Lib.hid ok
  clear ok
  go_enter Tryd.func83, Tryd.ntmps83
  go_wp2_with fail
  refine (refright_any _ c).mono ?_
  rintro e w1 ⟨rfl, hb⟩
  rw [HOK.out]
  have HB : Hid (Below w.heap.size w w1) := HB0.out.trans (hb.mono HB0.out.size)
  clear hb
  go_wp2_with fail
  go_ret
  exact ⟨rfl, HB.out⟩
set_option maxHeartbeats 8000000 in
set_option maxRecDepth 100000 in
theorem all_any (w : World) (c : Cfg) (n m r g : Nat) (hn : c.cells = n) (hm : c.muts = m) (hr : c.regs = r) (hg : c.globs = g) (ok : c.ok = true) :
    Calls Tryd.prog 83 #[c.v] w (AllPost w c (5 + m + g + m * r + 3 * n)) := by
  have HB00 : Hid (Below w.heap.size w (w.alloc c.obj)) := (Below.refl _ _).alloc (Nat.le_refl _) _
  have hbd := c.ok_iff.1 ok
  have b0 : n ≤ 4096 := by omega
  have b1 : m ≤ 63 := by omega
  have b2 : r ≤ 64 := by omega
  have b3 : g ≤ 64 := by omega
  have OK := Lib.hid ok
  have HN := Lib.hid hn
  have HM := Lib.hid hm
  have HR := Lib.hid hr
  have HG := Lib.hid hg
  obtain ⟨i0, hi0, hz0, hz1, hz2⟩ := info_spot'
  clear ok hn hm hr hg hbd
  go_enter Tryd.func83, Tryd.ntmps83
  go_wp2_with fail
  refine (refright_any _ c).mono ?_
  rintro e w1 ⟨rfl, hb⟩
  rw [OK.out]
  have HS0 : Hid (w1.ownsRow (w.heap.size + 1) 45 3 (.slice none 0 0) 0 (c.scells 0) ∧ Below w.heap.size w w1 ∧ w1.heap[w.heap.size]? = some c.obj) :=
    ⟨World.ownsRow_nil _ _ _ _, HB00.out.trans (hb.mono HB00.out.size), (hb.block w.heap.size (by simp)).trans (heap_alloc_new w c.obj)⟩
  clear hb
  go_wp2_with fail
  go_loopw [3, 4] (fun v i wr => ∃ k : Nat, k ≤ 5 ∧ i = .int .i64 k ∧ Hid (wr.ownsRow (w.heap.size + 1) 45 3 v (k) (c.scells (k))) ∧ Hid (Below w.heap.size w wr) ∧ Hid (wr.heap[w.heap.size]? = some c.obj)) (fun _ i _ => 5 - (intOf i).toNat)
  case atStart => exact ⟨0, Nat.zero_le _, rfl, HS0.out.1, HS0.out.2.1, HS0.out.2.2⟩
  case round =>
    obtain ⟨k, hk, rfl, HO, HB, HX⟩ := hrel
    by_cases hlt : k < 5
    · obtain ⟨k0, k1, k2, k3⟩ := Cfg.cells_n HX.out HN.out HM.out HR.out HG.out
      have HOA : Hid ((wr.alloc (.cells #[.int .i64 0, .int .i64 k, .int .i64 0] 45)).ownsRow (w.heap.size + 1) 45 3 u3 (k) (c.scells (k))) := HO.out.alloc _
      have HEQ : Hid (c.scells (k) ++ [.int .i64 0, .int .i64 k, .int .i64 0] = c.scells (k + 1)) := by
        rw [Cfg.scells_next, Cfg.spot_0 c _ (by omega)]
        rfl
      have hTb : k ≤ 20000 := by omega
      generalize hts : c.scells k = ts at *
      have hwr := HB.out.size
      go_wp2_with (first
        | (at_builtin
           refine wpList_append_any _ rfl (.tmp 17) (.tmp 20) _ rfl (w.heap.size + 1) 45 i0 _ 3 24 Tryd.underlying153 hi0 hz0 hz1 hz2 rfl (by omega) u3 k ts rfl
             HOA.out _ _ 1 1 [.int .i64 0, .int .i64 k, .int .i64 0] rfl (reads_new _ _ _ _ _ rfl) (by intro u hu; simp at hu; rcases hu with rfl | rfl | rfl <;> rfl) (by unfold maxLen; omega) (by omega) (by have := block_lt HX.out; simp; omega) ?_
           intro v1 w1' hown1 hg1 _
           have HQ := Lib.hid (row_app HO.out HB.out HX.out hg1 hown1 (M' := k + 1) (by omega) HEQ.out)
           clear hown1 hg1))
      go_roundw
      case rel => exact ⟨k + 1, by omega, by go_num, HQ.out.1, HQ.out.2.1, HQ.out.2.2⟩
      case measure => simp [intOf]; omega
    · have hke : k = 5 := by omega
      rw [hke] at HO
      have HS := Lib.hid (And.intro HO.out (And.intro HB.out HX.out))
      obtain ⟨k0, k1, k2, k3⟩ := Cfg.cells_n HX.out HN.out HM.out HR.out HG.out
      clear HO HB HX hke hk
      have d5 : decide ((k : Int) < 5) = false := by simp; omega
      go_wp2_with fail
      clear k0 k1 k2 k3 hlt
      go_loopw [3, 5] (fun v i wr => ∃ k : Nat, k ≤ m ∧ i = .int .i64 k ∧ Hid (wr.ownsRow (w.heap.size + 1) 45 3 v (5 + k) (c.scells (5 + k))) ∧ Hid (Below w.heap.size w wr) ∧ Hid (wr.heap[w.heap.size]? = some c.obj)) (fun _ i _ => m - (intOf i).toNat)
      case atStart => exact ⟨0, Nat.zero_le _, rfl, HS.out.1, HS.out.2.1, HS.out.2.2⟩
      case round =>
        obtain ⟨k, hk, rfl, HO, HB, HX⟩ := hrel
        by_cases hlt : k < m
        · obtain ⟨k0, k1, k2, k3⟩ := Cfg.cells_n HX.out HN.out HM.out HR.out HG.out
          have HOA : Hid ((wr.alloc (.cells #[.int .i64 1, .int .i64 k, .int .i64 0] 45)).ownsRow (w.heap.size + 1) 45 3 u3 (5 + k) (c.scells (5 + k))) := HO.out.alloc _
          have HEQ : Hid (c.scells (5 + k) ++ [.int .i64 1, .int .i64 k, .int .i64 0] = c.scells (5 + (k + 1))) := by
            rw [show 5 + (k + 1) = 5 + k + 1 by omega, Cfg.scells_next]
            rw [show ((5 + k : Nat) : Int) = 5 + (k : Int) by simp [Cfg.b1, Cfg.b2, Cfg.b3, HM.out, HR.out, HG.out] <;> omega]
            rw [c.spot_1 OK.out k (by omega) (by rw [HM.out]; omega)]
            rfl
          have hTb : 5 + k ≤ 20000 := by omega
          generalize hN : 5 + k = N at *
          generalize hts : c.scells N = ts at *
          have hwr := HB.out.size
          go_wp2_with (first
            | (at_builtin
               refine wpList_append_any _ rfl (.tmp 28) (.tmp 31) _ rfl (w.heap.size + 1) 45 i0 _ 3 24 Tryd.underlying153 hi0 hz0 hz1 hz2 rfl (by omega) u3 N ts rfl
                 HOA.out _ _ 1 1 [.int .i64 1, .int .i64 k, .int .i64 0] rfl (reads_new _ _ _ _ _ rfl) (by intro u hu; simp at hu; rcases hu with rfl | rfl | rfl <;> rfl) (by unfold maxLen; omega) (by omega) (by have := block_lt HX.out; simp; omega) ?_
               intro v1 w1' hown1 hg1 _
               have HQ := Lib.hid (row_app HO.out HB.out HX.out hg1 hown1 (M' := 5 + (k + 1)) (by omega) HEQ.out)
               clear hown1 hg1))
          go_roundw
          case rel => exact ⟨k + 1, by omega, by go_num, HQ.out.1, HQ.out.2.1, HQ.out.2.2⟩
          case measure => simp [intOf]; omega
        · have hke : k = m := by omega
          rw [hke] at HO
          have HS := Lib.hid (And.intro HO.out (And.intro HB.out HX.out))
          obtain ⟨k0, k1, k2, k3⟩ := Cfg.cells_n HX.out HN.out HM.out HR.out HG.out
          clear HO HB HX hke hk
          go_wp2_with fail
          clear k0 k1 k2 k3 hlt
          go_loopw [3, 6] (fun v i wr => ∃ k : Nat, k ≤ g ∧ i = .int .i64 k ∧ Hid (wr.ownsRow (w.heap.size + 1) 45 3 v (5 + m + k) (c.scells (5 + m + k))) ∧ Hid (Below w.heap.size w wr) ∧ Hid (wr.heap[w.heap.size]? = some c.obj)) (fun _ i _ => g - (intOf i).toNat)
          case atStart => exact ⟨0, Nat.zero_le _, rfl, HS.out.1, HS.out.2.1, HS.out.2.2⟩
          case round =>
            obtain ⟨k, hk, rfl, HO, HB, HX⟩ := hrel
            by_cases hlt : k < g
            · obtain ⟨k0, k1, k2, k3⟩ := Cfg.cells_n HX.out HN.out HM.out HR.out HG.out
              have HOA : Hid ((wr.alloc (.cells #[.int .i64 2, .int .i64 k, .int .i64 0] 45)).ownsRow (w.heap.size + 1) 45 3 u3 (5 + m + k) (c.scells (5 + m + k))) := HO.out.alloc _
              have HEQ : Hid (c.scells (5 + m + k) ++ [.int .i64 2, .int .i64 k, .int .i64 0] = c.scells (5 + m + (k + 1))) := by
                rw [show 5 + m + (k + 1) = 5 + m + k + 1 by omega, Cfg.scells_next]
                rw [show ((5 + m + k : Nat) : Int) = c.b1 + (k : Int) by simp [Cfg.b1, Cfg.b2, Cfg.b3, HM.out, HR.out, HG.out] <;> omega]
                rw [c.spot_2 OK.out k (by omega) (by rw [HG.out]; omega)]
                rfl
              have hTb : 5 + m + k ≤ 20000 := by omega
              generalize hN : 5 + m + k = N at *
              generalize hts : c.scells N = ts at *
              have hwr := HB.out.size
              go_wp2_with (first
                | (at_builtin
                   refine wpList_append_any _ rfl (.tmp 39) (.tmp 42) _ rfl (w.heap.size + 1) 45 i0 _ 3 24 Tryd.underlying153 hi0 hz0 hz1 hz2 rfl (by omega) u3 N ts rfl
                     HOA.out _ _ 1 1 [.int .i64 2, .int .i64 k, .int .i64 0] rfl (reads_new _ _ _ _ _ rfl) (by intro u hu; simp at hu; rcases hu with rfl | rfl | rfl <;> rfl) (by unfold maxLen; omega) (by omega) (by have := block_lt HX.out; simp; omega) ?_
                   intro v1 w1' hown1 hg1 _
                   have HQ := Lib.hid (row_app HO.out HB.out HX.out hg1 hown1 (M' := 5 + m + (k + 1)) (by omega) HEQ.out)
                   clear hown1 hg1))
              go_roundw
              case rel => exact ⟨k + 1, by omega, by go_num, HQ.out.1, HQ.out.2.1, HQ.out.2.2⟩
              case measure => simp [intOf]; omega
            · have hke : k = g := by omega
              rw [hke] at HO
              have HS := Lib.hid (And.intro HO.out (And.intro HB.out HX.out))
              obtain ⟨k0, k1, k2, k3⟩ := Cfg.cells_n HX.out HN.out HM.out HR.out HG.out
              clear HO HB HX hke hk
              go_wp2_with fail
              clear k0 k1 k2 k3 hlt
              go_loopw [3, 7, 8] (fun v i _ wr => ∃ k : Nat, k ≤ m ∧ i = .int .i64 k ∧ Hid (wr.ownsRow (w.heap.size + 1) 45 3 v (5 + m + g + k * r) (c.scells (5 + m + g + k * r))) ∧ Hid (Below w.heap.size w wr) ∧ Hid (wr.heap[w.heap.size]? = some c.obj)) (fun _ i _ _ => m - (intOf i).toNat)
              case atStart => exact ⟨0, Nat.zero_le _, rfl, by rw [Nat.zero_mul]; exact HS.out.1, HS.out.2.1, HS.out.2.2⟩
              case round =>
                obtain ⟨k, hk, rfl, HO, HB, HX⟩ := hrel
                by_cases hlt : k < m
                · obtain ⟨k0, k1, k2, k3⟩ := Cfg.cells_n HX.out HN.out HM.out HR.out HG.out
                  obtain ⟨i, rfl⟩ : ∃ i : Nat, i = k := ⟨_, rfl⟩
                  obtain ⟨q, hq⟩ : ∃ q, q = i * r := ⟨_, rfl⟩
                  have hqb : q ≤ 4032 := by rw [hq]; exact Nat.le_trans (Nat.mul_le_mul (show i ≤ 63 by omega) (show r ≤ 64 by omega)) (by omega)
                  have HQ0 := Lib.hid hq
                  have HO0 : Hid (wr.ownsRow (w.heap.size + 1) 45 3 u3 (5 + m + g + q + 0) (c.scells (5 + m + g + q + 0))) := by rw [hq]; exact HO.out
                  have HB0 := HB
                  have HX0 := HX
                  have HIL := Lib.hid hlt
                  have hil : (i : Int) < (m : Int) := by omega
                  clear hq HO HB HX hk
                  go_wp2_with fail
                  clear hlt
                  clear k0 k1 k2 k3
                  obtain ⟨wo, rfl⟩ : ∃ wo : World, wo = wr := ⟨_, rfl⟩
                  go_loopw [3, 8] (fun v i wr => ∃ k : Nat, k ≤ r ∧ i = .int .i64 k ∧ Hid (wr.ownsRow (w.heap.size + 1) 45 3 v (5 + m + g + q + k) (c.scells (5 + m + g + q + k))) ∧ Hid (Below w.heap.size w wr) ∧ Hid (wr.heap[w.heap.size]? = some c.obj)) (fun _ i _ => r - (intOf i).toNat)
                  case atStart => exact ⟨0, Nat.zero_le _, rfl, HO0.out, HB0.out, HX0.out⟩
                  case round =>
                    obtain ⟨k, hk, rfl, HO, HB, HX⟩ := hrel
                    by_cases hlt : k < r
                    · obtain ⟨k0, k1, k2, k3⟩ := Cfg.cells_n HX.out HN.out HM.out HR.out HG.out
                      have HOA : Hid ((wr.alloc (.cells #[.int .i64 3, .int .i64 i, .int .i64 k] 45)).ownsRow (w.heap.size + 1) 45 3 u3 (5 + m + g + q + k) (c.scells (5 + m + g + q + k))) := HO.out.alloc _
                      have HEQ : Hid (c.scells (5 + m + g + q + k) ++ [.int .i64 3, .int .i64 i, .int .i64 k] = c.scells (5 + m + g + q + (k + 1))) := by
                        rw [show 5 + m + g + q + (k + 1) = 5 + m + g + q + k + 1 by omega, Cfg.scells_next]
                        rw [show ((5 + m + g + q + k : Nat) : Int) = c.b2 + ((i : Int) * c.regs + k) by rw [HQ0.out]; simp [Cfg.b2, HM.out, HR.out, HG.out]; omega]
                        rw [c.spot_3 OK.out i k (by omega) (by rw [HM.out]; have := HIL.out; omega) (by omega) (by rw [HR.out]; omega)]
                        rfl
                      have hTb : 5 + m + g + q + k ≤ 20000 := by omega
                      generalize hN : 5 + m + g + q + k = N at *
                      generalize hts : c.scells N = ts at *
                      have hwr := HB.out.size
                      go_wp2_with (first
                        | (at_builtin
                           refine wpList_append_any _ rfl (.tmp 56) (.tmp 60) _ rfl (w.heap.size + 1) 45 i0 _ 3 24 Tryd.underlying153 hi0 hz0 hz1 hz2 rfl (by omega) u3 N ts rfl
                             HOA.out _ _ 1 1 [.int .i64 3, .int .i64 i, .int .i64 k] rfl (reads_new _ _ _ _ _ rfl) (by intro u hu; simp at hu; rcases hu with rfl | rfl | rfl <;> rfl) (by unfold maxLen; omega) (by omega) (by have := block_lt HX.out; simp; omega) ?_
                           intro v1 w1' hown1 hg1 _
                           have HQ := Lib.hid (row_app HO.out HB.out HX.out hg1 hown1 (M' := 5 + m + g + q + (k + 1)) (by omega) HEQ.out)
                           clear hown1 hg1))
                      go_roundw
                      case rel => exact ⟨k + 1, by omega, by go_num, HQ.out.1, HQ.out.2.1, HQ.out.2.2⟩
                      case measure => simp [intOf]; omega
                    · have hke : k = r := by omega
                      rw [hke] at HO
                      clear hke
                      obtain ⟨k0, k1, k2, k3⟩ := Cfg.cells_n HX.out HN.out HM.out HR.out HG.out
                      go_wp2_with fail
                      go_roundw
                      case rel =>
                        have hil := HIL.out
                        refine ⟨i + 1, by omega, by go_num, ?_, HB.out, HX.out⟩
                        rw [show 5 + m + g + (i + 1) * r = 5 + m + g + q + r by rw [HQ0.out, Nat.add_mul]; omega]
                        exact HO.out
                      case measure => have := HIL.out; simp [intOf]; omega
                · have hke : k = m := by omega
                  rw [hke] at HO
                  have HS := Lib.hid (And.intro HO.out (And.intro HB.out HX.out))
                  obtain ⟨k0, k1, k2, k3⟩ := Cfg.cells_n HX.out HN.out HM.out HR.out HG.out
                  clear HO HB HX hke hk
                  go_wp2_with fail
                  clear k0 k1 k2 k3 hlt
                  go_loopw [3, 9] (fun v i wr => ∃ k : Nat, k ≤ n ∧ i = .int .i64 k ∧ Hid (wr.ownsRow (w.heap.size + 1) 45 3 v (5 + m + g + m * r + 3 * k) (c.scells (5 + m + g + m * r + 3 * k))) ∧ Hid (Below w.heap.size w wr) ∧ Hid (wr.heap[w.heap.size]? = some c.obj)) (fun _ i _ => n - (intOf i).toNat)
                  case atStart => exact ⟨0, Nat.zero_le _, rfl, HS.out.1, HS.out.2.1, HS.out.2.2⟩
                  case round =>
                    obtain ⟨k, hk, rfl, HO, HB, HX⟩ := hrel
                    by_cases hlt : k < n
                    · obtain ⟨k0, k1, k2, k3⟩ := Cfg.cells_n HX.out HN.out HM.out HR.out HG.out
                      obtain ⟨q, hq⟩ : ∃ q, q = m * r := ⟨_, rfl⟩
                      have hqb : q ≤ 4032 := by rw [hq]; exact Nat.le_trans (Nat.mul_le_mul (show m ≤ 63 by omega) (show r ≤ 64 by omega)) (by omega)
                      have HQ0 := Lib.hid hq
                      rw [← hq] at HO
                      clear hq
                      have HOA : Hid ((wr.alloc (.cells #[.int .i64 4, .int .i64 k, .int .i64 0, .int .i64 5, .int .i64 k, .int .i64 0, .int .i64 6, .int .i64 k, .int .i64 0] 45)).ownsRow (w.heap.size + 1) 45 3 u3 (5 + m + g + q + 3 * k) (c.scells (5 + m + g + q + 3 * k))) := HO.out.alloc _
                      have HEQ : Hid (c.scells (5 + m + g + q + 3 * k) ++ [.int .i64 4, .int .i64 k, .int .i64 0, .int .i64 5, .int .i64 k, .int .i64 0, .int .i64 6, .int .i64 k, .int .i64 0] = c.scells (5 + m + g + q + 3 * (k + 1))) := by
                        rw [show 5 + m + g + q + 3 * (k + 1) = 5 + m + g + q + 3 * k + 1 + 1 + 1 by omega, Cfg.scells_next, Cfg.scells_next, Cfg.scells_next]
                        have hb3 : c.b3 = 5 + m + g + q := by rw [HQ0.out]; simp [Cfg.b3, HM.out, HR.out, HG.out]
                        rw [show ((5 + m + g + q + 3 * k : Nat) : Int) = c.b3 + 3 * (k : Int) + 0 by omega, c.spot_4 OK.out k 0 (by omega) (by omega) (by omega)]
                        rw [show ((5 + m + g + q + 3 * k + 1 : Nat) : Int) = c.b3 + 3 * (k : Int) + 1 by omega, c.spot_4 OK.out k 1 (by omega) (by omega) (by omega)]
                        rw [show ((5 + m + g + q + 3 * k + 1 + 1 : Nat) : Int) = c.b3 + 3 * (k : Int) + 2 by omega, c.spot_4 OK.out k 2 (by omega) (by omega) (by omega)]
                        unfold Hid
                        simp [Spot.cells]
                      have hTb : 5 + m + g + q + 3 * k ≤ 20000 := by omega
                      generalize hN : 5 + m + g + q + 3 * k = N at *
                      generalize hts : c.scells N = ts at *
                      have hwr := HB.out.size
                      go_wp2_with (first
                        | (at_builtin
                           refine wpList_append_any _ rfl (.tmp 68) (.tmp 75) _ rfl (w.heap.size + 1) 45 i0 _ 3 24 Tryd.underlying153 hi0 hz0 hz1 hz2 rfl (by omega) u3 N ts rfl
                             HOA.out _ _ 3 3 [.int .i64 4, .int .i64 k, .int .i64 0, .int .i64 5, .int .i64 k, .int .i64 0, .int .i64 6, .int .i64 k, .int .i64 0] rfl (reads_new _ _ _ _ _ rfl) (by intro u hu; simp at hu; rcases hu with rfl | rfl | rfl | rfl | rfl | rfl | rfl | rfl | rfl <;> rfl) (by unfold maxLen; omega) (by omega) (by have := block_lt HX.out; simp; omega) ?_
                           intro v1 w1' hown1 hg1 _
                           have HQ := Lib.hid (row_app HO.out HB.out HX.out hg1 hown1 (M' := 5 + m + g + q + 3 * (k + 1)) (by omega) HEQ.out)
                           clear hown1 hg1))
                      go_roundw
                      case rel =>
                        refine ⟨k + 1, by omega, by go_num, ?_, HQ.out.2.1, HQ.out.2.2⟩
                        have := HQ.out.1
                        rw [HQ0.out] at this
                        exact this
                      case measure => simp [intOf]; omega
                    · have hke : k = n := by omega
                      rw [hke] at HO
                      have HS := Lib.hid (And.intro HO.out (And.intro HB.out HX.out))
                      obtain ⟨k0, k1, k2, k3⟩ := Cfg.cells_n HX.out HN.out HM.out HR.out HG.out
                      clear HO HB HX hke hk
                      go_wp2_with fail
                      go_ret
                      exact ⟨_, rfl, HS.out.1, HS.out.2.1⟩
end Go.Proofs.YtipoklnoknkfhaaDoor
namespace Go.Proofs.YtipoklnoknkfhaaDoor
open Go Go.RowKit

theorem scells_at (c : Cfg) (j d : Nat) (hd : d < 3) : ∀ T : Nat, j < T → (c.scells T)[j * 3 + d]? = (c.spot (j : Int)).cells[d]?
  | 0, h => by omega
  | T + 1, h => by
    rw [Cfg.scells_next]
    by_cases hj : j < T
    · rw [List.getElem?_append_left (by rw [Cfg.scells_len]; omega)]
      exact scells_at c j d hd T hj
    · obtain rfl : j = T := by omega
      rw [List.getElem?_append_right (by rw [Cfg.scells_len]; omega), Cfg.scells_len, Nat.add_sub_cancel_left]
/-- a spot's cells, as the row holds them -/
theorem row_spot {w : World} {B T : Nat} {c : Cfg} {v : Value} (h : w.ownsRow B 45 3 v T (c.scells T)) (hT : 0 < T) :
    ∃ g cap, v = .slice (some ⟨g, 0, none⟩) T cap ∧ g < w.heap.size ∧ B ≤ g ∧ T ≤ cap ∧ ∀ (j : Nat), j < T → w.cell? ⟨g, j * 3, none⟩ = some (.int .i64 (c.spot (j : Int)).kind) ∧ w.cell? ⟨g, j * 3 + 1, none⟩ = some (.int .i64 (c.spot (j : Int)).a) ∧ w.cell? ⟨g, j * 3 + 2, none⟩ = some (.int .i64 (c.spot (j : Int)).b) := by
  obtain ⟨g, cap, cur, hv, hB, hg, hc⟩ := (h.2.resolve_left (fun x => by omega))
  subst hv
  have hx : ∀ i u, (c.scells T)[i]? = some u → w.cell? ⟨g, i, none⟩ = some u := by
    intro i u hu
    have hl := (List.getElem?_eq_some_iff.1 hu).1
    rw [h.cellAt i (by rw [Cfg.scells_len] at hl; exact hl)]
    exact hu
  refine ⟨g, cap, rfl, block_lt hg, hB, hc.1, fun j hj => ⟨hx _ _ ?_, hx _ _ ?_, hx _ _ ?_⟩⟩
  · exact scells_at c j 0 (by omega) T hj
  · exact scells_at c j 1 (by omega) T hj
  · exact scells_at c j 2 (by omega) T hj
end Go.Proofs.YtipoklnoknkfhaaDoor
namespace Go.Proofs.YtipoklnoknkfhaaDoor
open Go Go.RowKit
set_option linter.unusedSimpArgs false
set_option linter.unusedVariables false

theorem info_fword : (Tryd.prog.info? 26).map (fun i => (i.zero, i.size, i.bytes)) = some (some (.int .u64 0), 1, 8) := by kernel_rfl
theorem made_row (n : Nat) : madeCells #[.int .u64 0] n = ((List.replicate n (0 : Int)).map (Value.int .u64)).toArray := by
  unfold madeCells
  have : ∀ x : Nat, [Value.int IntKind.u64 0][x % 1]?.getD default = Value.int IntKind.u64 0 := fun x => by rw [Nat.mod_one]; rfl
  simp [this]
  apply Array.ext
  · simp
  · intro i h1 h2
    simp
theorem make_fwords (w : World) (n : Nat) (hn : n ≤ 100000) :
    (Instr.makeSlice 24 (.int .i64 (n : Int)) (.int .i64 (n : Int))).run Tryd.prog w = .ok (.slice (some ⟨w.heap.size, 0, none⟩) n n) (w.alloc (.cells ((List.replicate n (0 : Int)).map (Value.int .u64)).toArray 26)) := by
  have hi : ∃ i, Tryd.prog.info? 26 = some i ∧ i.zero = some (.int .u64 0) ∧ i.size = 1 ∧ i.bytes = 8 := by
    have := info_fword
    cases hh : Tryd.prog.info? 26 with
    | none => rw [hh] at this; cases this
    | some i =>
      rw [hh] at this
      simp at this
      exact ⟨i, rfl, this⟩
  obtain ⟨i0, hi0, hz0, hz1, hz2⟩ := hi
  have h := run_make_rowN (P := Tryd.prog) 24 26 i0 _ Tryd.underlying24 hi0 hz0 .i64 .i64 n n (Nat.le_refl _) (by rw [hz2]; omega) (by omega) w
  rw [h, hz1, ← made_row]
  simp [Value.cells]
/-- a block of words -/
abbrev wordsObj (xs : List Int) : Obj := .cells ((xs.map (Value.int .u64)).toArray) 26
theorem words_set {w : World} {g : Nat} {xs : List Int} (h : w.heap[g]? = some (wordsObj xs)) (i : Nat) (v : Int) : (w.setCell ⟨g, i, none⟩ (.int .u64 v)).heap[g]? = some (wordsObj (xs.set i v)) := by
  rw [block_setCell h i _]
  congr 2
  simp
theorem words_cell {w : World} {g : Nat} {xs : List Int} (h : w.heap[g]? = some (wordsObj xs)) (i : Nat) (hi : i < xs.length) : w.cell? ⟨g, i, none⟩ = some (.int .u64 (wd xs i)) := by
  rw [cell_of_block h i]
  simp [wd, hi]
/-- what a word is behind the first i cells -/
def Cfg.fst (c : Cfg) (i : Int) (k : Int) : Int :=
  if (c.spot k).kind = 5 then (if (c.spot k).a < i then ((c.spot k).a + 1) * 2 + 1 else 0) else if k = 0 then 1 else 0
def Cfg.fl (c : Cfg) (T : Nat) (i : Int) : List Int := (List.range T).map fun (k : Nat) => c.fst i (k : Int)
theorem Cfg.fl_len (c : Cfg) (T : Nat) (i : Int) : (c.fl T i).length = T := by simp [Cfg.fl]
theorem spot_kind5 (c : Cfg) (ok : c.ok = true) (k i : Int) (h0 : 0 ≤ k) (h : (c.spot k).kind = 5) (ha : (c.spot k).a = i) : k = c.b3 + 3 * i + 1 := by
  have hb := c.bounds ok
  unfold Cfg.spot at h ha
  split at h
  · simp at h
  · split at h
    · simp at h
    · split at h
      · simp at h
      · split at h
        · simp at h
        · rename_i h1 h2 h3 h4
          rw [if_neg h1, if_neg h2, if_neg h3, if_neg h4] at ha
          simp at h ha
          omega
theorem spot_kind0 (c : Cfg) (ok : c.ok = true) (k : Int) (h0 : 0 ≤ k) (h : (c.spot k).kind = 0) : k < 5 ∧ (c.spot k).a = k := by
  have hb := c.bounds ok
  unfold Cfg.spot at h ⊢
  split at h
  · rename_i h1
    rw [if_pos h1]
    exact ⟨h1, rfl⟩
  · split at h
    · simp at h
    · split at h
      · simp at h
      · split at h
        · simp at h
        · simp at h
          omega
theorem spot_bd (c : Cfg) (ok : c.ok = true) (k : Int) (h0 : 0 ≤ k) (h1 : k < 100000) : 0 ≤ (c.spot k).a ∧ (c.spot k).a < 100000 ∧ 0 ≤ (c.spot k).b ∧ (c.spot k).b < 100000 ∧ 0 ≤ (c.spot k).kind ∧ (c.spot k).kind < 7 := by
  have hb := c.bounds ok
  have ho := c.ok_iff.1 ok
  unfold Cfg.spot
  split
  · simp; omega
  · split
    · simp; omega
    · split
      · simp; omega
      · split
        · rename_i h2 h3 h4 h5
          have e1 : 0 ≤ (k - c.b2) / c.regs := Int.ediv_nonneg (by omega) (by omega)
          have e2 : (k - c.b2) / c.regs ≤ k - c.b2 := Int.ediv_le_self _ (by omega)
          have e3 := Int.emod_nonneg (k - c.b2) (show c.regs ≠ 0 by omega)
          have e4 := Int.emod_lt_of_pos (k - c.b2) (show 0 < c.regs by omega)
          simp
          omega
        · simp
          omega
theorem fl_set (c : Cfg) (ok : c.ok = true) (T i p : Nat) (hp : (p : Int) = c.b3 + 3 * (i : Int) + 1) : (c.fl T (i : Int)).set p (((i : Int) + 1) * 2 + 1) = c.fl T ((i : Int) + 1) := by
  have hb := c.bounds ok
  refine List.ext_getElem (by simp [Cfg.fl]) fun k h1 h2 => ?_
  simp [Cfg.fl] at h1
  rw [List.getElem_set]
  have hs := c.spot_4 ok (i : Int) 1 (by omega) (by omega) (by omega)
  by_cases e : p = k
  · rw [if_pos e]
    simp only [Cfg.fl, List.getElem_map, List.getElem_range, Cfg.fst]
    rw [show ((k : Nat) : Int) = c.b3 + 3 * (i : Int) + 1 by omega, hs]
    dsimp only
    rw [if_pos (by omega), if_pos (by omega)]
  · rw [if_neg e]
    simp only [Cfg.fl, List.getElem_map, List.getElem_range, Cfg.fst]
    by_cases h5 : (c.spot (k : Int)).kind = 5
    · rw [if_pos h5, if_pos h5]
      have hne : (c.spot (k : Int)).a ≠ i := fun ha => e (by have := spot_kind5 c ok k i (by omega) h5 ha; omega)
      by_cases hl : (c.spot (k : Int)).a < i
      · rw [if_pos hl, if_pos (by omega)]
      · rw [if_neg hl, if_neg (by omega)]
    · rw [if_neg h5, if_neg h5]
theorem fl_start (c : Cfg) (ok : c.ok = true) (T : Nat) (hT : 0 < T) (hT2 : T < 100000) : (List.replicate T (0 : Int)).set 0 1 = c.fl T 0 := by
  refine List.ext_getElem (by simp [Cfg.fl]) fun k h1 h2 => ?_
  simp [Cfg.fl] at h1 h2
  rw [List.getElem_set]
  simp only [Cfg.fl, List.getElem_map, List.getElem_range, Cfg.fst]
  by_cases e : 0 = k
  · subst e
    rw [if_pos rfl, if_neg (by rw [show ((0 : Nat) : Int) = 0 from rfl, c.spot_0 0 (by omega)]; simp)]
    simp
  · rw [if_neg e, List.getElem_replicate]
    by_cases h5 : (c.spot (k : Int)).kind = 5
    · rw [if_pos h5, if_neg (by have := spot_bd c ok k (by omega) (by omega); omega)]
    · rw [if_neg h5, if_neg (by omega)]
end Go.Proofs.YtipoklnoknkfhaaDoor
namespace Go.Proofs.YtipoklnoknkfhaaDoor
open Go Go.RowKit
set_option linter.unusedSimpArgs false
set_option linter.unusedVariables false

/-- the list, as far as place k -/
def upTo (F : Nat → Int) (T k : Nat) : List Int := (List.range T).map fun j => if j < k then F j else 0
theorem upTo_len (F : Nat → Int) (T k : Nat) : (upTo F T k).length = T := by simp [upTo]
theorem upTo_zero (F : Nat → Int) (T : Nat) : upTo F T 0 = List.replicate T 0 := by
  refine List.ext_getElem (by simp [upTo]) fun i h1 h2 => ?_
  simp [upTo]
theorem upTo_all (F : Nat → Int) (T : Nat) : upTo F T T = (List.range T).map F := by
  refine List.ext_getElem (by simp [upTo]) fun i h1 h2 => ?_
  simp [upTo] at h1 ⊢
  omega
theorem upTo_set (F : Nat → Int) (T k : Nat) (v : Int) (hv : F k = v) : (upTo F T k).set k v = upTo F T (k + 1) := by
  refine List.ext_getElem (by simp [upTo]) fun i h1 h2 => ?_
  rw [List.getElem_set]
  by_cases e : k = i
  · subst e
    rw [if_pos rfl]
    simp [upTo, hv]
  · rw [if_neg e]
    simp only [upTo, List.getElem_map, List.getElem_range]
    by_cases hl : i < k
    · rw [if_pos hl, if_pos (by omega)]
    · rw [if_neg hl, if_neg (by omega)]
theorem upTo_skip (F : Nat → Int) (T k : Nat) (hv : F k = 0) : upTo F T k = upTo F T (k + 1) := by
  refine List.ext_getElem (by simp [upTo]) fun i h1 h2 => ?_
  simp only [upTo, List.getElem_map, List.getElem_range]
  by_cases e : k = i
  · subst e
    rw [if_neg (by omega), if_pos (by omega), hv]
  · by_cases hl : i < k
    · rw [if_pos hl, if_pos (by omega)]
    · rw [if_neg hl, if_neg (by omega)]
def RFirstPost (w : World) (c : Cfg) (T : Nat) (e : Ending) (w' : World) : Prop :=
  ∃ gb, e = .returned (.slice (some ⟨gb, 0, none⟩) T T) ∧ w'.heap[gb]? = some (wordsObj (c.fl T (c.cells - 1))) ∧ w.heap.size ≤ gb ∧ Below w.heap.size w w'
def NoneAtAll (w : World) (e : Ending) (w' : World) : Prop := ∃ A, e = .returned (.slice A 0 0) ∧ Below w.heap.size w w'
theorem rfirst_no (w : World) (c : Cfg) (ok : c.ok = false) :
    Calls Tryd.prog 43 #[c.v] w (NoneAtAll w) := by
  obtain ⟨k0, k1, k2, k3⟩ := Cfg.cells_at (heap_alloc_new w c.obj)
  have HB0 : Hid (Below w.heap.size w (w.alloc c.obj)) := (Below.refl _ _).alloc (Nat.le_refl _) _
  have HP := Lib.hid (all_no (w.alloc c.obj) c ok)
  have hmk : ∀ W, (Instr.makeSlice 24 (.int .i64 0) (.int .i64 0)).run Tryd.prog W = .ok (.slice (some ⟨W.heap.size, 0, none⟩) 0 0) (W.alloc (.cells #[] 26)) := fun W => make_fwords W 0 (by omega)
  clear ok
  go_enter Tryd.func43, Tryd.ntmps43
  go_wp2_with fail
  refine HP.out.mono ?_
  rintro e w1 ⟨rfl, hb⟩
  have HB : Hid (Below w.heap.size w w1) := HB0.out.trans (hb.mono HB0.out.size)
  clear k0 k1 k2 k3 hb
  go_wp2_with fail
  refine wp_loop_rounds 1 ?_
  rw [rounds_succ]
  go_wp2_with fail
  go_ret
  exact ⟨_, rfl, HB.out.alloc HB.out.size _⟩
set_option maxHeartbeats 8000000 in
set_option maxRecDepth 100000 in
theorem rfirst_ok (w : World) (c : Cfg) (n m r g T : Nat) (hn : c.cells = n) (hm : c.muts = m) (hr : c.regs = r) (hg : c.globs = g) (ok : c.ok = true) (hT : T = 5 + m + g + m * r + 3 * n) :
    Calls Tryd.prog 43 #[c.v] w (RFirstPost w c T) := by
  obtain ⟨k0, k1, k2, k3⟩ := Cfg.cells_at (heap_alloc_new w c.obj)
  have HB0 : Hid (Below w.heap.size w (w.alloc c.obj)) := (Below.refl _ _).alloc (Nat.le_refl _) _
  have HA := Lib.hid (all_any (w.alloc c.obj) c n m r g hn hm hr hg ok)
  rw [← hT] at HA
  have HW0 : Hid ((w.alloc c.obj).heap[w.heap.size]? = some c.obj) := heap_alloc_new w c.obj
  have hwd : c.words = T := by rw [c.words_b3 ok]; unfold Cfg.b3; rw [hn, hm, hr, hg, hT]; simp
  have hbd := c.ok_iff.1 ok
  have b0 : 2 ≤ n ∧ n ≤ 4096 := by omega
  have hT0 : 0 < T := by omega
  have hTb : T ≤ 20000 := by
    have h1 := c.bounds ok
    have h2 := c.words_b3 ok
    omega
  have OK := Lib.hid ok
  have HN := Lib.hid hn
  have HWD := Lib.hid hwd
  have hmk := fun W => make_fwords W T (by omega)
  clear ok hn hm hr hg hT hbd hwd
  go_enter Tryd.func43, Tryd.ntmps43
  go_wp2_with fail
  refine HA.out.mono ?_
  rintro e w1 ⟨v, rfl, hrow, hb⟩
  obtain ⟨gl, cap, rfl, hgl, hgB, hcap, hcell⟩ := row_spot hrow hT0
  have HB : Hid (Below w.heap.size w w1) := HB0.out.trans (hb.mono HB0.out.size)
  have HX : Hid (w1.heap[w.heap.size]? = some c.obj) := (hb.block _ (by simp)).trans HW0.out
  have HCL := Lib.hid hcell
  clear k0 k1 k2 k3 hb hrow hcell
  obtain ⟨F, hF⟩ : ∃ F : Nat → Int, F = fun k : Nat => c.fst (c.cells - 1) (k : Int) := ⟨_, rfl⟩
  have HFF := Lib.hid hF
  have HOBJ : Hid (Obj.cells (Array.replicate T (Value.int .u64 0)) 26 = wordsObj (upTo F T 0)) := by
    unfold Hid wordsObj
    rw [upTo_zero]
    congr 1
    apply Array.toList_inj.1
    simp
  clear hF
  go_wp2_with fail
  rw [HOBJ.out]
  have HF0 : Hid ((w1.alloc (wordsObj (upTo F T 0))).heap[w1.heap.size]? = some (wordsObj (upTo F T 0))) := heap_alloc_new w1 _
  have HB1 : Hid (Below w.heap.size w (w1.alloc (wordsObj (upTo F T 0)))) := HB.out.alloc HB.out.size _
  have HL0 : Hid (∀ b, b < w1.heap.size → (w1.alloc (wordsObj (upTo F T 0))).heap[b]? = w1.heap[b]?) := fun b hb => Below.heap_alloc _ _ _ hb
  have hXz : w.heap.size < w1.heap.size := block_lt HX.out
  clear hmk
  go_loopw [5] (fun i wr => ∃ k : Nat, k ≤ T ∧ i = .int .i64 k ∧ Hid (wr.heap[w1.heap.size]? = some (wordsObj (upTo F T k))) ∧ Hid (∀ b, b < w1.heap.size → wr.heap[b]? = w1.heap[b]?) ∧ Hid (Below w.heap.size w wr)) (fun i _ => T - (intOf i).toNat)
  case atStart => exact ⟨0, by omega, rfl, HF0.out, HL0.out, HB1.out⟩
  case round =>
    obtain ⟨k, hk, rfl, HFK, HLK, HBR⟩ := hrel
    by_cases hlt : k < T
    · obtain ⟨c0, c1, _⟩ := HCL.out k hlt
      have hsz : w1.heap.size < wr.heap.size := block_lt HFK.out
      have s0 := (World.cell?_of_block (a := ⟨gl, k * 3, none⟩) (HLK.out gl hgl)).trans c0
      have s1 := (World.cell?_of_block (a := ⟨gl, k * 3 + 1, none⟩) (HLK.out gl hgl)).trans c1
      have kc := (Cfg.cells_at ((HLK.out _ hXz).trans HX.out)).1
      rw [HN.out] at kc
      have ht0 := words_cell HFK.out k (by rw [upTo_len]; exact hlt)
      have hf0 := frozen_of_block HFK.out k
      have hsb := spot_bd c OK.out k (by omega) (by omega)
      have hk0 := spot_kind0 c OK.out k (by omega)
      have hkz : (k : Int) = 0 → (c.spot (k : Int)).kind = 0 := fun h => by rw [h, c.spot_0 0 (by omega)]
      have HV : Hid (F k = c.fst (c.cells - 1) (k : Int)) := by unfold Hid; rw [HFF.out]
      have i1 : (k : Int) < (T : Int) := by omega
      have i0 : (0 : Int) ≤ (k : Int) := by omega
      unfold Cfg.fst at HV
      rw [HN.out] at HV
      generalize (c.spot (k : Int)).kind = kd at *
      generalize (c.spot (k : Int)).a = a at *
      have s2 : IntKind.i64.wrap (a + 1) = a + 1 := IntWalk.i64_in _ (by omega)
      have HA1 : Hid (a + 1 < 4096 → (if 0 ≤ a + 1 ∧ a + 1 < 4096 then (a + 1) * 2 + 1 else 0) = (a + 1) * 2 + 1) := fun h => by rw [if_pos (by omega)]
      have HAB : Hid (-9223372036854775808 ≤ a + 1 ∧ a + 1 < 9223372036854775808) := by unfold Hid; omega
      clear c0 c1
      by_cases h5 : kd = 5
      · have d5 : (kd == 5) = true := by rw [h5]; rfl
        have d0 : (kd == 0) = false := by rw [h5]; rfl
        by_cases ha : a + 1 < (n : Int)
        · have d1 : decide (a + 1 < (n : Int)) = true := by simpa using ha
          have HA := Lib.hid (HA1.out (by omega))
          have HVV : Hid (F k = (a + 1) * 2 + 1) := by
            unfold Hid
            rw [HV.out, if_pos h5, if_pos (by omega)]
          clear hk0 hkz hsb h5 ha
          go_wp2_with fail
          go_quiet (fail)
          go_wp2_with fail
          refine (refCell_any _ (a + 1) HAB.out.1 HAB.out.2).mono ?_
          rintro e w6 ⟨rfl, hw6⟩
          obtain rfl := hw6.symm
          clear hw6
          rw [HA.out]
          go_wp2_with fail
          go_roundw
          case rel =>
            refine ⟨k + 1, by omega, by go_num, ?_, fun b hb => ?_, ?_⟩
            · rw [← upTo_set F T k _ HVV.out]
              exact words_set (w := wr.drewN _) HFK.out k _
            · exact (Below.heap_setCell _ _ _ _ (by simp; omega)).trans (HLK.out b hb)
            · exact (below_drewN HBR.out _).setCell (p := ⟨w1.heap.size, k, none⟩) HB.out.size _
          case measure => simp [intOf]; omega
        · have d1 : decide (a + 1 < (n : Int)) = false := by simpa using ha
          have HVV : Hid (F k = 0) := by
            unfold Hid
            rw [HV.out, if_pos h5, if_neg (by omega)]
          clear hk0 hkz hsb h5 ha
          go_wp2_with fail
          go_quiet (fail)
          go_wp2_with fail
          go_roundw
          case rel => exact ⟨k + 1, by omega, by go_num, by rw [← upTo_skip F T k HVV.out]; exact HFK.out, HLK.out, below_drewN HBR.out _⟩
          case measure => simp [intOf]; omega
      · have d5 : (kd == 5) = false := by rw [beq_eq_false_iff_ne]; exact h5
        by_cases h0 : kd = 0
        · have d0 : (kd == 0) = true := by rw [h0]; rfl
          obtain ⟨_, hak⟩ := hk0 h0
          by_cases ha : a = 0
          · have d2 : (a == 0) = true := by rw [ha]; rfl
            have HVV : Hid (F k = 1) := by
              unfold Hid
              rw [HV.out, if_neg h5, if_pos (by omega)]
            clear hk0 hkz hsb h5 ha h0 hak
            go_wp2_with fail
            go_quiet (fail)
            go_wp2_with fail
            refine (refCell_any _ 0 (by decide) (by decide)).mono ?_
            rintro e w6 ⟨rfl, hw6⟩
            obtain rfl := hw6.symm
            clear hw6
            rw [show (if (0 : Int) ≤ 0 ∧ (0 : Int) < 4096 then (0 : Int) * 2 + 1 else 0) = 1 by decide]
            go_wp2_with fail
            go_roundw
            case rel =>
              refine ⟨k + 1, by omega, by go_num, ?_, fun b hb => ?_, ?_⟩
              · rw [← upTo_set F T k _ HVV.out]
                exact words_set (w := wr.drewN _) HFK.out k _
              · exact (Below.heap_setCell _ _ _ _ (by simp; omega)).trans (HLK.out b hb)
              · exact (below_drewN HBR.out _).setCell (p := ⟨w1.heap.size, k, none⟩) HB.out.size _
            case measure => simp [intOf]; omega
          · have d2 : (a == 0) = false := by rw [beq_eq_false_iff_ne]; exact ha
            have HVV : Hid (F k = 0) := by
              unfold Hid
              rw [HV.out, if_neg h5, if_neg (by omega)]
            clear hk0 hkz hsb h5 ha h0 hak
            go_wp2_with fail
            go_quiet (fail)
            go_wp2_with fail
            go_roundw
            case rel => exact ⟨k + 1, by omega, by go_num, by rw [← upTo_skip F T k HVV.out]; exact HFK.out, HLK.out, below_drewN HBR.out _⟩
            case measure => simp [intOf]; omega
        · have d0 : (kd == 0) = false := by rw [beq_eq_false_iff_ne]; exact h0
          have HVV : Hid (F k = 0) := by
            unfold Hid
            rw [HV.out, if_neg h5, if_neg (fun h => h0 (hkz h))]
          clear hk0 hkz hsb h5 h0
          go_wp2_with fail
          go_quiet (fail)
          go_wp2_with fail
          go_roundw
          case rel => exact ⟨k + 1, by omega, by go_num, by rw [← upTo_skip F T k HVV.out]; exact HFK.out, HLK.out, below_drewN HBR.out _⟩
          case measure => simp [intOf]; omega
    · have hke : k = T := by omega
      have HKE := Lib.hid hke
      clear hke
      go_wp2_with fail
      go_ret
      refine ⟨_, rfl, ?_, HB.out.size, HBR.out⟩
      have := HFK.out
      rw [HKE.out, upTo_all] at this
      rw [HFF.out] at this
      exact this
end Go.Proofs.YtipoklnoknkfhaaDoor

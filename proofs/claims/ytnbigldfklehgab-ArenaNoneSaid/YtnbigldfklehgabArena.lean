/- The contracts of package arena: what each call answers, and what it does to memory. -/
import Derived.Test.YtnbigldfklehgabBase
namespace Go.Proofs.Ytnbigldfklehgab
open Go Go.RowKit
set_option linter.unusedSimpArgs false
set_option linter.unusedVariables false

/-- block b is an arena whose words lie in block g -/
structure IsArena (w : World) (b g : Nat) (xs : List Int) : Prop where
  head : w.heap[b]? = some (.cells #[.slice (some ⟨g,0,none⟩) xs.length xs.length] 85 (0,0))
  row : w.heap[g]? = some (.cells (xs.map (Value.int .u64)).toArray 90 (0,0))
  ne : b ≠ g
  len : xs.length ≤ maxLen

section
variable {w w' : World} {b g : Nat} {xs : List Int}
theorem IsArena.hc (h : IsArena w b g xs) : w.cell? ⟨b,0,none⟩ = some (.slice (some ⟨g,0,none⟩) xs.length xs.length) := by
  unfold World.cell?; rw [h.head]; rfl
theorem IsArena.cell (h : IsArena w b g xs) (i : Nat) (hi : i < xs.length) : w.cell? ⟨g,i,none⟩ = some (.int .u64 (wd xs i)) := by
  unfold World.cell?; rw [h.row]; simp [hi, wd]
theorem IsArena.free (h : IsArena w b g xs) (i : Nat) : w.frozen? ⟨g,i,none⟩ = false := by
  unfold World.frozen?; rw [h.row]; simp
theorem IsArena.put (h : IsArena w b g xs) (i : Nat) (x : Int) : IsArena (w.setCell ⟨g,i,none⟩ (.int .u64 x)) b g (xs.set i x) where
  head := by
    rw [Below.heap_setCell _ _ _ _ h.ne]; simpa using h.head
  row := by
    simp only [World.setCell, Array.getElem?_modify, if_true, h.row]
    simp
  ne := h.ne
  len := by simpa using h.len
theorem IsArena.keep {S : Nat → Prop} (h : IsArena w b g xs) (k : Keep S w w') (hb : ¬ S b) (hg : ¬ S g) : IsArena w' b g xs := ⟨k.at_ h.head hb, k.at_ h.row hg, h.ne, h.len⟩
theorem IsArena.lt (h : IsArena w b g xs) : b < w.heap.size ∧ g < w.heap.size := ⟨block_lt h.head, block_lt h.row⟩
end

theorem Keep.one (w : World) (g i : Nat) (u : Value) : Keep (· = g) w (w.setCell ⟨g, i, none⟩ u) := (Keep.refl (· = g) w).setCell (p := ⟨g, i, none⟩) (Or.inl rfl) u

/-- what a load answers -/
def ld (xs : List Int) (i : Int) : Int := if 0 ≤ i ∧ i < xs.length then wd xs i.toNat else 0
/-- what a store leaves -/
def st (xs : List Int) (i x : Int) : List Int := if 0 ≤ i ∧ i < xs.length then xs.set i.toNat x else xs
theorem st_len (xs : List Int) (i x : Int) : (st xs i x).length = xs.length := by unfold st; split <;> simp

theorem at_in (w : World) (b g : Nat) (xs : List Int) (i : Int) (h : IsArena w b g xs) (h0 : 0 ≤ i) (h1 : i < xs.length) :
    Calls Try.prog 43 #[.pointer (some ⟨b,0,none⟩), .int .i64 i] w fun e w' => e = .returned (.pointer (some ⟨g, i.toNat, none⟩)) ∧ w = w' := by
  have hc := h.hc
  have hl := h.len
  unfold maxLen at hl
  have H := Lib.hid h
  clear h
  have d1 : decide (i < 0) = false := by simp; omega
  have d2 : decide ((xs.length : Int) ≤ i) = false := by simp; omega
  go_enter Try.func43, Try.ntmps43
  go_wp2
  go_ret
  exact ⟨by simp, rfl⟩
theorem at_out (w : World) (b g : Nat) (xs : List Int) (i : Int) (h : IsArena w b g xs) (h0 : i < 0 ∨ xs.length ≤ i) :
    Calls Try.prog 43 #[.pointer (some ⟨b,0,none⟩), .int .i64 i] w fun e w' => e = .returned (.pointer none) ∧ w = w' := by
  have hc := h.hc
  have hl := h.len
  unfold maxLen at hl
  have H := Lib.hid h
  clear h
  by_cases d : i < 0
  · have d1 : decide (i < 0) = true := by simp; omega
    go_enter Try.func43, Try.ntmps43
    go_wp2
    go_ret
    exact ⟨by simp, rfl⟩
  · have d1 : decide (i < 0) = false := by simp; omega
    have d2 : decide ((xs.length : Int) ≤ i) = true := by simp; omega
    go_enter Try.func43, Try.ntmps43
    go_wp2
    go_ret
    exact ⟨by simp, rfl⟩
theorem at_nil (w : World) (i : Int) :
    Calls Try.prog 43 #[.pointer none, .int .i64 i] w fun e w' => e = .returned (.pointer none) ∧ w = w' := by
  go_enter Try.func43, Try.ntmps43
  go_wp2
  go_ret
  exact ⟨by simp, rfl⟩

/-! ### atomic numbers -/
theorem aload_any (w : World) (a : Addr) (x : Int) (h : w.cell? a = some (.int .u64 x)) :
    Calls Try.prog 44 #[.pointer (some a)] w fun e w' => e = .returned (.int .u64 x) ∧ w = w' := by
  have hd := run_call_load Try.func66 (by kernel_rfl) (by kernel_rfl) (by kernel_rfl) .u64 (by kernel_rfl) h
  go_enter Try.func44, Try.ntmps44
  go_wp2
  go_ret
  exact ⟨rfl, rfl⟩
theorem astore_any (w : World) (a : Addr) (x y : Int) (h : w.cell? a = some (.int .u64 x)) (hf : w.frozen? a = false) :
    Calls Try.prog 42 #[.pointer (some a), .int .u64 y] w fun e w' => e = .returned (.tuple #[]) ∧ w.setCell a (.int .u64 y) = w' := by
  have hd := run_call_store Try.func65 (by kernel_rfl) (by kernel_rfl) (by kernel_rfl) (by kernel_rfl) (k := .u64) (y := y) h hf
  go_enter Try.func42, Try.ntmps42
  go_wp2
  go_end0
  exact ⟨rfl, rfl⟩
theorem aadd_any (w : World) (a : Addr) (x y : Int) (h : w.cell? a = some (.int .u64 x)) (hf : w.frozen? a = false) :
    Calls Try.prog 46 #[.pointer (some a), .int .u64 y] w fun e w' => e = .returned (.int .u64 (IntKind.u64.wrap (x + y))) ∧ w.setCell a (.int .u64 (IntKind.u64.wrap (x + y))) = w' := by
  have hd := run_call_add Try.func68 (by kernel_rfl) (by kernel_rfl) (by kernel_rfl) .u64 (by kernel_rfl) (y := y) (s := IntKind.u64.wrap (x + y)) h hf (by rfl)
  go_enter Try.func46, Try.ntmps46
  go_wp2
  go_ret
  exact ⟨rfl, rfl⟩
theorem acas_hit (w : World) (a : Addr) (x y : Int) (h : w.cell? a = some (.int .u64 x)) (hf : w.frozen? a = false) :
    Calls Try.prog 45 #[.pointer (some a), .int .u64 x, .int .u64 y] w fun e w' => e = .returned (.bool true) ∧ w.setCell a (.int .u64 y) = w' := by
  have hd := run_call_cas_hit Try.func67 (by kernel_rfl) (by kernel_rfl) (by kernel_rfl) .u64 (by kernel_rfl) (y := y) h hf
  go_enter Try.func45, Try.ntmps45
  go_wp2
  go_ret
  exact ⟨rfl, rfl⟩
theorem acas_miss (w : World) (a : Addr) (x o y : Int) (h : w.cell? a = some (.int .u64 x)) (hf : w.frozen? a = false) (hne : ¬ x = o) :
    Calls Try.prog 45 #[.pointer (some a), .int .u64 o, .int .u64 y] w fun e w' => e = .returned (.bool false) ∧ w = w' := by
  have hd := run_call_cas_miss Try.func67 (by kernel_rfl) (by kernel_rfl) (by kernel_rfl) .u64 (by kernel_rfl) (y := y) h hf hne
  go_enter Try.func45, Try.ntmps45
  go_wp2
  go_ret
  exact ⟨rfl, rfl⟩

/-! ### the arena's calls -/
theorem load_any (w : World) (b g : Nat) (xs : List Int) (i : Int) (h : IsArena w b g xs) :
    Calls Try.prog 23 #[.pointer (some ⟨b,0,none⟩), .int .i64 i] w fun e w' => e = .returned (.int .u64 (ld xs i)) ∧ w = w' := by
  have H := Lib.hid h
  clear h
  by_cases hi : 0 ≤ i ∧ i < xs.length
  · have hx := H.out.cell i.toNat (by omega)
    have he : Hid (ld xs i = wd xs i.toNat) := by unfold ld Hid; rw [if_pos hi]
    have HI := Lib.hid hi
    clear hi
    go_enter Try.func23, Try.ntmps23
    go_wp2_with (first | (go_at_call 43; refine (at_in _ _ _ _ _ H.out HI.out.1 HI.out.2).mono ?_; rintro e w' ⟨rfl, rfl⟩) | (go_at_call 44; refine (aload_any _ _ _ hx).mono ?_; rintro e w' ⟨rfl, rfl⟩))
    go_ret
    exact ⟨by rw [he.out]; rfl, rfl⟩
  · have he : Hid (ld xs i = 0) := by unfold ld Hid; rw [if_neg hi]
    have HI : Hid (i < 0 ∨ xs.length ≤ i) := by unfold Hid; omega
    clear hi
    go_enter Try.func23, Try.ntmps23
    go_wp2_with (go_at_call 43; refine (at_out _ _ _ _ _ H.out HI.out).mono ?_; rintro e w' ⟨rfl, rfl⟩)
    go_ret
    exact ⟨by rw [he.out]; rfl, rfl⟩

theorem store_any (w : World) (b g : Nat) (xs : List Int) (i x : Int) (h : IsArena w b g xs) :
    Calls Try.prog 22 #[.pointer (some ⟨b,0,none⟩), .int .i64 i, .int .u64 x] w fun e w' => e = .returned (.tuple #[]) ∧ IsArena w' b g (st xs i x) ∧ Keep (· = g) w w' := by
  have H := Lib.hid h
  clear h
  by_cases hi : 0 ≤ i ∧ i < xs.length
  · have hx := H.out.cell i.toNat (by omega)
    have hz := H.out.free i.toNat
    have he : Hid (st xs i x = xs.set i.toNat x) := by unfold st Hid; rw [if_pos hi]
    have HI := Lib.hid hi
    clear hi
    go_enter Try.func22, Try.ntmps22
    go_wp2_with (first | (go_at_call 43; refine (at_in _ _ _ _ _ H.out HI.out.1 HI.out.2).mono ?_; rintro e w' ⟨rfl, rfl⟩) | (go_at_call 42; refine (astore_any _ _ _ _ hx hz).mono ?_; rintro e w' ⟨rfl, rfl⟩))
    go_end0
    exact ⟨rfl, by rw [he.out]; exact H.out.put _ _, Keep.one _ _ _ _⟩
  · have he : Hid (st xs i x = xs) := by unfold st Hid; rw [if_neg hi]
    have HI : Hid (i < 0 ∨ xs.length ≤ i) := by unfold Hid; omega
    clear hi
    go_enter Try.func22, Try.ntmps22
    go_wp2_with (go_at_call 43; refine (at_out _ _ _ _ _ H.out HI.out).mono ?_; rintro e w' ⟨rfl, rfl⟩)
    go_end0
    exact ⟨rfl, by rw [he.out]; exact H.out, Keep.refl _ _⟩

/-- what an add answers, and leaves -/
theorem add_any (w : World) (b g : Nat) (xs : List Int) (i x : Int) (h : IsArena w b g xs) (hr : 0 ≤ i → i < xs.length → IntKind.u64.wrap (IntKind.u64.wrap (wd xs i.toNat + x) - x) = wd xs i.toNat) :
    Calls Try.prog 25 #[.pointer (some ⟨b,0,none⟩), .int .i64 i, .int .u64 x] w fun e w' => e = .returned (.int .u64 (ld xs i)) ∧ IsArena w' b g (st xs i (IntKind.u64.wrap (ld xs i + x))) ∧ Keep (· = g) w w' := by
  have H := Lib.hid h
  clear h
  by_cases hi : 0 ≤ i ∧ i < xs.length
  · have hx := H.out.cell i.toNat (by omega)
    have hz := H.out.free i.toNat
    have hl : Hid (ld xs i = wd xs i.toNat) := by unfold ld Hid; rw [if_pos hi]
    have he : Hid (st xs i (IntKind.u64.wrap (ld xs i + x)) = xs.set i.toNat (IntKind.u64.wrap (wd xs i.toNat + x))) := by unfold st Hid; rw [if_pos hi, hl.out]
    have HR := Lib.hid (hr hi.1 hi.2)
    have HI := Lib.hid hi
    clear hi hr
    go_enter Try.func25, Try.ntmps25
    go_wp2_with (first | (go_at_call 43; refine (at_in _ _ _ _ _ H.out HI.out.1 HI.out.2).mono ?_; rintro e w' ⟨rfl, rfl⟩) | (go_at_call 46; refine (aadd_any _ _ _ _ hx hz).mono ?_; rintro e w' ⟨rfl, rfl⟩))
    go_ret
    refine ⟨?_, by rw [he.out]; exact H.out.put _ _, Keep.one _ _ _ _⟩
    rw [hl.out]
    exact congrArg (fun v => Ending.returned (.int .u64 v)) HR.out
  · have he : Hid (st xs i (IntKind.u64.wrap (ld xs i + x)) = xs) := by unfold st Hid; rw [if_neg hi]
    have hl : Hid (ld xs i = 0) := by unfold ld Hid; rw [if_neg hi]
    have HI : Hid (i < 0 ∨ xs.length ≤ i) := by unfold Hid; omega
    clear hi hr
    go_enter Try.func25, Try.ntmps25
    go_wp2_with (go_at_call 43; refine (at_out _ _ _ _ _ H.out HI.out).mono ?_; rintro e w' ⟨rfl, rfl⟩)
    go_ret
    exact ⟨by rw [hl.out]; rfl, by rw [he.out]; exact H.out, Keep.refl _ _⟩

/-- is there a place, and is x there? -/
def hit (xs : List Int) (i x : Int) : Bool := decide (0 ≤ i) && decide (i < xs.length) && decide (wd xs i.toNat = x)
/-- what a cas leaves -/
def swap (xs : List Int) (i x y : Int) : List Int := if hit xs i x = true then st xs i y else xs
theorem cas_any (w : World) (b g : Nat) (xs : List Int) (i x y : Int) (h : IsArena w b g xs) :
    Calls Try.prog 24 #[.pointer (some ⟨b,0,none⟩), .int .i64 i, .int .u64 x, .int .u64 y] w fun e w' => e = .returned (.bool (hit xs i x)) ∧ IsArena w' b g (swap xs i x y) ∧ Keep (· = g) w w' := by
  have H := Lib.hid h
  clear h
  by_cases hi : 0 ≤ i ∧ i < xs.length
  · have hx := H.out.cell i.toNat (by omega)
    have hz := H.out.free i.toNat
    have he : Hid (st xs i y = xs.set i.toNat y) := by unfold st Hid; rw [if_pos hi]
    by_cases hq : wd xs i.toNat = x
    · have hl : Hid (hit xs i x = true) := by unfold hit Hid; simp [hi.1, hi.2, hq]
      have HI := Lib.hid hi
      clear hi
      subst hq
      go_enter Try.func24, Try.ntmps24
      go_wp2_with (first | (go_at_call 43; refine (at_in _ _ _ _ _ H.out HI.out.1 HI.out.2).mono ?_; rintro e w' ⟨rfl, rfl⟩) | (go_at_call 45; refine (acas_hit _ _ _ _ hx hz).mono ?_; rintro e w' ⟨rfl, rfl⟩))
      go_ret
      exact ⟨by rw [hl.out]; rfl, by unfold swap; rw [if_pos hl.out, he.out]; exact H.out.put _ _, Keep.one _ _ _ _⟩
    · have hl : Hid (hit xs i x = false) := by unfold hit Hid; simp [hi.1, hi.2, hq]
      have HQ := Lib.hid hq
      have HI := Lib.hid hi
      clear hi hq
      go_enter Try.func24, Try.ntmps24
      go_wp2_with (first | (go_at_call 43; refine (at_in _ _ _ _ _ H.out HI.out.1 HI.out.2).mono ?_; rintro e w' ⟨rfl, rfl⟩) | (go_at_call 45; refine (acas_miss _ _ _ _ _ hx hz HQ.out).mono ?_; rintro e w' ⟨rfl, rfl⟩))
      go_ret
      exact ⟨by rw [hl.out]; rfl, by unfold swap; rw [if_neg (by rw [hl.out]; simp)]; exact H.out, Keep.refl _ _⟩
  · have hl : Hid (hit xs i x = false) := by
      unfold hit Hid
      rw [Bool.eq_false_iff]
      intro hh
      simp at hh
      omega
    have HI : Hid (i < 0 ∨ xs.length ≤ i) := by unfold Hid; omega
    clear hi
    go_enter Try.func24, Try.ntmps24
    go_wp2_with (go_at_call 43; refine (at_out _ _ _ _ _ H.out HI.out).mono ?_; rintro e w' ⟨rfl, rfl⟩)
    go_ret
    exact ⟨by rw [hl.out]; rfl, by unfold swap; rw [if_neg (by rw [hl.out]; simp)]; exact H.out, Keep.refl _ _⟩

/-! ### a new arena -/
theorem info_atomic : (Try.prog.info? 90).map (fun i => (i.zero, i.size, i.bytes)) = some (some (.agg #[.int .u64 0]), 1, 8) := by kernel_rfl
/-- the first k words, and noughts behind -/
def mid (xs : List Int) (k : Nat) : List Int := xs.take k ++ List.replicate (xs.length - k) 0
theorem mid_len (xs : List Int) (k : Nat) (h : k ≤ xs.length) : (mid xs k).length = xs.length := by simp [mid]; omega
theorem mid_zero (xs : List Int) : mid xs 0 = List.replicate xs.length 0 := by simp [mid]
theorem mid_all (xs : List Int) : mid xs xs.length = xs := by simp [mid]
theorem mid_succ (xs : List Int) (k : Nat) (h : k < xs.length) : (mid xs k).set k (wd xs k) = mid xs (k + 1) := by
  unfold mid wd
  rw [List.set_append, if_neg (by simp; omega)]
  have e : k - (xs.take k).length = 0 := by simp; omega
  rw [e, show xs.length - k = (xs.length - (k+1)) + 1 by omega, List.replicate_succ, List.set_cons_zero, List.take_succ_eq_append_getElem h]
  have e2 : xs.getD k 0 = xs[k] := by simp [h]
  rw [e2, List.append_assoc]
  rfl
theorem IsArena.fresh (w : World) (n : Nat) (hn : n ≤ maxLen) : IsArena ((w.alloc (.cells (madeCells #[.int .u64 0] n) 90)).alloc (.cells #[.slice (some ⟨w.heap.size,0,none⟩) n n] 85)) (w.heap.size + 1) w.heap.size (List.replicate n 0) where
  head := by
    have := heap_alloc_new (w.alloc (.cells (madeCells #[.int .u64 0] n) 90)) (.cells #[.slice (some ⟨w.heap.size,0,none⟩) n n] 85)
    simpa using this
  row := by
    rw [Below.heap_alloc _ _ _ (by simp)]
    rw [heap_alloc_new]
    have := toList_madeCells_one (.int .u64 0) n
    simp [← this]
  ne := by omega
  len := by simpa using hn

theorem new_any (w : World) (A : Option Addr) (c : Nat) (xs : List Int) (h : Words w w.heap.size A xs) (hsz : xs.length * 8 ≤ 140737488351232) :
    Calls Try.prog 15 #[.slice A xs.length c] w fun e w' => ∃ b g, e = .returned (.pointer (some ⟨b,0,none⟩)) ∧ IsArena w' b g xs ∧ w.heap.size ≤ b ∧ w.heap.size ≤ g ∧ Below w.heap.size w w' := by
  have H := Lib.hid h
  have hlen := h.len
  unfold maxLen at hlen
  obtain ⟨i0, hi, hz0, hz1, hz2⟩ := info_parts info_atomic
  have hmk := fun W => run_make_rowN (P := Try.prog) 83 90 i0 (.agg #[.int .u64 0]) Try.underlying83 hi hz0 .i64 .i64 xs.length xs.length (Nat.le_refl _) (by rw [hz2]; omega) (by omega) W
  have hf := IsArena.fresh w xs.length h.len
  have HF := Lib.hid hf
  clear h hf
  go_enter Try.func15, Try.ntmps15
  go_wp2
  clear hmk
  go_loopw [4, 5, 13] (fun _ _ i wr => ∃ k : Nat, k ≤ xs.length ∧ i = .int .i64 k ∧ IsArena wr (w.heap.size + 1) w.heap.size (mid xs k) ∧ Below w.heap.size w wr) (fun _ _ i _ => xs.length - (intOf i).toNat)
  case atStart => exact ⟨0, Nat.zero_le _, rfl, by rw [mid_zero]; exact HF.out, ((Below.refl _ _).alloc (Nat.le_refl _) _).alloc (by simp) _⟩
  case round =>
    obtain ⟨k, hk, rfl, ha, hb⟩ := hrel
    have HA := Lib.hid ha
    have HB := Lib.hid hb
    have hlm := Lib.hid (mid_len xs k hk)
    clear ha hb HF
    by_cases hlt : k < xs.length
    · obtain ⟨ad, rfl, hB, hx⟩ := H.out.cell HB.out hlt
      have hr : wr.cell? ⟨w.heap.size + 1, 0, none⟩ = some (.slice (some ⟨w.heap.size,0,none⟩) xs.length xs.length) := by rw [HA.out.hc, hlm.out]
      have hy := HA.out.cell k (by rw [hlm.out]; exact hlt)
      have hz := HA.out.free k
      go_wp2_with (go_at_call 42; refine (astore_any _ _ _ _ hy hz).mono ?_; rintro e w' ⟨rfl, rfl⟩)
      go_roundw
      case rel => exact ⟨k + 1, by omega, by go_num, by rw [← mid_succ xs k hlt]; exact HA.out.put k _, HB.out.setCell (Nat.le_refl _) _⟩
      case measure => simp [intOf]; omega
    · have hke : k = xs.length := by omega
      go_wp2
      go_ret
      exact ⟨_, _, rfl, by rw [hke, mid_all] at HA; exact HA.out, by omega, by omega, HB.out⟩
end Go.Proofs.Ytnbigldfklehgab

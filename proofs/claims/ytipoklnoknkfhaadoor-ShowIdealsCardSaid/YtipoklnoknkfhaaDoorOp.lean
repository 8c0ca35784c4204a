/- The contracts of package op: forms, of, number, Check. -/
import Derived.Test.YtipoklnoknkfhaaDoorPlace
import Derived.Lib.OthersKept
namespace Go.Proofs.YtipoklnoknkfhaaDoor
open Go Go.RowKit
set_option linter.unusedSimpArgs false
set_option linter.unusedVariables false

/-- an operation -/
structure Opr where
  kind : Int
  a : Int
  b : Int
  c : Int
  deriving DecidableEq
abbrev Opr.v (x : Opr) : Value := .agg #[.int .i64 x.kind, .int .i64 x.a, .int .i64 x.b, .int .i64 x.c]
abbrev Opr.obj (x : Opr) : Obj := .cells #[.int .i64 x.kind, .int .i64 x.a, .int .i64 x.b, .int .i64 x.c] 58
theorem opr_cells {x : Opr} {w : World} {b : Nat} (h : w.heap[b]? = some x.obj) : w.cell? ⟨b, 0, none⟩ = some (.int .i64 x.kind) ∧ w.cell? ⟨b, 1, none⟩ = some (.int .i64 x.a) ∧ w.cell? ⟨b, 2, none⟩ = some (.int .i64 x.b) ∧ w.cell? ⟨b, 3, none⟩ = some (.int .i64 x.c) :=
  ⟨cell_of_block h 0, cell_of_block h 1, cell_of_block h 2, cell_of_block h 3⟩
def fnames : List (List UInt8) := [[], [115, 101, 116], [109, 111, 118, 101], [99, 111, 110, 115], [99, 97, 114], [99, 100, 114], [114, 112, 108, 97, 99, 97], [114, 112, 108, 97, 99, 100], [103, 101, 116], [112, 117, 116], [101, 113], [97, 116, 111, 109]]
def fparts : List (List UInt8) := [[], [114, 107], [114, 114], [114, 114, 114], [114, 114], [114, 114], [114, 114], [114, 114], [114, 103], [103, 114], [114, 114], [114]]
def fname (k : Int) : ByteArray := ⟨(fnames.getD k.toNat []).toArray⟩
def fpart (k : Int) : ByteArray := ⟨(fparts.getD k.toNat []).toArray⟩
def strCells : List Value := (List.zip fnames fparts).flatMap fun p => [.string ⟨p.1.toArray⟩, .string ⟨p.2.toArray⟩]
def formsObj : Obj := .cells strCells.toArray 169
abbrev zform : Obj := .cells #[.string ⟨#[]⟩, .string ⟨#[]⟩] 169

def Opr.num (x : Opr) (i : Nat) : Int := if i = 0 then x.a else if i = 1 then x.b else x.c
def pbad (c : Cfg) (p : UInt8) (n : Int) : Bool := decide (n < 0) || (decide (p = 114) && decide (c.regs ≤ n) || decide (p = 103) && decide (c.globs ≤ n))
def badFrom (c : Cfg) (x : Opr) : List UInt8 → Nat → Bool
  | [], _ => false
  | p :: r, i => pbad c p (x.num i) || badFrom c x r (i + 1)
/-- the error that Check tells -/
def Opr.err (x : Opr) (c : Cfg) : Int := if c.ok = true then (if 1 ≤ x.kind ∧ x.kind ≤ 11 then (if badFrom c x (fparts.getD x.kind.toNat []) 0 = true then 2 else 0) else 4) else 1
theorem part_bytes (k : Int) : ∀ p ∈ fparts.getD k.toNat [], p = 114 ∨ p = 103 ∨ p = 107 := by
  by_cases h : k.toNat < 12
  · have : ∀ j, j < 12 → ∀ p ∈ fparts.getD j [], p = 114 ∨ p = 103 ∨ p = 107 := by decide
    exact this _ h
  · intro p hp
    rw [List.getD_eq_getElem?_getD, List.getElem?_eq_none (by simp [fparts]; simp at h; omega)] at hp
    simp at hp
theorem part_len (k : Int) : (fparts.getD k.toNat []).length ≤ 3 := by
  by_cases h : k.toNat < 12
  · have : ∀ j, j < 12 → (fparts.getD j []).length ≤ 3 := by decide
    exact this _ h
  · rw [List.getD_eq_getElem?_getD, List.getElem?_eq_none (by simp [fparts]; simp at h; omega)]
    simp

theorem forms_any (w : World) : Calls Tryd.prog 124 #[] w fun e w' => e = .returned (.slice (some ⟨w.heap.size, 0, none⟩) 12 12) ∧ w' = w.alloc formsObj := by
  go_enter Tryd.func124, Tryd.ntmps124
  go_wp2_with fail
  go_ret
  exact ⟨rfl, rfl⟩

theorem of_any (w : World) (k : Int) (h0 : 1 ≤ k) (h1 : k ≤ 11) :
    Calls Tryd.prog 93 #[.int .i64 k] w fun e w' => e = .returned (.tuple #[.agg #[.string (fname k), .string (fpart k)], .bool true]) ∧ Below w.heap.size w w' := by
  have F := Lib.hid (fun i => cell_of_block (heap_new2 w zform formsObj) i)
  obtain ⟨z0, z1⟩ : ((w.alloc zform).alloc formsObj).cell? ⟨w.heap.size, 0, none⟩ = some (.string ⟨#[]⟩) ∧ ((w.alloc zform).alloc formsObj).cell? ⟨w.heap.size, 1, none⟩ = some (.string ⟨#[]⟩) := ⟨cell_of_block (heap_new1 w zform formsObj) 0, cell_of_block (heap_new1 w zform formsObj) 1⟩
  obtain ⟨y0, y1⟩ : ((w.alloc zform).alloc formsObj).frozen? ⟨w.heap.size, 0, none⟩ = false ∧ ((w.alloc zform).alloc formsObj).frozen? ⟨w.heap.size, 1, none⟩ = false := ⟨frozen_of_block (heap_new1 w zform formsObj) 0, frozen_of_block (heap_new1 w zform formsObj) 1⟩
  obtain rfl | rfl | rfl | rfl | rfl | rfl | rfl | rfl | rfl | rfl | rfl : k = 1 ∨ k = 2 ∨ k = 3 ∨ k = 4 ∨ k = 5 ∨ k = 6 ∨ k = 7 ∨ k = 8 ∨ k = 9 ∨ k = 10 ∨ k = 11 := by omega
  all_goals clear h0 h1
  · have f0 : ((w.alloc zform).alloc formsObj).cell? ⟨w.heap.size + 1, 2, none⟩ = some (.string (fname 1)) := F.out 2
    have f1 : ((w.alloc zform).alloc formsObj).cell? ⟨w.heap.size + 1, 3, none⟩ = some (.string (fpart 1)) := F.out 3
    generalize fname 1 = nm at f0 ⊢
    generalize fpart 1 = ps at f1 ⊢
    go_enter Tryd.func93, Tryd.ntmps93
    go_wp2_with fail
    refine (forms_any _).mono ?_
    rintro e w1 ⟨rfl, rfl⟩
    go_wp2_with fail
    exact bodyPost_ret (v := .tuple #[.agg #[.string nm, .string ps], .bool true]) (by simp [results, Tryd.results93, go_sem, z0, z1]) rfl
      ⟨rfl, by repeat (first | (with_reducible exact Below.refl _ _) | (with_reducible refine Below.alloc ?_ (by simp) _) | refine Below.setCell ?_ (by simp) _)⟩
  · have f0 : ((w.alloc zform).alloc formsObj).cell? ⟨w.heap.size + 1, 4, none⟩ = some (.string (fname 2)) := F.out 4
    have f1 : ((w.alloc zform).alloc formsObj).cell? ⟨w.heap.size + 1, 5, none⟩ = some (.string (fpart 2)) := F.out 5
    generalize fname 2 = nm at f0 ⊢
    generalize fpart 2 = ps at f1 ⊢
    go_enter Tryd.func93, Tryd.ntmps93
    go_wp2_with fail
    refine (forms_any _).mono ?_
    rintro e w1 ⟨rfl, rfl⟩
    go_wp2_with fail
    exact bodyPost_ret (v := .tuple #[.agg #[.string nm, .string ps], .bool true]) (by simp [results, Tryd.results93, go_sem, z0, z1]) rfl
      ⟨rfl, by repeat (first | (with_reducible exact Below.refl _ _) | (with_reducible refine Below.alloc ?_ (by simp) _) | refine Below.setCell ?_ (by simp) _)⟩
  · have f0 : ((w.alloc zform).alloc formsObj).cell? ⟨w.heap.size + 1, 6, none⟩ = some (.string (fname 3)) := F.out 6
    have f1 : ((w.alloc zform).alloc formsObj).cell? ⟨w.heap.size + 1, 7, none⟩ = some (.string (fpart 3)) := F.out 7
    generalize fname 3 = nm at f0 ⊢
    generalize fpart 3 = ps at f1 ⊢
    go_enter Tryd.func93, Tryd.ntmps93
    go_wp2_with fail
    refine (forms_any _).mono ?_
    rintro e w1 ⟨rfl, rfl⟩
    go_wp2_with fail
    exact bodyPost_ret (v := .tuple #[.agg #[.string nm, .string ps], .bool true]) (by simp [results, Tryd.results93, go_sem, z0, z1]) rfl
      ⟨rfl, by repeat (first | (with_reducible exact Below.refl _ _) | (with_reducible refine Below.alloc ?_ (by simp) _) | refine Below.setCell ?_ (by simp) _)⟩
  · have f0 : ((w.alloc zform).alloc formsObj).cell? ⟨w.heap.size + 1, 8, none⟩ = some (.string (fname 4)) := F.out 8
    have f1 : ((w.alloc zform).alloc formsObj).cell? ⟨w.heap.size + 1, 9, none⟩ = some (.string (fpart 4)) := F.out 9
    generalize fname 4 = nm at f0 ⊢
    generalize fpart 4 = ps at f1 ⊢
    go_enter Tryd.func93, Tryd.ntmps93
    go_wp2_with fail
    refine (forms_any _).mono ?_
    rintro e w1 ⟨rfl, rfl⟩
    go_wp2_with fail
    exact bodyPost_ret (v := .tuple #[.agg #[.string nm, .string ps], .bool true]) (by simp [results, Tryd.results93, go_sem, z0, z1]) rfl
      ⟨rfl, by repeat (first | (with_reducible exact Below.refl _ _) | (with_reducible refine Below.alloc ?_ (by simp) _) | refine Below.setCell ?_ (by simp) _)⟩
  · have f0 : ((w.alloc zform).alloc formsObj).cell? ⟨w.heap.size + 1, 10, none⟩ = some (.string (fname 5)) := F.out 10
    have f1 : ((w.alloc zform).alloc formsObj).cell? ⟨w.heap.size + 1, 11, none⟩ = some (.string (fpart 5)) := F.out 11
    generalize fname 5 = nm at f0 ⊢
    generalize fpart 5 = ps at f1 ⊢
    go_enter Tryd.func93, Tryd.ntmps93
    go_wp2_with fail
    refine (forms_any _).mono ?_
    rintro e w1 ⟨rfl, rfl⟩
    go_wp2_with fail
    exact bodyPost_ret (v := .tuple #[.agg #[.string nm, .string ps], .bool true]) (by simp [results, Tryd.results93, go_sem, z0, z1]) rfl
      ⟨rfl, by repeat (first | (with_reducible exact Below.refl _ _) | (with_reducible refine Below.alloc ?_ (by simp) _) | refine Below.setCell ?_ (by simp) _)⟩
  · have f0 : ((w.alloc zform).alloc formsObj).cell? ⟨w.heap.size + 1, 12, none⟩ = some (.string (fname 6)) := F.out 12
    have f1 : ((w.alloc zform).alloc formsObj).cell? ⟨w.heap.size + 1, 13, none⟩ = some (.string (fpart 6)) := F.out 13
    generalize fname 6 = nm at f0 ⊢
    generalize fpart 6 = ps at f1 ⊢
    go_enter Tryd.func93, Tryd.ntmps93
    go_wp2_with fail
    refine (forms_any _).mono ?_
    rintro e w1 ⟨rfl, rfl⟩
    go_wp2_with fail
    exact bodyPost_ret (v := .tuple #[.agg #[.string nm, .string ps], .bool true]) (by simp [results, Tryd.results93, go_sem, z0, z1]) rfl
      ⟨rfl, by repeat (first | (with_reducible exact Below.refl _ _) | (with_reducible refine Below.alloc ?_ (by simp) _) | refine Below.setCell ?_ (by simp) _)⟩
  · have f0 : ((w.alloc zform).alloc formsObj).cell? ⟨w.heap.size + 1, 14, none⟩ = some (.string (fname 7)) := F.out 14
    have f1 : ((w.alloc zform).alloc formsObj).cell? ⟨w.heap.size + 1, 15, none⟩ = some (.string (fpart 7)) := F.out 15
    generalize fname 7 = nm at f0 ⊢
    generalize fpart 7 = ps at f1 ⊢
    go_enter Tryd.func93, Tryd.ntmps93
    go_wp2_with fail
    refine (forms_any _).mono ?_
    rintro e w1 ⟨rfl, rfl⟩
    go_wp2_with fail
    exact bodyPost_ret (v := .tuple #[.agg #[.string nm, .string ps], .bool true]) (by simp [results, Tryd.results93, go_sem, z0, z1]) rfl
      ⟨rfl, by repeat (first | (with_reducible exact Below.refl _ _) | (with_reducible refine Below.alloc ?_ (by simp) _) | refine Below.setCell ?_ (by simp) _)⟩
  · have f0 : ((w.alloc zform).alloc formsObj).cell? ⟨w.heap.size + 1, 16, none⟩ = some (.string (fname 8)) := F.out 16
    have f1 : ((w.alloc zform).alloc formsObj).cell? ⟨w.heap.size + 1, 17, none⟩ = some (.string (fpart 8)) := F.out 17
    generalize fname 8 = nm at f0 ⊢
    generalize fpart 8 = ps at f1 ⊢
    go_enter Tryd.func93, Tryd.ntmps93
    go_wp2_with fail
    refine (forms_any _).mono ?_
    rintro e w1 ⟨rfl, rfl⟩
    go_wp2_with fail
    exact bodyPost_ret (v := .tuple #[.agg #[.string nm, .string ps], .bool true]) (by simp [results, Tryd.results93, go_sem, z0, z1]) rfl
      ⟨rfl, by repeat (first | (with_reducible exact Below.refl _ _) | (with_reducible refine Below.alloc ?_ (by simp) _) | refine Below.setCell ?_ (by simp) _)⟩
  · have f0 : ((w.alloc zform).alloc formsObj).cell? ⟨w.heap.size + 1, 18, none⟩ = some (.string (fname 9)) := F.out 18
    have f1 : ((w.alloc zform).alloc formsObj).cell? ⟨w.heap.size + 1, 19, none⟩ = some (.string (fpart 9)) := F.out 19
    generalize fname 9 = nm at f0 ⊢
    generalize fpart 9 = ps at f1 ⊢
    go_enter Tryd.func93, Tryd.ntmps93
    go_wp2_with fail
    refine (forms_any _).mono ?_
    rintro e w1 ⟨rfl, rfl⟩
    go_wp2_with fail
    exact bodyPost_ret (v := .tuple #[.agg #[.string nm, .string ps], .bool true]) (by simp [results, Tryd.results93, go_sem, z0, z1]) rfl
      ⟨rfl, by repeat (first | (with_reducible exact Below.refl _ _) | (with_reducible refine Below.alloc ?_ (by simp) _) | refine Below.setCell ?_ (by simp) _)⟩
  · have f0 : ((w.alloc zform).alloc formsObj).cell? ⟨w.heap.size + 1, 20, none⟩ = some (.string (fname 10)) := F.out 20
    have f1 : ((w.alloc zform).alloc formsObj).cell? ⟨w.heap.size + 1, 21, none⟩ = some (.string (fpart 10)) := F.out 21
    generalize fname 10 = nm at f0 ⊢
    generalize fpart 10 = ps at f1 ⊢
    go_enter Tryd.func93, Tryd.ntmps93
    go_wp2_with fail
    refine (forms_any _).mono ?_
    rintro e w1 ⟨rfl, rfl⟩
    go_wp2_with fail
    exact bodyPost_ret (v := .tuple #[.agg #[.string nm, .string ps], .bool true]) (by simp [results, Tryd.results93, go_sem, z0, z1]) rfl
      ⟨rfl, by repeat (first | (with_reducible exact Below.refl _ _) | (with_reducible refine Below.alloc ?_ (by simp) _) | refine Below.setCell ?_ (by simp) _)⟩
  · have f0 : ((w.alloc zform).alloc formsObj).cell? ⟨w.heap.size + 1, 22, none⟩ = some (.string (fname 11)) := F.out 22
    have f1 : ((w.alloc zform).alloc formsObj).cell? ⟨w.heap.size + 1, 23, none⟩ = some (.string (fpart 11)) := F.out 23
    generalize fname 11 = nm at f0 ⊢
    generalize fpart 11 = ps at f1 ⊢
    go_enter Tryd.func93, Tryd.ntmps93
    go_wp2_with fail
    refine (forms_any _).mono ?_
    rintro e w1 ⟨rfl, rfl⟩
    go_wp2_with fail
    exact bodyPost_ret (v := .tuple #[.agg #[.string nm, .string ps], .bool true]) (by simp [results, Tryd.results93, go_sem, z0, z1]) rfl
      ⟨rfl, by repeat (first | (with_reducible exact Below.refl _ _) | (with_reducible refine Below.alloc ?_ (by simp) _) | refine Below.setCell ?_ (by simp) _)⟩
theorem of_out (w : World) (k : Int) (h : ¬ (1 ≤ k ∧ k ≤ 11)) :
    Calls Tryd.prog 93 #[.int .i64 k] w fun e w' => e = .returned (.tuple #[.agg #[.string ⟨#[]⟩, .string ⟨#[]⟩], .bool false]) ∧ Below w.heap.size w w' := by
  obtain ⟨z0, z1⟩ : ((w.alloc zform).alloc formsObj).cell? ⟨w.heap.size, 0, none⟩ = some (.string ⟨#[]⟩) ∧ ((w.alloc zform).alloc formsObj).cell? ⟨w.heap.size, 1, none⟩ = some (.string ⟨#[]⟩) := ⟨cell_of_block (heap_new1 w zform formsObj) 0, cell_of_block (heap_new1 w zform formsObj) 1⟩
  obtain ⟨y0, y1⟩ : ((w.alloc zform).alloc formsObj).frozen? ⟨w.heap.size, 0, none⟩ = false ∧ ((w.alloc zform).alloc formsObj).frozen? ⟨w.heap.size, 1, none⟩ = false := ⟨frozen_of_block (heap_new1 w zform formsObj) 0, frozen_of_block (heap_new1 w zform formsObj) 1⟩
  by_cases h1 : k < 1
  · have d1 : decide (k < 1) = true := by simpa using h1
    clear h h1
    go_enter Tryd.func93, Tryd.ntmps93
    go_wp2_with fail
    refine (forms_any _).mono ?_
    rintro e w1 ⟨rfl, rfl⟩
    go_wp2_with fail
    exact bodyPost_ret (v := .tuple #[.agg #[.string ⟨#[]⟩, .string ⟨#[]⟩], .bool false]) (by simp [results, Tryd.results93, go_sem, z0, z1]) rfl
      ⟨rfl, by repeat (first | (with_reducible exact Below.refl _ _) | (with_reducible refine Below.alloc ?_ (by simp) _) | refine Below.setCell ?_ (by simp) _)⟩
  · have d1 : decide (k < 1) = false := by simpa using h1
    have d2 : decide ((12 : Int) ≤ k) = true := by simp; omega
    clear h h1
    go_enter Tryd.func93, Tryd.ntmps93
    go_wp2_with fail
    refine (forms_any _).mono ?_
    rintro e w1 ⟨rfl, rfl⟩
    go_wp2_with fail
    exact bodyPost_ret (v := .tuple #[.agg #[.string ⟨#[]⟩, .string ⟨#[]⟩], .bool false]) (by simp [results, Tryd.results93, go_sem, z0, z1]) rfl
      ⟨rfl, by repeat (first | (with_reducible exact Below.refl _ _) | (with_reducible refine Below.alloc ?_ (by simp) _) | refine Below.setCell ?_ (by simp) _)⟩

theorem num_ix0 (w : World) (a b c : Int) : (Instr.index 204 (.agg #[.int .i64 a, .int .i64 b, .int .i64 c]) (.int .i64 0)).run Tryd.prog w = .ok (.int .i64 a) w := by
  simp [Instr.index, run_underlying Tryd.underlying204, asIntOf, go_sem]
theorem num_ix1 (w : World) (a b c : Int) : (Instr.index 204 (.agg #[.int .i64 a, .int .i64 b, .int .i64 c]) (.int .i64 1)).run Tryd.prog w = .ok (.int .i64 b) w := by
  simp [Instr.index, run_underlying Tryd.underlying204, asIntOf, go_sem]
theorem num_ix2 (w : World) (a b c : Int) : (Instr.index 204 (.agg #[.int .i64 a, .int .i64 b, .int .i64 c]) (.int .i64 2)).run Tryd.prog w = .ok (.int .i64 c) w := by
  simp [Instr.index, run_underlying Tryd.underlying204, asIntOf, go_sem]
theorem number_any (w : World) (x : Opr) (i : Nat) (h : i < 3) :
    Calls Tryd.prog 94 #[x.v, .int .i64 i] w fun e w' => e = .returned (.int .i64 (x.num i)) ∧ Below w.heap.size w w' := by
  obtain ⟨k0, k1, k2, k3⟩ := opr_cells (heap_alloc_new w x.obj)
  have i0 := num_ix0 (w.alloc x.obj) x.a x.b x.c
  have i1 := num_ix1 (w.alloc x.obj) x.a x.b x.c
  have i2 := num_ix2 (w.alloc x.obj) x.a x.b x.c
  obtain rfl | rfl | rfl : i = 0 ∨ i = 1 ∨ i = 2 := by omega
  all_goals
    go_enter Tryd.func94, Tryd.ntmps94
    go_wp2_with fail
    go_ret
    exact ⟨rfl, (Below.refl _ _).alloc (Nat.le_refl _) _⟩
end Go.Proofs.YtipoklnoknkfhaaDoor

/- The contracts of census.Join and census.Open; censuses compared. -/
import Derived.Test.YtcheafeaioflmaaDoorCensusOf
import Derived.Laws.StructEq
import Derived.ChangeKeysEq
namespace Go.Proofs.YtcheafeaioflmaaDoor
open Go Go.RowKit Go.Op
set_option linter.unusedSimpArgs false
set_option linter.unusedVariables false

theorem run_part_int (w : World) {e : TypeId} {k : IntKind} (hu : Tryd.prog.underlying e = some (.int k)) (xs : Array Value) (off : Nat) (v : Value) (h : xs[off]? = some v) : (part e xs off).run Tryd.prog w = .ok v w := by
  simp [part, isAgg, run_underlying hu, h]
theorem size_int (w : World) : (sizeOf 3).run Tryd.prog w = .ok 1 w := by
  go_simp
theorem index_12 (w : World) (f : Nat → Int) (k : Nat) (hk : k < 12) : (Instr.index 64 (.agg ((cl f).take 12).toArray) (.int .i64 (k : Int))).run Tryd.prog w = .ok (.int .i64 (f k)) w := by
  have h : (((cl f).take 12).toArray)[k]? = some (.int .i64 (f k)) := by
    rw [List.getElem?_toArray, List.getElem?_take_of_lt hk]
    exact cl_at f k (by omega)
  simp [Instr.index, asIntOf, run_underlying Tryd.underlying64, size_int, hk, run_part_int w Tryd.underlying3 _ _ _ h]
theorem index_7 (w : World) (f : Nat → Int) (k : Nat) (hk : k < 7) : (Instr.index 65 (.agg (((cl f).drop 12).take 7).toArray) (.int .i64 (k : Int))).run Tryd.prog w = .ok (.int .i64 (f (12 + k))) w := by
  have h : ((((cl f).drop 12).take 7).toArray)[k]? = some (.int .i64 (f (12 + k))) := by
    rw [List.getElem?_toArray, List.getElem?_take_of_lt hk, List.getElem?_drop]
    exact cl_at f (12 + k) (by omega)
  simp [Instr.index, asIntOf, run_underlying Tryd.underlying65, size_int, hk, run_part_int w Tryd.underlying3 _ _ _ h]
theorem eqItems_same (w : World) (d : Nat) (xs : Array Value) (f : Nat → Int) : ∀ (is : List Nat), (∀ i ∈ is, xs[i]? = some (.int .i64 (f i))) → (Op.eqItems (d + 1) 3 1 xs xs is).run Tryd.prog w = .ok true w
  | [], _ => rfl
  | i :: is, h => by
    have h0 := h i (by simp)
    have ih := eqItems_same w d xs f is (fun j hj => h j (by simp [hj]))
    simp only [Op.eqItems, Sem.run_bind, Nat.mul_one, run_part_int w Tryd.underlying3 _ _ _ h0, Result.andThen_ok, run_equalIn_int w d 3 .i64 .i64 _ _ Tryd.underlying3]
    simpa using ih
theorem part_12 (w : World) (xs : Array Value) : (part 64 xs 0).run Tryd.prog w = .ok (.agg (xs.extract 0 12)) w := by
  simp [part, isAgg, run_underlying Tryd.underlying64]
theorem part_7 (w : World) (xs : Array Value) : (part 65 xs 12).run Tryd.prog w = .ok (.agg (xs.extract 12 19)) w := by
  simp [part, isAgg, run_underlying Tryd.underlying65]
theorem cl_get (f : Nat → Int) (i : Nat) (h : i < 24) : (cl f).toArray[i]? = some (.int .i64 (f i)) := by rw [List.getElem?_toArray]; exact cl_at f i h
theorem info_int : ∃ i, Tryd.prog.info? 3 = some i := by
  have : (Tryd.prog.info? 3).isSome = true := by kernel_rfl
  exact Option.isSome_iff_exists.1 this
theorem cells_int : Tryd.prog.cellsOf 3 = 1 := by kernel_rfl
theorem equal_census (w : World) (f : Nat → Int) : (Op.equalIn 10000 67 (.agg (cl f).toArray) (.agg (cl f).toArray)).run Tryd.prog w = .ok true w := by
  have hf : Tryd.prog.fieldsOf 67 = #[{ name := "Calls", type := 64, offset := 0, embedded := false, tag := "", pkgPath := "", byteOffset := 0 }, { name := "Returns", type := 65, offset := 12, embedded := false, tag := "", pkgPath := "", byteOffset := 96 }, { name := "Lins", type := 3, offset := 19, embedded := false, tag := "", pkgPath := "", byteOffset := 152 }, { name := "Takes", type := 3, offset := 20, embedded := false, tag := "", pkgPath := "", byteOffset := 160 }, { name := "Appends", type := 3, offset := 21, embedded := false, tag := "", pkgPath := "", byteOffset := 168 }, { name := "Flips", type := 3, offset := 22, embedded := false, tag := "", pkgPath := "", byteOffset := 176 }, { name := "Cycles", type := 3, offset := 23, embedded := false, tag := "", pkgPath := "", byteOffset := 184 }] := by
    simp only [Program.fieldsOf, Tryd.underlying67]
  obtain ⟨i3, h3⟩ := info_int
  have hA : ∀ w, (Op.equalIn 9999 64 (.agg ((cl f).take 12).toArray) (.agg ((cl f).take 12).toArray)).run Tryd.prog w = .ok true w := fun w => by
    rw [run_equalIn_array w 9998 _ _ Tryd.underlying64 h3, cells_int]
    refine eqItems_same w 9997 _ f _ (fun i hi => ?_)
    rw [List.mem_range] at hi
    rw [List.getElem?_toArray, List.getElem?_take_of_lt hi]
    exact cl_at f i (by omega)
  have hB : ∀ w, (Op.equalIn 9999 65 (.agg (((cl f).drop 12).take 7).toArray) (.agg (((cl f).drop 12).take 7).toArray)).run Tryd.prog w = .ok true w := fun w => by
    rw [run_equalIn_array w 9998 _ _ Tryd.underlying65 h3, cells_int]
    refine eqItems_same w 9997 _ (fun i => f (12 + i)) _ (fun i hi => ?_)
    rw [List.mem_range] at hi
    rw [List.getElem?_toArray, List.getElem?_take_of_lt hi, List.getElem?_drop]
    exact cl_at f (12 + i) (by omega)
  have hC : ∀ (w : World) (a : Int), (Op.equalIn 9999 3 (.int .i64 a) (.int .i64 a)).run Tryd.prog w = .ok true w := fun w a => by
    rw [run_equalIn_int w 9998 3 .i64 .i64 a a Tryd.underlying3]; simp
  have hp : ∀ (w : World) (i : Nat), i < 24 → (part 3 (cl f).toArray i).run Tryd.prog w = .ok (.int .i64 (f i)) w := fun w i hi => run_part_int w Tryd.underlying3 _ _ _ (cl_get f i hi)
  rw [run_equalIn_agg w 9999 67 _ _ (by rw [hf]; exact Tryd.underlying67) (by kernel_rfl), hf]
  simp [Op.eqFields, part_12, part_7, hA, hB, hC, hp]
theorem neq_census (w : World) (f : Nat → Int) : (binOp .neq 67 (cval f) (cval f)).run Tryd.prog w = .ok (.bool false) w := by
  rw [run_neq_struct, equal_census]; rfl
theorem eql_census (w : World) (f : Nat → Int) : (binOp .eql 67 (cval f) (cval f)).run Tryd.prog w = .ok (.bool true) w := by
  rw [run_eql_struct, equal_census]; rfl

def cflat (fs : List (Nat → Int)) : List Value := fs.flatMap cl
theorem cflat_len : ∀ fs : List (Nat → Int), (cflat fs).length = fs.length * 24
  | [] => rfl
  | f :: r => by
    have := cflat_len r
    unfold cflat at *
    rw [List.flatMap_cons, List.length_append, this, cl_len, List.length_cons]
    omega
theorem cflat_append (a b : List (Nat → Int)) : cflat (a ++ b) = cflat a ++ cflat b := by simp [cflat]
theorem cflat_at : ∀ (fs : List (Nat → Int)) (j : Nat) (f : Nat → Int), fs[j]? = some f → ∀ i, i < 24 → (cflat fs)[j * 24 + i]? = some (.int .i64 (f i))
  | [], j, f, h, i, hi => by simp at h
  | g :: r, 0, f, h, i, hi => by
    obtain rfl : g = f := by simpa using h
    unfold cflat
    rw [List.flatMap_cons, List.getElem?_append_left (by rw [cl_len]; omega), Nat.zero_mul, Nat.zero_add]
    exact cl_at g i hi
  | g :: r, j + 1, f, h, i, hi => by
    have := cflat_at r j f (by simpa using h) i hi
    unfold cflat at *
    rw [List.flatMap_cons, List.getElem?_append_right (by rw [cl_len]; omega), cl_len, show (j + 1) * 24 + i - 24 = j * 24 + i by omega]
    exact this
theorem cflat_one (fs : List (Nat → Int)) : ∀ u ∈ cflat fs, u.oneCell' = true := by
  intro u hu
  unfold cflat at hu
  obtain ⟨f, _, h⟩ := List.mem_flatMap.1 hu
  exact cl_one f u h
structure Cens (w : World) (A : Option Addr) (fs : List (Nat → Int)) : Prop where
  at_ : 0 < fs.length → ∃ g, A = some ⟨g, 0, none⟩ ∧ g < w.heap.size ∧ ∀ j f, fs[j]? = some f → ∀ i, i < 24 → w.cell? ⟨g, j * 24 + i, none⟩ = some (.int .i64 (f i))
theorem cens_of_own {w : World} {B : Nat} {E : TypeId} {v : Value} {fs : List (Nat → Int)} (h : w.ownsRow B E 24 v fs.length (cflat fs)) : ∃ A c, v = .slice A fs.length c ∧ Cens w A fs := by
  rcases Nat.eq_zero_or_pos fs.length with e | e
  · rcases h.2 with ⟨rfl, _⟩ | ⟨g, cap, cur, rfl, _⟩
    · exact ⟨none, 0, by rw [e], ⟨fun hp => by omega⟩⟩
    · exact ⟨_, _, rfl, ⟨fun hp => by omega⟩⟩
  · obtain ⟨g, cap, rfl, _, hg⟩ := h.form e
    refine ⟨some ⟨g, 0, none⟩, cap, rfl, ⟨fun _ => ⟨g, rfl, hg, fun j f hj i hi => ?_⟩⟩⟩
    have hjl := (List.getElem?_eq_some_iff.1 hj).1
    exact (h.cellAt (j * 24 + i) (by omega)).trans (cflat_at fs j f hj i hi)
def sumF (fs : List (Nat → Int)) (i : Nat) : Int := (fs.map (fun f => f i)).sum
theorem sumF_snoc (fs : List (Nat → Int)) (f : Nat → Int) (i : Nat) : sumF (fs ++ [f]) i = sumF fs i + f i := by simp [sumF, List.sum_append]
theorem sumF_bd : ∀ (fs : List (Nat → Int)) (i : Nat), (∀ f ∈ fs, 0 ≤ f i ∧ f i ≤ 1) → 0 ≤ sumF fs i ∧ sumF fs i ≤ fs.length
  | [], i, _ => by simp [sumF]
  | f :: r, i, h => by
    have h0 := h f (by simp)
    have ih := sumF_bd r i (fun g hg => h g (by simp [hg]))
    have e : sumF (f :: r) i = f i + sumF r i := by simp [sumF]
    rw [e, List.length_cons]
    omega
end Go.Proofs.YtcheafeaioflmaaDoor

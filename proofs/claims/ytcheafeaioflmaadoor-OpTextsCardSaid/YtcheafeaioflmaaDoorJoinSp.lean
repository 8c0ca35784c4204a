/- Join at a space, over bytes. -/
import Derived.Test.YtcheafeaioflmaaDoorParts
import Derived.Test.YtcheafeaioflmaaDoorJoin
namespace Go.Proofs.YtcheafeaioflmaaDoor
open Go Go.RowKit

theorem jbytes_sp : ∀ ss : List ByteArray, jbytes ⟨#[32]⟩ ss = joinSp (ss.map fun s => s.data.toList)
  | [] => rfl
  | [s] => by simp [jbytes, jrest, joinSp]
  | s :: t :: r => by
    have ih := jbytes_sp (t :: r)
    unfold jbytes at ih ⊢
    rw [List.map_cons, List.map_cons, joinSp, ← List.map_cons (f := fun s : ByteArray => s.data.toList), ← ih]
    simp [jrest]
theorem joinSp_nest : ∀ (ts r : List (List UInt8)), ts ≠ [] → joinSp (joinSp ts :: r) = joinSp (ts ++ r)
  | [], _, h => absurd rfl h
  | [p], r, _ => rfl
  | p :: q :: ts, [], _ => by simp [joinSp]
  | p :: q :: ts, s :: r, _ => by
    have ih := joinSp_nest (q :: ts) (s :: r) (by simp)
    have ih' : joinSp (q :: ts) ++ 32 :: joinSp (s :: r) = joinSp (q :: (ts ++ s :: r)) := ih
    show (p ++ 32 :: joinSp (q :: ts)) ++ 32 :: joinSp (s :: r) = p ++ 32 :: joinSp (q :: (ts ++ s :: r))
    rw [← ih']
    simp
theorem joinSp_cons (p : List UInt8) (r : List (List UInt8)) (h : r ≠ []) : joinSp (p :: r) = p ++ 32 :: joinSp r := by
  cases r with
  | nil => exact absurd rfl h
  | cons q r => rfl
end Go.Proofs.YtcheafeaioflmaaDoor

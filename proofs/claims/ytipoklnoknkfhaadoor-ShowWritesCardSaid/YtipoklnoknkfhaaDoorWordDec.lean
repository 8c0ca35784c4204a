/- The value of digits only grows. -/
import Derived.Test.YtipoklnoknkfhaaDoorDec
namespace Go.Proofs.YtipoklnoknkfhaaDoor
open Go Go.RowKit

theorem decFrom_ge (l : List UInt8) : ∀ acc m : Nat, Lib.decFrom acc l = some m → acc ≤ m := by
  induction l with
  | nil => intro acc m h; simp [Lib.decFrom] at h; omega
  | cons c r ih =>
    intro acc m h
    unfold Lib.decFrom at h
    cases hd : Lib.digitVal c with
    | none => rw [hd] at h; cases h
    | some d =>
      rw [hd] at h
      have := ih _ _ h
      omega
end Go.Proofs.YtipoklnoknkfhaaDoor

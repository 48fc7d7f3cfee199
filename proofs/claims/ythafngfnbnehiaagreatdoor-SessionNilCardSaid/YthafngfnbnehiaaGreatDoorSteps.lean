/- Rows of steps, as cells. -/
import Derived.Test.YthafngfnbnehiaaGreatDoorMap
set_option linter.unusedSimpArgs false
set_option linter.unusedVariables false
namespace Go.Proofs.YthafngfnbnehiaaGreatDoor
open Go.RowKit
def stepsV (l : List (Int × Int)) : List Value := l.flatMap fun p => [.int .i8 p.1, .int .i8 p.2]
theorem stepsV_at (l : List (Int × Int)) (k : Nat) (v : Int × Int) (h : l[k]? = some v) : (stepsV l)[k * 2]? = some (.int .i8 v.1) ∧ (stepsV l)[k * 2 + 1]? = some (.int .i8 v.2) := by
  unfold stepsV
  induction l generalizing k with
  | nil => simp at h
  | cons a l ih =>
    cases k with
    | zero => simp at h; subst h; simp [List.flatMap_cons]
    | succ k =>
      have := ih k (by simpa using h)
      rw [show (k + 1) * 2 = k * 2 + 2 by omega]
      simpa [List.flatMap_cons] using this
theorem stepsV_length (l : List (Int × Int)) : (stepsV l).length = l.length * 2 := by
  unfold stepsV
  induction l with
  | nil => rfl
  | cons a l ih => simp [List.flatMap_cons, ih]; omega
end Go.Proofs.YthafngfnbnehiaaGreatDoor

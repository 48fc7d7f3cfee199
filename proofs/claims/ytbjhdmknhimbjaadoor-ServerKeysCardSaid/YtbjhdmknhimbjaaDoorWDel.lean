/- The walk of slices.Delete of one entity. -/
import Derived.Test.YtbjhdmknhimbjaaDoorWRows
set_option linter.unusedSimpArgs false
set_option linter.unusedVariables false
namespace Go.Proofs.YtbjhdmknhimbjaaDoor
open Go.RowKit
theorem entsV_take (l : List EntV) (k : Nat) : (entsV l).take (k * 8) = entsV (l.take k) := by
  induction l generalizing k with
  | nil => simp [entsV]
  | cons a l ih =>
    cases k with
    | zero => simp [entsV]
    | succ k =>
      have e : (k + 1) * 8 = (entCells a).length + k * 8 := by simp [entCells]; omega
      simp only [entsV, List.flatMap_cons, List.take_succ_cons] at ih ⊢
      rw [e, List.take_length_add_append, ih]
theorem entsV_drop (l : List EntV) (k : Nat) : (entsV l).drop (k * 8) = entsV (l.drop k) := by
  induction l generalizing k with
  | nil => simp [entsV]
  | cons a l ih =>
    cases k with
    | zero => simp [entsV]
    | succ k =>
      have e : (k + 1) * 8 = (entCells a).length + k * 8 := by simp [entCells]; omega
      simp only [entsV, List.flatMap_cons, List.drop_succ_cons] at ih ⊢
      rw [e, List.drop_length_add_append, ih]
theorem entsV_append (l m : List EntV) : entsV (l ++ m) = entsV l ++ entsV m := by simp [entsV, List.flatMap_append]
def zero8 : List Value := [.int .i64 0, .int .i64 0, .int .i64 0, .int .i64 0, .int .i64 0, .int .i64 0, .int .i64 0, .int .i64 0]
set_option maxRecDepth 100000 in
set_option maxHeartbeats 4000000 in
theorem zero30 (w : World) : (zeroValue 76).run Tryd.prog w = .ok (.agg zero8.toArray) w := by kernel_rfl
end Go.Proofs.YtbjhdmknhimbjaaDoor

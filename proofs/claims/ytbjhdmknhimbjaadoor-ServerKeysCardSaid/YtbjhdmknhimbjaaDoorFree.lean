/- The walks of tiles.Free and move.Stands. -/
import Derived.Test.YtbjhdmknhimbjaaDoorMapF
set_option linter.unusedSimpArgs false
set_option linter.unusedVariables false
namespace Go.Proofs.YtbjhdmknhimbjaaDoor
open Go.RowKit
theorem ov_y_low {x y : Int} {b : BoxV} (h : (y + 1) * 65536 ≤ b.lo.y) : overlap (tile x y) b = false := by
  unfold overlap tile; rw [Bool.and_eq_false_iff]; right; rw [decide_eq_false_iff_not]; simp only; omega
theorem ov_y_high {x y : Int} {b : BoxV} (h : b.hi.y ≤ y * 65536) : overlap (tile x y) b = false := by
  unfold overlap tile; rw [Bool.and_eq_false_iff]; right; rw [decide_eq_false_iff_not]; simp only; omega
theorem ov_x_low {x y : Int} {b : BoxV} (h : (x + 1) * 65536 ≤ b.lo.x) : overlap (tile x y) b = false := by
  unfold overlap tile; rw [Bool.and_eq_false_iff]; right; rw [decide_eq_false_iff_not]; simp only; omega
theorem ov_x_high {x y : Int} {b : BoxV} (h : b.hi.x ≤ x * 65536) : overlap (tile x y) b = false := by
  unfold overlap tile; rw [Bool.and_eq_false_iff]; right; rw [decide_eq_false_iff_not]; simp only; omega
theorem sizeOk_of_formed {m : MapV} (h : formedB m = true) : 1 ≤ m.W ∧ m.W ≤ 32 ∧ 1 ≤ m.H ∧ m.H ≤ 32 ∧ (m.walls.length : Int) = m.W * m.H := by
  unfold formedB sizeOk at h
  simp only [Bool.and_eq_true, decide_eq_true_eq] at h
  exact ⟨h.1.1, h.1.2.1, h.1.2.2.1, h.1.2.2.2.1, h.1.2.2.2.2.1⟩
def inB (m : MapV) (b : BoxV) : Prop := 0 ≤ b.lo.x ∧ 0 ≤ b.lo.y ∧ b.hi.x ≤ m.W * 65536 ∧ b.hi.y ≤ m.H * 65536
theorem boxOk_le {b : BoxV} (h : boxOk b = true) : b.lo.x ≤ b.hi.x ∧ b.lo.y ≤ b.hi.y ∧ b.hi.x ≤ 134217728 ∧ b.hi.y ≤ 134217728 ∧ -134217728 ≤ b.lo.x ∧ -134217728 ≤ b.lo.y := by
  unfold boxOk vecOk at h
  simp only [Bool.and_eq_true, decide_eq_true_eq] at h
  omega
end Go.Proofs.YtbjhdmknhimbjaaDoor

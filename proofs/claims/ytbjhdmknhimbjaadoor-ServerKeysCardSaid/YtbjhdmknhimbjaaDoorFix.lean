/- The walks of layers 1, 2, 3: numbers, places, boxes. -/
import Derived.Test.YtbjhdmknhimbjaaDoorRow
import Derived.Test.YtbjhdmknhimbjaaDoorKin
import Derived.Test.YtbjhdmknhimbjaaDoorMovePlain
import Derived.Test.YtbjhdmknhimbjaaDoorProg
import Derived.WalkKit
import Derived.WalkSpells
import Derived.WalkLawsBesides
import Derived.Lib.Hide
import Derived.BigQuiet
import Derived.Deep.QuietTactic
import Derived.Deep.RegionHeld3
import Derived.StillTailTactics
set_option linter.unusedSimpArgs false
set_option linter.unusedVariables false
namespace Go.Proofs.YtbjhdmknhimbjaaDoor
open Go.RowKit
theorem holdI_le (x : Int) : -2147483648 ≤ holdI x ∧ holdI x ≤ 2147483647 := by unfold holdI; omega
theorem ret_b {p : Prop} [Decidable p] {b : Bool} (h : b = true ↔ p) : Ending.returned (.bool b) = .returned (.bool (decide p)) := by
  rw [Bool.eq_iff_iff.2 (h.trans decide_eq_true_iff.symm)]
end Go.Proofs.YtbjhdmknhimbjaaDoor

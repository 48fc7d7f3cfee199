/- The walks of layer 12: steps. -/
import Derived.Test.YtbjhdmknhimbjaaDoorFree
set_option linter.unusedSimpArgs false
set_option linter.unusedVariables false
namespace Go.Proofs.YtbjhdmknhimbjaaDoor
open Go.RowKit
theorem Blk.chg {w w' : World} {g : Nat} {t : TypeId} {cs : Array Value} {F : Nat → Prop} (h : Blk w g t cs) (hc : Chg F w w') (hF : ¬ F g) : Blk w' g t cs := (hc.block g h.lt hF).trans h
end Go.Proofs.YtbjhdmknhimbjaaDoor

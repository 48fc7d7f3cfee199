/- The walk of move.Roll. -/
import Derived.Test.YtbjhdmknhimbjaaDoorWalk
set_option linter.unusedSimpArgs false
set_option linter.unusedVariables false
namespace Go.Proofs.YtbjhdmknhimbjaaDoor
open Go.RowKit
end Go.Proofs.YtbjhdmknhimbjaaDoor

/- The walks of layer 10 that layer 12 asks for: formed entities; and a part of the speed. -/
import Derived.Test.YtbjhdmknhimbjaaDoorFix
set_option linter.unusedSimpArgs false
set_option linter.unusedVariables false
namespace Go.Proofs.YtbjhdmknhimbjaaDoor
open Go.RowKit
end Go.Proofs.YtbjhdmknhimbjaaDoor

/- The walk of world.Leave. -/
import Derived.Test.YtbjhdmknhimbjaaDoorWDel
import Derived.Test.YtbjhdmknhimbjaaDoorWHitW
set_option linter.unusedSimpArgs false
set_option linter.unusedVariables false
namespace Go.Proofs.YtbjhdmknhimbjaaDoor
open Go.RowKit
/-- What a world's function hands back, with an error. -/
def GivesE (w w' : World) (v : WorldV) (s : WorldS) (r : Ending) (v' : WorldV) (e : Int) : Prop :=
  ∃ s' : WorldS, r = .returned (.tuple #[(.agg #[.int .i64 v'.map.W, .int .i64 v'.map.H, .slice s'.ms.A s'.ms.n s'.ms.c, .slice s'.ms.A2 s'.ms.n2 s'.ms.c2, .int .u64 v'.st, .int .i64 v'.tick, .slice s'.A s'.n s'.c]), .int .i64 e]) ∧ WorldAt w' w'.heap.size v' s' ∧ s'.ms = s.ms ∧ Held w w' s s' v'.l ∧ Below w.heap.size w w'
def leaveL (l : List EntV) (id : Int) : List EntV := if playerF l id = -1 then l else l.take (playerF l id).toNat ++ l.drop ((playerF l id).toNat + 1)
def leaveE (l : List EntV) (id : Int) : Int := if playerF l id = -1 then 6 else 0
end Go.Proofs.YtbjhdmknhimbjaaDoor
